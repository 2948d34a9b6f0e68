/-
  The walks of the marks layer: the law of whatever order.
  Conditions: none. Lemmas only.
-/
import Derived.Test.YtgkpidbeoccpnaaMarW
set_option linter.all false
set_option linter.unusedSimpArgs false
set_option linter.unusedVariables false
set_option maxRecDepth 8000
set_option maxHeartbeats 4000000
namespace Go.Proofs.Ytgkpidbeoccpnaa
open Go Go.Abs Go.Proofs Go.Fug
def intsC (l : List Int) : List AV := l.map fun n => .sc (.int .i64 n)
theorem intsC_length (l : List Int) : (intsC l).length = l.length := by simp [intsC]
theorem intsC_get {l : List Int} {i : Nat} (h : i < l.length) : (intsC l)[i]? = some (.sc (.int .i64 l[i])) := by
  unfold intsC
  rw [List.getElem?_map,List.getElem?_eq_getElem h]; rfl
theorem mconv_no (E : List Ins) (D : List EId) (M : List Mk) (ts : List Int) (h : ¬ (fewP E D M = true ∧ ts.length ≤ 100)) (hl : ts.length ≤ 1048576) : APure Try.prog 6 [pageV E D M,.imm 0 (intsC ts) ts.length] (.sc (.bool true)) := by
  have haw := awake_pure
  have hf := few_pure E D M
  cases few : fewP E D M with
  | false =>
    rw [few] at hf
    refine apure_of_cwp (c := ⟨Try.prog,126,[(18,[0,0,1,0,0,0,0,1,0,0,0,0,0]),(19,[0,0,0,0,0,0,0,1,0,0,0,1,0,2,0,2]),(1000000,[2]),(1000007,[7]),(4000023,[4]),(4000022,[8,10,17]),(4000019,[5,8,10,12,66,67,68]),(4000018,[5,8,10,12,15,16,66,67,68]),(4000016,[5,8,10,12,13,14,66,67,68]),(4000013,[1,5,8,10,12]),(4000012,[1,5,8,10]),(4000011,[1,5,8]),(4000009,[1,5,31,32,33]),(4000008,[1,5,7,31,32,33,44]),(4000001,[1,2,26])],[1000062,1000065],[]⟩) (rs := [ResultVar.tmp 4]) Try.mixed Try.func6 rfl rfl rfl (Nat.le_of_ble_eq_true rfl) (by kernel_rfl) fun H => ?_
    simp (disch := omega) only [↓runPre,runPost,fieldO,ixA,cutA,lenA,aggA,rowA,appA,mkA,indA,bnd,srcA,sameOp,funcA,cvO,partA,aggD,↓PostP,resV,resAll,resOne,resVF,resAllF,resOneF,fitsAll,fitsR,fits,frz,Post,Nat.reduceBEq,Nat.reduceLT,reduceCtorEq,↓reduceIte,initS,AV.cellsOf,AV.fine,AV.one,repA,Nat.reduceMul,Nat.reduceAdd,Nat.reduceLeDiff,Nat.reduceEqDiff,Int.reduceToNat,Nat.reduceSub,Nat.reduceMod,Nat.reduceDiv,indexK.aggOf,Int.reducePow,Int.reduceLE,Int.reduceNeg,Int.reduceLT,Int.reduceBEq,Int.reduceBNe,Int.reduceEq,ownA,nilA,Try.facts]
    intro k1 hk10 hk1
    simp (disch := omega) only [↓runPre,runPost,fieldO,ixA,cutA,lenA,aggA,rowA,appA,mkA,indA,bnd,srcA,sameOp,funcA,cvO,partA,aggD,↓PostP,resV,resAll,resOne,resVF,resAllF,resOneF,fitsAll,fitsR,fits,frz,Post,Nat.reduceBEq,Nat.reduceLT,reduceCtorEq,↓reduceIte,initS,AV.cellsOf,AV.fine,AV.one,repA,Nat.reduceMul,Nat.reduceAdd,Nat.reduceLeDiff,Nat.reduceEqDiff,Int.reduceToNat,Nat.reduceSub,Nat.reduceMod,Nat.reduceDiv,indexK.aggOf,Int.reducePow,Int.reduceLE,Int.reduceNeg,Int.reduceLT,Int.reduceBEq,Int.reduceBNe,Int.reduceEq,ownA,nilA,Try.facts,kill_box hk1,putCells_eq]
    first | refine CallK.p (hf) ?_ | refine CallP.i (hf) ?_
    simp (disch := omega) only [↓runPre,runPost,fieldO,ixA,cutA,lenA,aggA,rowA,appA,mkA,indA,bnd,srcA,sameOp,funcA,cvO,partA,aggD,↓PostP,resV,resAll,resOne,resVF,resAllF,resOneF,fitsAll,fitsR,fits,frz,Post,Nat.reduceBEq,Nat.reduceLT,reduceCtorEq,↓reduceIte,initS,AV.cellsOf,AV.fine,AV.one,repA,Nat.reduceMul,Nat.reduceAdd,Nat.reduceLeDiff,Nat.reduceEqDiff,Int.reduceToNat,Nat.reduceSub,Nat.reduceMod,Nat.reduceDiv,indexK.aggOf,Int.reducePow,Int.reduceLE,Int.reduceNeg,Int.reduceLT,Int.reduceBEq,Int.reduceBNe,Int.reduceEq,ownA,nilA,Try.facts]
    first | refine CallK.p (haw) ?_ | refine CallP.i (haw) ?_
    simp (disch := omega) only [↓runPre,runPost,fieldO,ixA,cutA,lenA,aggA,rowA,appA,mkA,indA,bnd,srcA,sameOp,funcA,cvO,partA,aggD,↓PostP,resV,resAll,resOne,resVF,resAllF,resOneF,fitsAll,fitsR,fits,frz,Post,Nat.reduceBEq,Nat.reduceLT,reduceCtorEq,↓reduceIte,initS,AV.cellsOf,AV.fine,AV.one,repA,Nat.reduceMul,Nat.reduceAdd,Nat.reduceLeDiff,Nat.reduceEqDiff,Int.reduceToNat,Nat.reduceSub,Nat.reduceMod,Nat.reduceDiv,indexK.aggOf,Int.reducePow,Int.reduceLE,Int.reduceNeg,Int.reduceLT,Int.reduceBEq,Int.reduceBNe,Int.reduceEq,ownA,nilA,Try.facts]
    exact Abs.Sub.refl _
  | true =>
    rw [few] at hf
    have ht : ¬ ts.length ≤ 100 := fun e => h ⟨few,e⟩
    refine apure_of_cwp (c := ⟨Try.prog,126,[(18,[0,0,1,0,0,0,0,1,0,0,0,0,0]),(19,[0,0,0,0,0,0,0,1,0,0,0,1,0,2,0,2]),(1000000,[2]),(1000007,[7]),(4000023,[4]),(4000022,[8,10,17]),(4000019,[5,8,10,12,66,67,68]),(4000018,[5,8,10,12,15,16,66,67,68]),(4000016,[5,8,10,12,13,14,66,67,68]),(4000013,[1,5,8,10,12]),(4000012,[1,5,8,10]),(4000011,[1,5,8]),(4000009,[1,5,31,32,33]),(4000008,[1,5,7,31,32,33,44]),(4000001,[1,2,26])],[1000062,1000065],[]⟩) (rs := [ResultVar.tmp 4]) Try.mixed Try.func6 rfl rfl rfl (Nat.le_of_ble_eq_true rfl) (by kernel_rfl) fun H => ?_
    simp (disch := omega) only [↓runPre,runPost,fieldO,ixA,cutA,lenA,aggA,rowA,appA,mkA,indA,bnd,srcA,sameOp,funcA,cvO,partA,aggD,↓PostP,resV,resAll,resOne,resVF,resAllF,resOneF,fitsAll,fitsR,fits,frz,Post,Nat.reduceBEq,Nat.reduceLT,reduceCtorEq,↓reduceIte,initS,AV.cellsOf,AV.fine,AV.one,repA,Nat.reduceMul,Nat.reduceAdd,Nat.reduceLeDiff,Nat.reduceEqDiff,Int.reduceToNat,Nat.reduceSub,Nat.reduceMod,Nat.reduceDiv,indexK.aggOf,Int.reducePow,Int.reduceLE,Int.reduceNeg,Int.reduceLT,Int.reduceBEq,Int.reduceBNe,Int.reduceEq,ownA,nilA,Try.facts,dT,dF,qT,qF,nT,nF,Bool.false_and,Bool.and_false]
    intro k1 hk10 hk1
    simp (disch := omega) only [↓runPre,runPost,fieldO,ixA,cutA,lenA,aggA,rowA,appA,mkA,indA,bnd,srcA,sameOp,funcA,cvO,partA,aggD,↓PostP,resV,resAll,resOne,resVF,resAllF,resOneF,fitsAll,fitsR,fits,frz,Post,Nat.reduceBEq,Nat.reduceLT,reduceCtorEq,↓reduceIte,initS,AV.cellsOf,AV.fine,AV.one,repA,Nat.reduceMul,Nat.reduceAdd,Nat.reduceLeDiff,Nat.reduceEqDiff,Int.reduceToNat,Nat.reduceSub,Nat.reduceMod,Nat.reduceDiv,indexK.aggOf,Int.reducePow,Int.reduceLE,Int.reduceNeg,Int.reduceLT,Int.reduceBEq,Int.reduceBNe,Int.reduceEq,ownA,nilA,Try.facts,kill_box hk1,putCells_eq,dT,dF,qT,qF,nT,nF,Bool.false_and,Bool.and_false]
    first | refine CallK.p (hf) ?_ | refine CallP.i (hf) ?_
    simp (disch := omega) only [↓runPre,runPost,fieldO,ixA,cutA,lenA,aggA,rowA,appA,mkA,indA,bnd,srcA,sameOp,funcA,cvO,partA,aggD,↓PostP,resV,resAll,resOne,resVF,resAllF,resOneF,fitsAll,fitsR,fits,frz,Post,Nat.reduceBEq,Nat.reduceLT,reduceCtorEq,↓reduceIte,initS,AV.cellsOf,AV.fine,AV.one,repA,Nat.reduceMul,Nat.reduceAdd,Nat.reduceLeDiff,Nat.reduceEqDiff,Int.reduceToNat,Nat.reduceSub,Nat.reduceMod,Nat.reduceDiv,indexK.aggOf,Int.reducePow,Int.reduceLE,Int.reduceNeg,Int.reduceLT,Int.reduceBEq,Int.reduceBNe,Int.reduceEq,ownA,nilA,Try.facts,dT,dF,qT,qF,nT,nF,Bool.false_and,Bool.and_false]
    first | refine CallK.p (haw) ?_ | refine CallP.i (haw) ?_
    simp (disch := omega) only [↓runPre,runPost,fieldO,ixA,cutA,lenA,aggA,rowA,appA,mkA,indA,bnd,srcA,sameOp,funcA,cvO,partA,aggD,↓PostP,resV,resAll,resOne,resVF,resAllF,resOneF,fitsAll,fitsR,fits,frz,Post,Nat.reduceBEq,Nat.reduceLT,reduceCtorEq,↓reduceIte,initS,AV.cellsOf,AV.fine,AV.one,repA,Nat.reduceMul,Nat.reduceAdd,Nat.reduceLeDiff,Nat.reduceEqDiff,Int.reduceToNat,Nat.reduceSub,Nat.reduceMod,Nat.reduceDiv,indexK.aggOf,Int.reducePow,Int.reduceLE,Int.reduceNeg,Int.reduceLT,Int.reduceBEq,Int.reduceBNe,Int.reduceEq,ownA,nilA,Try.facts]
    exact Abs.Sub.refl _
theorem mconv_yes (E : List Ins) (D : List EId) (M : List Mk) (ts : List Int) (few : fewP E D M = true) (htl : ts.length ≤ 100) : APure Try.prog 6 [pageV E D M,.imm 0 (intsC ts) ts.length] (.sc (.bool true)) := by
  have haw := awake_pure
  have hf := few_pure E D M
  rw [few] at hf
  obtain ⟨hE,hD,hM⟩ : E.length ≤ 40 ∧ D.length ≤ 40 ∧ M.length ≤ 20 := by unfold fewP at few; simpa using few
  have hit := intsC_length ts
  have hdl := mksC_length M
  refine apure_of_cwp (c := ⟨Try.prog,126,[(18,[0,0,1,0,0,0,0,1,0,0,0,0,0]),(19,[0,0,0,0,0,0,0,1,0,0,0,1,0,2,0,2]),(1000000,[2]),(1000007,[7]),(4000023,[4]),(4000022,[8,10,17]),(4000019,[5,8,10,12,66,67,68]),(4000018,[5,8,10,12,15,16,66,67,68]),(4000016,[5,8,10,12,13,14,66,67,68]),(4000013,[1,5,8,10,12]),(4000012,[1,5,8,10]),(4000011,[1,5,8]),(4000009,[1,5,31,32,33]),(4000008,[1,5,7,31,32,33,44]),(4000001,[1,2,26])],[1000062,1000065],[]⟩) (rs := [ResultVar.tmp 4]) Try.mixed Try.func6 rfl rfl rfl (Nat.le_of_ble_eq_true rfl) (by kernel_rfl) fun H => ?_
  simp (disch := omega) only [↓runPre,runPost,fieldO,ixA,cutA,lenA,aggA,rowA,appA,mkA,indA,bnd,srcA,sameOp,funcA,cvO,partA,aggD,↓PostP,resV,resAll,resOne,resVF,resAllF,resOneF,fitsAll,fitsR,fits,frz,Post,Nat.reduceBEq,Nat.reduceLT,reduceCtorEq,↓reduceIte,initS,AV.cellsOf,AV.fine,AV.one,repA,Nat.reduceMul,Nat.reduceAdd,Nat.reduceLeDiff,Nat.reduceEqDiff,Int.reduceToNat,Nat.reduceSub,Nat.reduceMod,Nat.reduceDiv,indexK.aggOf,Int.reducePow,Int.reduceLE,Int.reduceNeg,Int.reduceLT,Int.reduceBEq,Int.reduceBNe,Int.reduceEq,ownA,nilA,Try.facts,dT,dF,qT,qF,nT,nF,Bool.false_and,Bool.and_false]
  intro k1 hk10 hk1
  simp (disch := omega) only [↓runPre,runPost,fieldO,ixA,cutA,lenA,aggA,rowA,appA,mkA,indA,bnd,srcA,sameOp,funcA,cvO,partA,aggD,↓PostP,resV,resAll,resOne,resVF,resAllF,resOneF,fitsAll,fitsR,fits,frz,Post,Nat.reduceBEq,Nat.reduceLT,reduceCtorEq,↓reduceIte,initS,AV.cellsOf,AV.fine,AV.one,repA,Nat.reduceMul,Nat.reduceAdd,Nat.reduceLeDiff,Nat.reduceEqDiff,Int.reduceToNat,Nat.reduceSub,Nat.reduceMod,Nat.reduceDiv,indexK.aggOf,Int.reducePow,Int.reduceLE,Int.reduceNeg,Int.reduceLT,Int.reduceBEq,Int.reduceBNe,Int.reduceEq,ownA,nilA,Try.facts,kill_box hk1,putCells_eq,dT,dF,qT,qF,nT,nF,Bool.false_and,Bool.and_false]
  first | refine CallK.p (hf) ?_ | refine CallP.i (hf) ?_
  simp (disch := omega) only [↓runPre,runPost,fieldO,ixA,cutA,lenA,aggA,rowA,appA,mkA,indA,bnd,srcA,sameOp,funcA,cvO,partA,aggD,↓PostP,resV,resAll,resOne,resVF,resAllF,resOneF,fitsAll,fitsR,fits,frz,Post,Nat.reduceBEq,Nat.reduceLT,reduceCtorEq,↓reduceIte,initS,AV.cellsOf,AV.fine,AV.one,repA,Nat.reduceMul,Nat.reduceAdd,Nat.reduceLeDiff,Nat.reduceEqDiff,Int.reduceToNat,Nat.reduceSub,Nat.reduceMod,Nat.reduceDiv,indexK.aggOf,Int.reducePow,Int.reduceLE,Int.reduceNeg,Int.reduceLT,Int.reduceBEq,Int.reduceBNe,Int.reduceEq,ownA,nilA,Try.facts,dT,dF,qT,qF,nT,nF,Bool.false_and,Bool.and_false]
  intro b5 hb50 hb5
  simp (disch := omega) only [↓runPre,runPost,fieldO,ixA,cutA,lenA,aggA,rowA,appA,mkA,indA,bnd,srcA,sameOp,funcA,cvO,partA,aggD,↓PostP,resV,resAll,resOne,resVF,resAllF,resOneF,fitsAll,fitsR,fits,frz,Post,Nat.reduceBEq,Nat.reduceLT,reduceCtorEq,↓reduceIte,initS,AV.cellsOf,AV.fine,AV.one,repA,Nat.reduceMul,Nat.reduceAdd,Nat.reduceLeDiff,Nat.reduceEqDiff,Int.reduceToNat,Nat.reduceSub,Nat.reduceMod,Nat.reduceDiv,indexK.aggOf,Int.reducePow,Int.reduceLE,Int.reduceNeg,Int.reduceLT,Int.reduceBEq,Int.reduceBNe,Int.reduceEq,ownA,nilA,Try.facts,putCells_eq,dT,dF,qT,qF,nT,nF,Bool.false_and,Bool.and_false]
  refine tok_c b5 2 set_get rfl fun k hk0 hk => ?_
  simp only [List.set_cons_zero,List.set_cons_succ,set_set]
  have nb5 := set_ne hk
  have hkH := subset_set hk
  refine loop_t (c := ⟨Try.prog,126,[(18,[0,0,1,0,0,0,0,1,0,0,0,0,0]),(19,[0,0,0,0,0,0,0,1,0,0,0,1,0,2,0,2]),(1000000,[2]),(1000007,[7]),(4000023,[4]),(4000022,[8,10,17]),(4000019,[5,8,10,12,66,67,68]),(4000018,[5,8,10,12,15,16,66,67,68]),(4000016,[5,8,10,12,13,14,66,67,68]),(4000013,[1,5,8,10,12]),(4000012,[1,5,8,10]),(4000011,[1,5,8]),(4000009,[1,5,31,32,33]),(4000008,[1,5,7,31,32,33,44]),(4000001,[1,2,26])],[1000062,1000065],[]⟩) Try.mixed (by kernel_rfl) (fun mm σ H' => ∃ (i : Nat) (O : List Mk) (k : Nat) (o : AObj),i + mm = M.length ∧ O.length ≤ i ∧ uniqM O ∧ k ≠ 0 ∧ H k = none ∧ ¬ b5 = k ∧ Abs.Sub H H' ∧ H' b5 = some (.cells [inssV E,idsV D,.imm k (mksC O) O.length] 45 3) ∧ H' k = some o ∧ TokO 31 10 o (O.length * 10) ∧
    σ 1 = .imm 0 (intsC ts) ts.length ∧ σ 5 = .ptr b5 0 ∧ σ 31 = mksV M ∧ σ 32 = .sc (.int .i64 M.length) ∧ σ 33 = .sc (.int .i64 (i : Nat))) M.length ?_ ?_
  · refine ⟨0,[],k,.nilt,by omega,by simp,by intro i hi; simp at hi,hk0,hkH,nb5,?_,set_get,?_,.inr ⟨rfl,rfl⟩,?_⟩
    · exact ((Sub.set_new hb5).set_free hkH).set_free hb5
    · rw [set_other (fun e => nb5 e.symm),set_get]
    · simp (disch := omega) only [↓runPre,runPost,fieldO,ixA,cutA,lenA,aggA,rowA,appA,mkA,indA,bnd,srcA,sameOp,funcA,cvO,partA,aggD,↓PostP,resV,resAll,resOne,resVF,resAllF,resOneF,fitsAll,fitsR,fits,frz,Post,Nat.reduceBEq,Nat.reduceLT,reduceCtorEq,↓reduceIte,initS,AV.cellsOf,AV.fine,AV.one,repA,Nat.reduceMul,Nat.reduceAdd,Nat.reduceLeDiff,Nat.reduceEqDiff,Int.reduceToNat,Nat.reduceSub,Nat.reduceMod,Nat.reduceDiv,indexK.aggOf,Int.reducePow,Int.reduceLE,Int.reduceNeg,Int.reduceLT,Int.reduceBEq,Int.reduceBNe,Int.reduceEq,ownA,nilA,Try.facts]
  · clear hk hk0 hkH nb5 k
    rintro mm σ H' ⟨i,O,k,o,him,hOi,hu,hk0,hk,nb5,hs,v5,vk,ho,s1,s5,s31,s32,s33⟩
    have hOd := mksC_length O
    by_cases hlt : i < M.length
    · have hld := mksC_load hlt
      have hle : i * 10 + 10 ≤ M.length * 10 := by omega
      generalize M[i] = q at *
      have hrh := rmhas_pure O q.clock q.author (by omega)
      have hsn := mksC_snoc O q
      have hsu := fun h => hu.snoc (m := q) h
      have hO1 : (O ++ [q]).length = O.length + 1 := by simp
      have hsl := mksC_length (O ++ [q])
      generalize O ++ [q] = O2 at *
      generalize hasM O q.clock q.author = hz at *
      obtain ⟨mc,ma,⟨f1,f2⟩,fb,⟨t1,t2⟩,tb,nm,vl⟩ := q
      simp only [mkC] at hld hsn
      simp only [] at hrh
      cases hz with
      | true =>
        simp (disch := omega) only [↓runPre,runPost,fieldO,ixA,cutA,lenA,aggA,rowA,appA,mkA,indA,bnd,srcA,sameOp,funcA,cvO,partA,aggD,↓PostP,resV,resAll,resOne,resVF,resAllF,resOneF,fitsAll,fitsR,fits,frz,Post,Nat.reduceBEq,Nat.reduceLT,reduceCtorEq,↓reduceIte,initS,AV.cellsOf,AV.fine,AV.one,repA,Nat.reduceMul,Nat.reduceAdd,Nat.reduceLeDiff,Nat.reduceEqDiff,Int.reduceToNat,Nat.reduceSub,Nat.reduceMod,Nat.reduceDiv,indexK.aggOf,Int.reducePow,Int.reduceLE,Int.reduceNeg,Int.reduceLT,Int.reduceBEq,Int.reduceBNe,Int.reduceEq,ownA,nilA,Try.facts,s1,s5,s31,s32,s33,dT,dF,qT,qF,nT,nF,Bool.false_and,Bool.and_false,hld,hle,hdl]
        intro b7 hb70 hb7
        simp (disch := omega) only [↓runPre,runPost,fieldO,ixA,cutA,lenA,aggA,rowA,appA,mkA,indA,bnd,srcA,sameOp,funcA,cvO,partA,aggD,↓PostP,resV,resAll,resOne,resVF,resAllF,resOneF,fitsAll,fitsR,fits,frz,Post,Nat.reduceBEq,Nat.reduceLT,reduceCtorEq,↓reduceIte,initS,AV.cellsOf,AV.fine,AV.one,repA,Nat.reduceMul,Nat.reduceAdd,Nat.reduceLeDiff,Nat.reduceEqDiff,Int.reduceToNat,Nat.reduceSub,Nat.reduceMod,Nat.reduceDiv,indexK.aggOf,Int.reducePow,Int.reduceLE,Int.reduceNeg,Int.reduceLT,Int.reduceBEq,Int.reduceBNe,Int.reduceEq,ownA,nilA,Try.facts,s1,s5,s31,s32,s33,dT,dF,qT,qF,nT,nF,Bool.false_and,Bool.and_false,kill_box hb7,putCells_eq,v5]
        first | refine CallK.p (hrh) ?_ | refine CallP.i (hrh) ?_
        simp (disch := omega) only [↓runPre,runPost,fieldO,ixA,cutA,lenA,aggA,rowA,appA,mkA,indA,bnd,srcA,sameOp,funcA,cvO,partA,aggD,↓PostP,resV,resAll,resOne,resVF,resAllF,resOneF,fitsAll,fitsR,fits,frz,Post,Nat.reduceBEq,Nat.reduceLT,reduceCtorEq,↓reduceIte,initS,AV.cellsOf,AV.fine,AV.one,repA,Nat.reduceMul,Nat.reduceAdd,Nat.reduceLeDiff,Nat.reduceEqDiff,Int.reduceToNat,Nat.reduceSub,Nat.reduceMod,Nat.reduceDiv,indexK.aggOf,Int.reducePow,Int.reduceLE,Int.reduceNeg,Int.reduceLT,Int.reduceBEq,Int.reduceBNe,Int.reduceEq,ownA,nilA,Try.facts,s1,s5,s31,s32,s33,dT,dF,qT,qF,nT,nF,Bool.false_and,Bool.and_false]
        exact ⟨mm - 1,by omega,i + 1,O,k,o,by omega,by omega,hu,hk0,hk,nb5,hs,v5,vk,ho,rfl⟩
      | false =>
        simp (disch := omega) only [↓runPre,runPost,fieldO,ixA,cutA,lenA,aggA,rowA,appA,mkA,indA,bnd,srcA,sameOp,funcA,cvO,partA,aggD,↓PostP,resV,resAll,resOne,resVF,resAllF,resOneF,fitsAll,fitsR,fits,frz,Post,Nat.reduceBEq,Nat.reduceLT,reduceCtorEq,↓reduceIte,initS,AV.cellsOf,AV.fine,AV.one,repA,Nat.reduceMul,Nat.reduceAdd,Nat.reduceLeDiff,Nat.reduceEqDiff,Int.reduceToNat,Nat.reduceSub,Nat.reduceMod,Nat.reduceDiv,indexK.aggOf,Int.reducePow,Int.reduceLE,Int.reduceNeg,Int.reduceLT,Int.reduceBEq,Int.reduceBNe,Int.reduceEq,ownA,nilA,Try.facts,s1,s5,s31,s32,s33,dT,dF,qT,qF,nT,nF,Bool.false_and,Bool.and_false,hld,hle,hdl]
        intro b7 hb70 hb7
        simp (disch := omega) only [↓runPre,runPost,fieldO,ixA,cutA,lenA,aggA,rowA,appA,mkA,indA,bnd,srcA,sameOp,funcA,cvO,partA,aggD,↓PostP,resV,resAll,resOne,resVF,resAllF,resOneF,fitsAll,fitsR,fits,frz,Post,Nat.reduceBEq,Nat.reduceLT,reduceCtorEq,↓reduceIte,initS,AV.cellsOf,AV.fine,AV.one,repA,Nat.reduceMul,Nat.reduceAdd,Nat.reduceLeDiff,Nat.reduceEqDiff,Int.reduceToNat,Nat.reduceSub,Nat.reduceMod,Nat.reduceDiv,indexK.aggOf,Int.reducePow,Int.reduceLE,Int.reduceNeg,Int.reduceLT,Int.reduceBEq,Int.reduceBNe,Int.reduceEq,ownA,nilA,Try.facts,s1,s5,s31,s32,s33,dT,dF,qT,qF,nT,nF,Bool.false_and,Bool.and_false,kill_box hb7,putCells_eq,v5]
        first | refine CallK.p (hrh) ?_ | refine CallP.i (hrh) ?_
        simp (disch := omega) only [↓runPre,runPost,fieldO,ixA,cutA,lenA,aggA,rowA,appA,mkA,indA,bnd,srcA,sameOp,funcA,cvO,partA,aggD,↓PostP,resV,resAll,resOne,resVF,resAllF,resOneF,fitsAll,fitsR,fits,frz,Post,Nat.reduceBEq,Nat.reduceLT,reduceCtorEq,↓reduceIte,initS,AV.cellsOf,AV.fine,AV.one,repA,Nat.reduceMul,Nat.reduceAdd,Nat.reduceLeDiff,Nat.reduceEqDiff,Int.reduceToNat,Nat.reduceSub,Nat.reduceMod,Nat.reduceDiv,indexK.aggOf,Int.reducePow,Int.reduceLE,Int.reduceNeg,Int.reduceLT,Int.reduceBEq,Int.reduceBNe,Int.reduceEq,ownA,nilA,Try.facts,s1,s5,s31,s32,s33,dT,dF,qT,qF,nT,nF,Bool.false_and,Bool.and_false,kill_box hb7,putCells_eq,v5,vk,ho,hOd,hsn]
        intro k2 o2 hk20 hk2 ho2
        have n5 := ne_live v5 hk2
        simp (disch := omega) only [↓runPre,runPost,fieldO,ixA,cutA,lenA,aggA,rowA,appA,mkA,indA,bnd,srcA,sameOp,funcA,cvO,partA,aggD,↓PostP,resV,resAll,resOne,resVF,resAllF,resOneF,fitsAll,fitsR,fits,frz,Post,Nat.reduceBEq,Nat.reduceLT,reduceCtorEq,↓reduceIte,initS,AV.cellsOf,AV.fine,AV.one,repA,Nat.reduceMul,Nat.reduceAdd,Nat.reduceLeDiff,Nat.reduceEqDiff,Int.reduceToNat,Nat.reduceSub,Nat.reduceMod,Nat.reduceDiv,indexK.aggOf,Int.reducePow,Int.reduceLE,Int.reduceNeg,Int.reduceLT,Int.reduceBEq,Int.reduceBNe,Int.reduceEq,ownA,nilA,Try.facts,s1,s5,s31,s32,s33,dT,dF,qT,qF,nT,nF,Bool.false_and,Bool.and_false,putCells_eq,set_other,kill_other,n5,nb5,v5]
        have n6 : ¬ k2 = b5 := fun e => n5 e.symm
        refine ⟨mm - 1,by omega,i + 1,O2,k2,o2,by omega,by omega,hsu rfl,hk20,hs.free hk2,n5,((hs.kill_free hk).set_free (hs.free hk2)).set_free hb5,by rw [hO1],by rw [set_other n6,set_get],?_,rfl⟩
        rw [hsl] at ho2
        exact ho2
    · obtain rfl : i = M.length := by omega
      simp (disch := omega) only [↓runPre,runPost,fieldO,ixA,cutA,lenA,aggA,rowA,appA,mkA,indA,bnd,srcA,sameOp,funcA,cvO,partA,aggD,↓PostP,resV,resAll,resOne,resVF,resAllF,resOneF,fitsAll,fitsR,fits,frz,Post,Nat.reduceBEq,Nat.reduceLT,reduceCtorEq,↓reduceIte,initS,AV.cellsOf,AV.fine,AV.one,repA,Nat.reduceMul,Nat.reduceAdd,Nat.reduceLeDiff,Nat.reduceEqDiff,Int.reduceToNat,Nat.reduceSub,Nat.reduceMod,Nat.reduceDiv,indexK.aggOf,Int.reducePow,Int.reduceLE,Int.reduceNeg,Int.reduceLT,Int.reduceBEq,Int.reduceBNe,Int.reduceEq,ownA,nilA,Try.facts,s1,s5,s31,s32,s33,dT,dF,qT,qF,nT,nF,Bool.false_and,Bool.and_false,v5]
      refine CallK.i (ptext_live H' E D O hE hD) ?_
      rintro v H1 ⟨h,m,L,G,rfl,hh,hm,hs1,t,hLE⟩
      have v5a := hs1 _ _ v5
      simp (disch := omega) only [↓runPre,runPost,fieldO,ixA,cutA,lenA,aggA,rowA,appA,mkA,indA,bnd,srcA,sameOp,funcA,cvO,partA,aggD,↓PostP,resV,resAll,resOne,resVF,resAllF,resOneF,fitsAll,fitsR,fits,frz,Post,Nat.reduceBEq,Nat.reduceLT,reduceCtorEq,↓reduceIte,initS,AV.cellsOf,AV.fine,AV.one,repA,Nat.reduceMul,Nat.reduceAdd,Nat.reduceLeDiff,Nat.reduceEqDiff,Int.reduceToNat,Nat.reduceSub,Nat.reduceMod,Nat.reduceDiv,indexK.aggOf,Int.reducePow,Int.reduceLE,Int.reduceNeg,Int.reduceLT,Int.reduceBEq,Int.reduceBNe,Int.reduceEq,ownA,nilA,Try.facts,s1,s5,dT,dF,qT,qF,nT,nF,Bool.false_and,Bool.and_false,v5a]
      refine CallK.i (pbook_live H1 E D O (by omega)) ?_
      rintro v H2 ⟨hb,rfl,hb0,hbf,hs2,vb⟩
      have v5b := hs2 _ _ v5a
      have t2 := t.mono hs2
      have q1 := ne_live v5 hh
      have q2 := ne_live v5 hm
      have q3 := ne_live v5a hbf
      have hsA : Abs.Sub H H2 := hs.trans (hs1.trans hs2)
      clear hs hs1 hs2 vk t v5 v5a
      simp (disch := omega) only [↓runPre,runPost,fieldO,ixA,cutA,lenA,aggA,rowA,appA,mkA,indA,bnd,srcA,sameOp,funcA,cvO,partA,aggD,↓PostP,resV,resAll,resOne,resVF,resAllF,resOneF,fitsAll,fitsR,fits,frz,Post,Nat.reduceBEq,Nat.reduceLT,reduceCtorEq,↓reduceIte,initS,AV.cellsOf,AV.fine,AV.one,repA,Nat.reduceMul,Nat.reduceAdd,Nat.reduceLeDiff,Nat.reduceEqDiff,Int.reduceToNat,Nat.reduceSub,Nat.reduceMod,Nat.reduceDiv,indexK.aggOf,Int.reducePow,Int.reduceLE,Int.reduceNeg,Int.reduceLT,Int.reduceBEq,Int.reduceBNe,Int.reduceEq,ownA,nilA,Try.facts,s1,s5,dT,dF,qT,qF,nT,nF,Bool.false_and,Bool.and_false,v5b,hOd]
      intro kb hkb0 hkb
      have nkb := ne_live v5b hkb
      simp (disch := omega) only [↓runPre,runPost,fieldO,ixA,cutA,lenA,aggA,rowA,appA,mkA,indA,bnd,srcA,sameOp,funcA,cvO,partA,aggD,↓PostP,resV,resAll,resOne,resVF,resAllF,resOneF,fitsAll,fitsR,fits,frz,Post,Nat.reduceBEq,Nat.reduceLT,reduceCtorEq,↓reduceIte,initS,AV.cellsOf,AV.fine,AV.one,repA,Nat.reduceMul,Nat.reduceAdd,Nat.reduceLeDiff,Nat.reduceEqDiff,Int.reduceToNat,Nat.reduceSub,Nat.reduceMod,Nat.reduceDiv,indexK.aggOf,Int.reducePow,Int.reduceLE,Int.reduceNeg,Int.reduceLT,Int.reduceBEq,Int.reduceBNe,Int.reduceEq,ownA,nilA,Try.facts,s1,s5,dT,dF,qT,qF,nT,nF,Bool.false_and,Bool.and_false,set_other,nkb,v5b,hOd]
      intro k' hk'
      obtain ⟨hk'0,hk'1⟩ := own_next hkb0 hkb hk'
      clear hk'
      have p1 := ne_live v5b hk'1
      have p2 := ne_live vb hk'1
      have p3 := ne_live t2.hi hk'1
      have p4 := ne_live t2.hm hk'1
      have hk'H := hsA.free hk'1
      refine loop_t (c := ⟨Try.prog,126,[(18,[0,0,1,0,0,0,0,1,0,0,0,0,0]),(19,[0,0,0,0,0,0,0,1,0,0,0,1,0,2,0,2]),(1000000,[2]),(1000007,[7]),(4000023,[4]),(4000022,[8,10,17]),(4000019,[5,8,10,12,66,67,68]),(4000018,[5,8,10,12,15,16,66,67,68]),(4000016,[5,8,10,12,13,14,66,67,68]),(4000013,[1,5,8,10,12]),(4000012,[1,5,8,10]),(4000011,[1,5,8]),(4000009,[1,5,31,32,33]),(4000008,[1,5,7,31,32,33,44]),(4000001,[1,2,26])],[1000062,1000065],[]⟩) Try.mixed (by kernel_rfl) (fun mm σ H' => ∃ (j : Nat) (X : List Mk),j + mm = ts.length ∧ X.Perm O ∧ H' = H2.set k' (.cells (mksC X) 31 10) ∧
        σ 5 = .ptr b5 0 ∧ σ 8 = .ptr h 0 ∧ σ 10 = .ptr hb 0 ∧ σ 12 = .own k' 0 O.length ∧ σ 66 = .imm 0 (intsC ts) ts.length ∧ σ 67 = .sc (.int .i64 ts.length) ∧ σ 68 = .sc (.int .i64 (j : Nat))) ts.length ?_ ?_
      · refine ⟨0,O,by omega,List.Perm.refl _,rfl,?_⟩
        simp (disch := omega) only [↓runPre,runPost,fieldO,ixA,cutA,lenA,aggA,rowA,appA,mkA,indA,bnd,srcA,sameOp,funcA,cvO,partA,aggD,↓PostP,resV,resAll,resOne,resVF,resAllF,resOneF,fitsAll,fitsR,fits,frz,Post,Nat.reduceBEq,Nat.reduceLT,reduceCtorEq,↓reduceIte,initS,AV.cellsOf,AV.fine,AV.one,repA,Nat.reduceMul,Nat.reduceAdd,Nat.reduceLeDiff,Nat.reduceEqDiff,Int.reduceToNat,Nat.reduceSub,Nat.reduceMod,Nat.reduceDiv,indexK.aggOf,Int.reducePow,Int.reduceLE,Int.reduceNeg,Int.reduceLT,Int.reduceBEq,Int.reduceBNe,Int.reduceEq,ownA,nilA,Try.facts,s1,s5]
        try rfl
      · clear s1 s5 s31 s32 s33
        rintro mm σ H' ⟨j,X,hjm,hp,rfl,s5,s8,s10,s12,s66,s67,s68⟩
        have hXl := hp.length_eq
        have hXd := mksC_length X
        rw [hXl] at hXd
        by_cases hlt : j < ts.length
        · have hg := intsC_get hlt
          have hjit : j < (intsC ts).length := by omega
          generalize ts[j] = n at *
          by_cases hO : O.length = 0
          · simp (disch := omega) only [↓runPre,runPost,fieldO,ixA,cutA,lenA,aggA,rowA,appA,mkA,indA,bnd,srcA,sameOp,funcA,cvO,partA,aggD,↓PostP,resV,resAll,resOne,resVF,resAllF,resOneF,fitsAll,fitsR,fits,frz,Post,Nat.reduceBEq,Nat.reduceLT,reduceCtorEq,↓reduceIte,initS,AV.cellsOf,AV.fine,AV.one,repA,Nat.reduceMul,Nat.reduceAdd,Nat.reduceLeDiff,Nat.reduceEqDiff,Int.reduceToNat,Nat.reduceSub,Nat.reduceMod,Nat.reduceDiv,indexK.aggOf,Int.reducePow,Int.reduceLE,Int.reduceNeg,Int.reduceLT,Int.reduceBEq,Int.reduceBNe,Int.reduceEq,ownA,nilA,Try.facts,s5,s8,s10,s12,s66,s67,s68,dT,dF,qT,qF,nT,nF,Bool.false_and,Bool.and_false,hg,hit,hXd]
            exact ⟨mm - 1,by omega,j + 1,X,by omega,hp,rfl,rfl⟩
          · obtain ⟨w,hw⟩ : ∃ w : Nat,IntKind.u64.wrap n = (w : Int) := ⟨(IntKind.u64.wrap n).toNat,by rw [IntKind.wrap_u64]; omega⟩
            have tp : ((j : Nat) : Int).tmod ((O.length : Nat) : Int) = ((j % O.length : Nat) : Int) := rfl
            have tq : ((w : Nat) : Int).tmod ((O.length : Nat) : Int) = ((w % O.length : Nat) : Int) := rfl
            have hpl : j % O.length < O.length := Nat.mod_lt _ (by omega)
            have hql : w % O.length < O.length := Nat.mod_lt _ (by omega)
            have wq : IntKind.i64.wrap ((w % O.length : Nat) : Int) = ((w % O.length : Nat) : Int) := wcast64 (by omega)
            generalize j % O.length = p at *
            generalize w % O.length = q at *
            have hpM : p < X.length := by omega
            have hqM : q < X.length := by omega
            have ldp := mksC_load hpM
            have ldq := mksC_load hqM
            have put1 := mksC_put (m := X[q]) hpM
            have put2 := mksC_put (l := X.set p X[q]) (m := X[p]) (show q < _ by rw [List.length_set]; exact hqM)
            have hperm : ((X.set p X[q]).set q X[p]).Perm O := (List.set_set_perm hpM hqM).trans hp
            have hM1 := mksC_length (X.set p X[q])
            rw [List.length_set,hXl] at hM1
            have lep : p * 10 + 10 ≤ O.length * 10 := by omega
            have leq : q * 10 + 10 ≤ O.length * 10 := by omega
            generalize X[p] = x at *
            generalize X[q] = y at *
            generalize X.set p y = X1 at *
            generalize X1.set q x = X2 at *
            obtain ⟨xc,xa,⟨x1,x2⟩,xb,⟨x3,x4⟩,xd,xn,xv⟩ := x
            obtain ⟨yc,ya,⟨y1,y2⟩,yb,⟨y3,y4⟩,yd,yn,yv⟩ := y
            simp only [mkC] at ldp ldq put1 put2
            simp (disch := omega) only [↓runPre,runPost,fieldO,ixA,cutA,lenA,aggA,rowA,appA,mkA,indA,bnd,srcA,sameOp,funcA,cvO,partA,aggD,↓PostP,resV,resAll,resOne,resVF,resAllF,resOneF,fitsAll,fitsR,fits,frz,Post,Nat.reduceBEq,Nat.reduceLT,reduceCtorEq,↓reduceIte,initS,AV.cellsOf,AV.fine,AV.one,repA,Nat.reduceMul,Nat.reduceAdd,Nat.reduceLeDiff,Nat.reduceEqDiff,Int.reduceToNat,Nat.reduceSub,Nat.reduceMod,Nat.reduceDiv,indexK.aggOf,Int.reducePow,Int.reduceLE,Int.reduceNeg,Int.reduceLT,Int.reduceBEq,Int.reduceBNe,Int.reduceEq,ownA,nilA,Try.facts,s5,s8,s10,s12,s66,s67,s68,dT,dF,qT,qF,nT,nF,Bool.false_and,Bool.and_false,hg,hit,hXd,hM1,hw,tp,tq,wq,↓wcastU,lep,leq,ldp,ldq,put1,put2]
            exact ⟨mm - 1,by omega,j + 1,X2,by omega,hperm,rfl,rfl⟩
        · obtain rfl : j = ts.length := by omega
          have v5c : (H2.set k' (.cells (mksC X) 31 10)) b5 = some (.cells [inssV E,idsV D,.imm k (mksC O) O.length] 45 3) := by rw [set_other p1]; exact v5b
          simp (disch := omega) only [↓runPre,runPost,fieldO,ixA,cutA,lenA,aggA,rowA,appA,mkA,indA,bnd,srcA,sameOp,funcA,cvO,partA,aggD,↓PostP,resV,resAll,resOne,resVF,resAllF,resOneF,fitsAll,fitsR,fits,frz,Post,Nat.reduceBEq,Nat.reduceLT,reduceCtorEq,↓reduceIte,initS,AV.cellsOf,AV.fine,AV.one,repA,Nat.reduceMul,Nat.reduceAdd,Nat.reduceLeDiff,Nat.reduceEqDiff,Int.reduceToNat,Nat.reduceSub,Nat.reduceMod,Nat.reduceDiv,indexK.aggOf,Int.reducePow,Int.reduceLE,Int.reduceNeg,Int.reduceLT,Int.reduceBEq,Int.reduceBNe,Int.reduceEq,ownA,nilA,Try.facts,s5,s8,s10,s12,s66,s67,s68,dT,dF,qT,qF,nT,nF,Bool.false_and,Bool.and_false,v5c,putCells_eq]
          have p5 : ¬ k' = b5 := fun e => p1 e.symm
          have r1 := fun e : hb = b5 => q3 e.symm
          have r2 := fun e : h = b5 => q1 e.symm
          have r3 := fun e : m = b5 => q2 e.symm
          have hrow : ((H2.set k' (.cells (mksC X) 31 10)).set b5 (.cells [inssV E,idsV D,.own k' 0 O.length] 45 3)) k' = some (.cells (mksC X) 31 10) := by rw [set_other p5,set_get]
          have hsX : Abs.Sub H ((H2.set k' (.cells (mksC X) 31 10)).set b5 (.cells [inssV E,idsV D,.own k' 0 O.length] 45 3)) := (hsA.set_free hk'H).set_free hb5
          have vbX : ((H2.set k' (.cells (mksC X) 31 10)).set b5 (.cells [inssV E,idsV D,.own k' 0 O.length] 45 3)) hb = some (bookO (bookL O)) := by rw [set_other r1,set_other p2]; exact vb
          have tX := (t2.put (b := k') (o := .cells (mksC X) 31 10) p3 p4).put (b := b5) (o := .cells [inssV E,idsV D,.own k' 0 O.length] 45 3) r2 r3
          generalize (H2.set k' (.cells (mksC X) 31 10)).set b5 (.cells [inssV E,idsV D,.own k' 0 O.length] 45 3) = HX at *
          have hfz : Frz HX (HX.kill k') (.own k' 0 O.length) (mksV X) := by
            have := Frz.own (H := HX) (H0 := HX.kill k') (n := O.length) hrow kill_same (by omega)
            rw [List.take_of_length_le (by omega)] at this
            show Frz HX (HX.kill k') (.own k' 0 O.length) (.imm 0 (mksC X) X.length)
            rw [hXl]
            exact this
          have tK : IsT (HX.kill k') h m L G := ⟨by rw [kill_other p3]; exact tX.hi,⟨tX.ord,tX.perm,by rw [kill_other p4]; exact tX.hm⟩,tX.g,tX.gs,tX.gn,tX.small⟩
          have vbK : (HX.kill k') hb = some (bookO (bookL O)) := by rw [kill_other p2]; exact vbX
          have hsK : Abs.Sub H (HX.kill k') := hsX.kill_free hk'H
          refine CallK.i (ACalls.give (args' := [pageV E D X]) (H0 := HX.kill k') Sub.killed ⟨Frz.agg3 Frz.same Frz.same hfz,trivial⟩ (pbook_live (HX.kill k') E D X (by omega))) ?_
          rintro v H3 ⟨hb2,rfl,hb20,hb2f,hs3,vb2⟩
          have hbe : bookL X = bookL O := (book_perm hp.symm (by omega) hu).symm
          rw [hbe] at vb2
          have t3 := tK.mono hs3
          have vb3 := hs3 _ _ vbK
          have hgd := bookL_good O
          have hnl := nodes_len t3.g G
          have c1 := runs_own H3 hb _ vb3 hgd h m L G t3
          have c2 := runs_own H3 hb2 _ vb2 hgd h m L G t3
          have hrn : (runsN (nodes L G) (bookL O)).length ≤ 100000 := by
            have := runsR_len (styN (nodes L G) (bookL O)) (ixd 0 (nodes L G))
            unfold runsN
            rw [List.length_reverse]
            rw [ixd_length] at this
            omega
          have hsm := rsame_pure _ _ hrn hrn
          have hmm := msame_pure (bookL O) (bookL O) (by have := hgd.small; omega) (by have := hgd.small; omega)
          rw [dT rfl] at hsm hmm
          generalize runsN (nodes L G) (bookL O) = RR at *
          have hll := mksC_length (bookL O)
          generalize bookL O = BL at *
          simp (disch := omega) only [↓runPre,runPost,fieldO,ixA,cutA,lenA,aggA,rowA,appA,mkA,indA,bnd,srcA,sameOp,funcA,cvO,partA,aggD,↓PostP,resV,resAll,resOne,resVF,resAllF,resOneF,fitsAll,fitsR,fits,frz,Post,Nat.reduceBEq,Nat.reduceLT,reduceCtorEq,↓reduceIte,initS,AV.cellsOf,AV.fine,AV.one,repA,Nat.reduceMul,Nat.reduceAdd,Nat.reduceLeDiff,Nat.reduceEqDiff,Int.reduceToNat,Nat.reduceSub,Nat.reduceMod,Nat.reduceDiv,indexK.aggOf,Int.reducePow,Int.reduceLE,Int.reduceNeg,Int.reduceLT,Int.reduceBEq,Int.reduceBNe,Int.reduceEq,ownA,nilA,Try.facts,s5,s8,s10,s12,s66,s67,s68,dT,dF,qT,qF,nT,nF,Bool.false_and,Bool.and_false]
          refine CallK.i c1 ?_
          rintro v E1 ⟨rfl,rfl⟩
          simp (disch := omega) only [↓runPre,runPost,fieldO,ixA,cutA,lenA,aggA,rowA,appA,mkA,indA,bnd,srcA,sameOp,funcA,cvO,partA,aggD,↓PostP,resV,resAll,resOne,resVF,resAllF,resOneF,fitsAll,fitsR,fits,frz,Post,Nat.reduceBEq,Nat.reduceLT,reduceCtorEq,↓reduceIte,initS,AV.cellsOf,AV.fine,AV.one,repA,Nat.reduceMul,Nat.reduceAdd,Nat.reduceLeDiff,Nat.reduceEqDiff,Int.reduceToNat,Nat.reduceSub,Nat.reduceMod,Nat.reduceDiv,indexK.aggOf,Int.reducePow,Int.reduceLE,Int.reduceNeg,Int.reduceLT,Int.reduceBEq,Int.reduceBNe,Int.reduceEq,ownA,nilA,Try.facts]
          refine CallK.i c2 ?_
          rintro v E1 ⟨rfl,rfl⟩
          simp (disch := omega) only [↓runPre,runPost,fieldO,ixA,cutA,lenA,aggA,rowA,appA,mkA,indA,bnd,srcA,sameOp,funcA,cvO,partA,aggD,↓PostP,resV,resAll,resOne,resVF,resAllF,resOneF,fitsAll,fitsR,fits,frz,Post,Nat.reduceBEq,Nat.reduceLT,reduceCtorEq,↓reduceIte,initS,AV.cellsOf,AV.fine,AV.one,repA,Nat.reduceMul,Nat.reduceAdd,Nat.reduceLeDiff,Nat.reduceEqDiff,Int.reduceToNat,Nat.reduceSub,Nat.reduceMod,Nat.reduceDiv,indexK.aggOf,Int.reducePow,Int.reduceLE,Int.reduceNeg,Int.reduceLT,Int.reduceBEq,Int.reduceBNe,Int.reduceEq,ownA,nilA,Try.facts]
          first | refine CallK.p (hsm) ?_ | refine CallP.i (hsm) ?_
          simp (disch := omega) only [↓runPre,runPost,fieldO,ixA,cutA,lenA,aggA,rowA,appA,mkA,indA,bnd,srcA,sameOp,funcA,cvO,partA,aggD,↓PostP,resV,resAll,resOne,resVF,resAllF,resOneF,fitsAll,fitsR,fits,frz,Post,Nat.reduceBEq,Nat.reduceLT,reduceCtorEq,↓reduceIte,initS,AV.cellsOf,AV.fine,AV.one,repA,Nat.reduceMul,Nat.reduceAdd,Nat.reduceLeDiff,Nat.reduceEqDiff,Int.reduceToNat,Nat.reduceSub,Nat.reduceMod,Nat.reduceDiv,indexK.aggOf,Int.reducePow,Int.reduceLE,Int.reduceNeg,Int.reduceLT,Int.reduceBEq,Int.reduceBNe,Int.reduceEq,ownA,nilA,Try.facts]
          refine CallK.i (list_live _ hb _ vb3 hgd.small) ?_
          rintro v E1 ⟨rfl,rfl⟩
          simp (disch := omega) only [↓runPre,runPost,fieldO,ixA,cutA,lenA,aggA,rowA,appA,mkA,indA,bnd,srcA,sameOp,funcA,cvO,partA,aggD,↓PostP,resV,resAll,resOne,resVF,resAllF,resOneF,fitsAll,fitsR,fits,frz,Post,Nat.reduceBEq,Nat.reduceLT,reduceCtorEq,↓reduceIte,initS,AV.cellsOf,AV.fine,AV.one,repA,Nat.reduceMul,Nat.reduceAdd,Nat.reduceLeDiff,Nat.reduceEqDiff,Int.reduceToNat,Nat.reduceSub,Nat.reduceMod,Nat.reduceDiv,indexK.aggOf,Int.reducePow,Int.reduceLE,Int.reduceNeg,Int.reduceLT,Int.reduceBEq,Int.reduceBNe,Int.reduceEq,ownA,nilA,Try.facts]
          refine CallK.i (list_live _ hb2 _ vb2 hgd.small) ?_
          rintro v E1 ⟨rfl,rfl⟩
          simp (disch := omega) only [↓runPre,runPost,fieldO,ixA,cutA,lenA,aggA,rowA,appA,mkA,indA,bnd,srcA,sameOp,funcA,cvO,partA,aggD,↓PostP,resV,resAll,resOne,resVF,resAllF,resOneF,fitsAll,fitsR,fits,frz,Post,Nat.reduceBEq,Nat.reduceLT,reduceCtorEq,↓reduceIte,initS,AV.cellsOf,AV.fine,AV.one,repA,Nat.reduceMul,Nat.reduceAdd,Nat.reduceLeDiff,Nat.reduceEqDiff,Int.reduceToNat,Nat.reduceSub,Nat.reduceMod,Nat.reduceDiv,indexK.aggOf,Int.reducePow,Int.reduceLE,Int.reduceNeg,Int.reduceLT,Int.reduceBEq,Int.reduceBNe,Int.reduceEq,ownA,nilA,Try.facts]
          first | refine CallK.p (hmm) ?_ | refine CallP.i (hmm) ?_
          simp (disch := omega) only [↓runPre,runPost,fieldO,ixA,cutA,lenA,aggA,rowA,appA,mkA,indA,bnd,srcA,sameOp,funcA,cvO,partA,aggD,↓PostP,resV,resAll,resOne,resVF,resAllF,resOneF,fitsAll,fitsR,fits,frz,Post,Nat.reduceBEq,Nat.reduceLT,reduceCtorEq,↓reduceIte,initS,AV.cellsOf,AV.fine,AV.one,repA,Nat.reduceMul,Nat.reduceAdd,Nat.reduceLeDiff,Nat.reduceEqDiff,Int.reduceToNat,Nat.reduceSub,Nat.reduceMod,Nat.reduceDiv,indexK.aggOf,Int.reducePow,Int.reduceLE,Int.reduceNeg,Int.reduceLT,Int.reduceBEq,Int.reduceBNe,Int.reduceEq,ownA,nilA,Try.facts]
          first | refine CallK.p (haw) ?_ | refine CallP.i (haw) ?_
          simp (disch := omega) only [↓runPre,runPost,fieldO,ixA,cutA,lenA,aggA,rowA,appA,mkA,indA,bnd,srcA,sameOp,funcA,cvO,partA,aggD,↓PostP,resV,resAll,resOne,resVF,resAllF,resOneF,fitsAll,fitsR,fits,frz,Post,Nat.reduceBEq,Nat.reduceLT,reduceCtorEq,↓reduceIte,initS,AV.cellsOf,AV.fine,AV.one,repA,Nat.reduceMul,Nat.reduceAdd,Nat.reduceLeDiff,Nat.reduceEqDiff,Int.reduceToNat,Nat.reduceSub,Nat.reduceMod,Nat.reduceDiv,indexK.aggOf,Int.reducePow,Int.reduceLE,Int.reduceNeg,Int.reduceLT,Int.reduceBEq,Int.reduceBNe,Int.reduceEq,ownA,nilA,Try.facts]
          exact fun y o hy => hs3 _ _ (hsK _ _ hy)
end Go.Proofs.Ytgkpidbeoccpnaa
