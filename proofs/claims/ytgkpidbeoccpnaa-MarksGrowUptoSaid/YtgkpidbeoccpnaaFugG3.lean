/-
  Several texts in one: each says what it proves.
  Conditions: none. Lemmas only.
-/
import Derived.Test.YtgkpidbeoccpnaaFugG2
set_option linter.all false
section
/-
  The walks of the fugue layer: the document's text, and what is added and dropped.
  Conditions: none. Lemmas only.
-/
set_option linter.unusedSimpArgs false
set_option linter.unusedVariables false
set_option maxRecDepth 8000
set_option maxHeartbeats 4000000
namespace Go.Proofs.Ytgkpidbeoccpnaa
open Go Go.Abs Go.Proofs Go.Fug

theorem nodes_le {L : List Ins} (G : List EId) (h : (L.map (·.id)).Nodup) (hL : L.length ≤ 10000) : (nodes L G).length ≤ 1000000000 := by
  have h1 := below_le G h (L.length + 1) root true
  have : (L.length + 1) * L.length ≤ 10001 * 10000 := Nat.mul_le_mul (by omega) hL
  unfold nodes
  omega
theorem rnodes_pure (L : List Ins) (G : List EId) (hL : L.length ≤ 10000) (hG : G.length ≤ 10000) (g : Fug.Good L) : APure Try.prog 46 [treeV L G] (ndsV (nodes L G)) := by
  have h := rbelow_pure L G hL hG g.nd (L.length + 1) root true (by omega) (g.deep root)
  have hR : below L G (L.length + 1) root true = nodes L G := rfl
  rw [hR] at h
  generalize nodes L G = R at *
  refine apure_of_cwp (c := ⟨Try.prog,6,[(1000000,[1])],[],[]⟩) (rs := [ResultVar.tmp 2]) Try.mixed Try.func46 rfl rfl rfl (Nat.le_of_ble_eq_true rfl) (by kernel_rfl) fun H => ?_
  simp (disch := omega) only [↓runPre,runPost,fieldO,ixA,cutA,lenA,aggA,rowA,appA,mkA,indA,bnd,srcA,sameOp,funcA,cvO,partA,aggD,↓PostP,resV,resAll,resOne,resVF,resAllF,resOneF,fitsAll,fitsR,fits,frz,Post,Nat.reduceBEq,Nat.reduceLT,reduceCtorEq,↓reduceIte,initS,AV.cellsOf,AV.fine,AV.one,repA,Nat.reduceMul,Nat.reduceAdd,Nat.reduceLeDiff,Nat.reduceEqDiff,Int.reduceToNat,Nat.reduceSub,Nat.reduceMod,Nat.reduceDiv,indexK.aggOf,Int.reducePow,Int.reduceLE,Int.reduceNeg,Int.reduceLT,Int.reduceBEq,Int.reduceBNe,Int.reduceEq,ownA,nilA,Try.facts]
  intro k1 hk10 hk1
  try simp (disch := omega) only [↓runPre,runPost,fieldO,ixA,cutA,lenA,aggA,rowA,appA,mkA,indA,bnd,srcA,sameOp,funcA,cvO,partA,aggD,↓PostP,resV,resAll,resOne,resVF,resAllF,resOneF,fitsAll,fitsR,fits,frz,Post,Nat.reduceBEq,Nat.reduceLT,reduceCtorEq,↓reduceIte,initS,AV.cellsOf,AV.fine,AV.one,repA,Nat.reduceMul,Nat.reduceAdd,Nat.reduceLeDiff,Nat.reduceEqDiff,Int.reduceToNat,Nat.reduceSub,Nat.reduceMod,Nat.reduceDiv,indexK.aggOf,Int.reducePow,Int.reduceLE,Int.reduceNeg,Int.reduceLT,Int.reduceBEq,Int.reduceBNe,Int.reduceEq,ownA,nilA,Try.facts,kill_box hk1]
  first | refine CallK.p (h) ?_ | refine CallP.i (h) ?_
  simp (disch := omega) only [↓runPre,runPost,fieldO,ixA,cutA,lenA,aggA,rowA,appA,mkA,indA,bnd,srcA,sameOp,funcA,cvO,partA,aggD,↓PostP,resV,resAll,resOne,resVF,resAllF,resOneF,fitsAll,fitsR,fits,frz,Post,Nat.reduceBEq,Nat.reduceLT,reduceCtorEq,↓reduceIte,initS,AV.cellsOf,AV.fine,AV.one,repA,Nat.reduceMul,Nat.reduceAdd,Nat.reduceLeDiff,Nat.reduceEqDiff,Int.reduceToNat,Nat.reduceSub,Nat.reduceMod,Nat.reduceDiv,indexK.aggOf,Int.reducePow,Int.reduceLE,Int.reduceNeg,Int.reduceLT,Int.reduceBEq,Int.reduceBNe,Int.reduceEq,ownA,nilA,Try.facts,kill_box hk1]
  exact Abs.Sub.refl _
/-- those that are not dropped -/
def live (l : List Nd) : List Nd := l.filter fun n => !n.gone
theorem runeB_len (r : Int) : (runeB r).length ≤ 4 := by
  unfold runeB Utf8.encode
  simp only []
  repeat' split
  all_goals (first | (simp; done) | (rename_i h; revert h; simp) | decide)
def runesB (l : List Nd) : List UInt8 := l.flatMap fun n => runeB n.rune
theorem runesB_len (l : List Nd) : (runesB l).length ≤ l.length * 4 := by
  induction l with
  | nil => simp [runesB]
  | cons n l ih =>
    have := runeB_len n.rune
    simp only [runesB,List.flatMap_cons,List.length_append,List.length_cons] at *
    omega
end Go.Proofs.Ytgkpidbeoccpnaa
end
section
/-
  The walks of the fugue layer: the document adds and drops.
  Conditions: none. Lemmas only.
-/
set_option linter.unusedSimpArgs false
set_option linter.unusedVariables false
set_option maxRecDepth 8000
set_option maxHeartbeats 4000000
namespace Go.Proofs.Ytgkpidbeoccpnaa
open Go Go.Abs Go.Proofs Go.Fug

def addL (L : List Ins) (i : Ins) : List Ins × Int :=
  if okI i = false then (L,1) else if i.id ∈ L.map (·.id) then (L,12) else if i.par ≠ root ∧ i.par ∉ L.map (·.id) then (L,13) else if L.length = 4096 then (L,14) else (L ++ [i],0)
def dropG (L : List Ins) (G : List EId) (x : EId) : List EId × Int :=
  if x ∉ L.map (·.id) then (G,13) else if x ∈ G then (G,12) else (G ++ [x],0)

theorem rdrop_pure (L : List Ins) (G : List EId) (x : EId) (hL : L.length ≤ 10000) (hG : G.length ≤ 10000) :
    APure Try.prog 45 [treeV L G,idV x] (.tup [treeV L (dropG L G x).1,.sc (.int .i64 (dropG L G x).2)]) := by
  have h1 := rhas_pure L G x (by omega)
  have h2 := dropped_pure L G x (by omega)
  have hGi := idsC_length G
  have hsn := idsC_snoc G x
  obtain ⟨R,hR⟩ : ∃ R,R = dropG L G x := ⟨_,rfl⟩
  rw [← hR]
  unfold dropG at hR
  by_cases m1 : x ∈ L.map (·.id)
  · by_cases m2 : x ∈ G
    · rw [if_neg (not_not_intro m1),if_pos m2] at hR
      subst hR
      rw [dT m1] at h1
      rw [dT m2] at h2
      obtain ⟨a,c⟩ := x
      refine apure_of_cwp (c := ⟨Try.prog,27,[(2000005,[1,2,4,5,0,3,6,7]),(5,[0,0,0,0,2,2,2,0]),(1000000,[3,2])],[16],[]⟩) (rs := [ResultVar.cell 4 90,ResultVar.tmp 5]) Try.mixed Try.func45 rfl rfl rfl (Nat.le_of_ble_eq_true rfl) (by kernel_rfl) fun H => ?_
      simp (disch := omega) only [↓runPre,runPost,fieldO,ixA,cutA,lenA,aggA,rowA,appA,mkA,indA,bnd,srcA,sameOp,funcA,cvO,partA,aggD,↓PostP,resV,resAll,resOne,resVF,resAllF,resOneF,fitsAll,fitsR,fits,frz,Post,Nat.reduceBEq,Nat.reduceLT,reduceCtorEq,↓reduceIte,initS,AV.cellsOf,AV.fine,AV.one,repA,Nat.reduceMul,Nat.reduceAdd,Nat.reduceLeDiff,Nat.reduceEqDiff,Int.reduceToNat,Nat.reduceSub,Nat.reduceMod,Nat.reduceDiv,indexK.aggOf,Int.reducePow,Int.reduceLE,Int.reduceNeg,Int.reduceLT,Int.reduceBEq,Int.reduceBNe,Int.reduceEq,ownA,nilA,Try.facts]
      intro k1 hk10 hk1 k2 hk20 hk2 k3 hk30 hk3
      have n23 := set_ne hk3
      have n13 := set_ne (subset_set hk3)
      have hkH := subset_set (subset_set hk3)
      simp (disch := omega) only [↓runPre,runPost,fieldO,ixA,cutA,lenA,aggA,rowA,appA,mkA,indA,bnd,srcA,sameOp,funcA,cvO,partA,aggD,↓PostP,resV,resAll,resOne,resVF,resAllF,resOneF,fitsAll,fitsR,fits,frz,Post,Nat.reduceBEq,Nat.reduceLT,reduceCtorEq,↓reduceIte,initS,AV.cellsOf,AV.fine,AV.one,repA,Nat.reduceMul,Nat.reduceAdd,Nat.reduceLeDiff,Nat.reduceEqDiff,Int.reduceToNat,Nat.reduceSub,Nat.reduceMod,Nat.reduceDiv,indexK.aggOf,Int.reducePow,Int.reduceLE,Int.reduceNeg,Int.reduceLT,Int.reduceBEq,Int.reduceBNe,Int.reduceEq,ownA,nilA,Try.facts,set_other,kill_under hk2 n23,kill_under hk1 n13]
      first | refine CallK.p (h1) ?_ | refine CallP.i (h1) ?_
      simp (disch := omega) only [↓runPre,runPost,fieldO,ixA,cutA,lenA,aggA,rowA,appA,mkA,indA,bnd,srcA,sameOp,funcA,cvO,partA,aggD,↓PostP,resV,resAll,resOne,resVF,resAllF,resOneF,fitsAll,fitsR,fits,frz,Post,Nat.reduceBEq,Nat.reduceLT,reduceCtorEq,↓reduceIte,initS,AV.cellsOf,AV.fine,AV.one,repA,Nat.reduceMul,Nat.reduceAdd,Nat.reduceLeDiff,Nat.reduceEqDiff,Int.reduceToNat,Nat.reduceSub,Nat.reduceMod,Nat.reduceDiv,indexK.aggOf,Int.reducePow,Int.reduceLE,Int.reduceNeg,Int.reduceLT,Int.reduceBEq,Int.reduceBNe,Int.reduceEq,ownA,nilA,Try.facts]
      first | refine CallK.p (h2) ?_ | refine CallP.i (h2) ?_
      simp (disch := omega) only [↓runPre,runPost,fieldO,ixA,cutA,lenA,aggA,rowA,appA,mkA,indA,bnd,srcA,sameOp,funcA,cvO,partA,aggD,↓PostP,resV,resAll,resOne,resVF,resAllF,resOneF,fitsAll,fitsR,fits,frz,Post,Nat.reduceBEq,Nat.reduceLT,reduceCtorEq,↓reduceIte,initS,AV.cellsOf,AV.fine,AV.one,repA,Nat.reduceMul,Nat.reduceAdd,Nat.reduceLeDiff,Nat.reduceEqDiff,Int.reduceToNat,Nat.reduceSub,Nat.reduceMod,Nat.reduceDiv,indexK.aggOf,Int.reducePow,Int.reduceLE,Int.reduceNeg,Int.reduceLT,Int.reduceBEq,Int.reduceBNe,Int.reduceEq,ownA,nilA,Try.facts,putCells_eq]
      exact Sub.set_new hkH
    · rw [if_neg (not_not_intro m1),if_neg m2] at hR
      subst hR
      rw [dT m1] at h1
      rw [dF m2] at h2
      obtain ⟨a,c⟩ := x
      simp only [] at hsn
      have hil2 := idsC_length (G ++ [(a,c)])
      refine apure_of_cwp (c := ⟨Try.prog,27,[(2000005,[1,2,4,5,0,3,6,7]),(5,[0,0,0,0,2,2,2,0]),(1000000,[3,2])],[16],[]⟩) (rs := [ResultVar.cell 4 90,ResultVar.tmp 5]) Try.mixed Try.func45 rfl rfl rfl (Nat.le_of_ble_eq_true rfl) (by kernel_rfl) fun H => ?_
      simp (disch := omega) only [↓runPre,runPost,fieldO,ixA,cutA,lenA,aggA,rowA,appA,mkA,indA,bnd,srcA,sameOp,funcA,cvO,partA,aggD,↓PostP,resV,resAll,resOne,resVF,resAllF,resOneF,fitsAll,fitsR,fits,frz,Post,Nat.reduceBEq,Nat.reduceLT,reduceCtorEq,↓reduceIte,initS,AV.cellsOf,AV.fine,AV.one,repA,Nat.reduceMul,Nat.reduceAdd,Nat.reduceLeDiff,Nat.reduceEqDiff,Int.reduceToNat,Nat.reduceSub,Nat.reduceMod,Nat.reduceDiv,indexK.aggOf,Int.reducePow,Int.reduceLE,Int.reduceNeg,Int.reduceLT,Int.reduceBEq,Int.reduceBNe,Int.reduceEq,ownA,nilA,Try.facts]
      intro k1 hk10 hk1 k2 hk20 hk2 k3 hk30 hk3
      have n23 := set_ne hk3
      have n13 := set_ne (subset_set hk3)
      have hkH := subset_set (subset_set hk3)
      simp (disch := omega) only [↓runPre,runPost,fieldO,ixA,cutA,lenA,aggA,rowA,appA,mkA,indA,bnd,srcA,sameOp,funcA,cvO,partA,aggD,↓PostP,resV,resAll,resOne,resVF,resAllF,resOneF,fitsAll,fitsR,fits,frz,Post,Nat.reduceBEq,Nat.reduceLT,reduceCtorEq,↓reduceIte,initS,AV.cellsOf,AV.fine,AV.one,repA,Nat.reduceMul,Nat.reduceAdd,Nat.reduceLeDiff,Nat.reduceEqDiff,Int.reduceToNat,Nat.reduceSub,Nat.reduceMod,Nat.reduceDiv,indexK.aggOf,Int.reducePow,Int.reduceLE,Int.reduceNeg,Int.reduceLT,Int.reduceBEq,Int.reduceBNe,Int.reduceEq,ownA,nilA,Try.facts,set_other,kill_under hk2 n23,kill_under hk1 n13]
      first | refine CallK.p (h1) ?_ | refine CallP.i (h1) ?_
      simp (disch := omega) only [↓runPre,runPost,fieldO,ixA,cutA,lenA,aggA,rowA,appA,mkA,indA,bnd,srcA,sameOp,funcA,cvO,partA,aggD,↓PostP,resV,resAll,resOne,resVF,resAllF,resOneF,fitsAll,fitsR,fits,frz,Post,Nat.reduceBEq,Nat.reduceLT,reduceCtorEq,↓reduceIte,initS,AV.cellsOf,AV.fine,AV.one,repA,Nat.reduceMul,Nat.reduceAdd,Nat.reduceLeDiff,Nat.reduceEqDiff,Int.reduceToNat,Nat.reduceSub,Nat.reduceMod,Nat.reduceDiv,indexK.aggOf,Int.reducePow,Int.reduceLE,Int.reduceNeg,Int.reduceLT,Int.reduceBEq,Int.reduceBNe,Int.reduceEq,ownA,nilA,Try.facts]
      first | refine CallK.p (h2) ?_ | refine CallP.i (h2) ?_
      simp (disch := omega) only [↓runPre,runPost,fieldO,ixA,cutA,lenA,aggA,rowA,appA,mkA,indA,bnd,srcA,sameOp,funcA,cvO,partA,aggD,↓PostP,resV,resAll,resOne,resVF,resAllF,resOneF,fitsAll,fitsR,fits,frz,Post,Nat.reduceBEq,Nat.reduceLT,reduceCtorEq,↓reduceIte,initS,AV.cellsOf,AV.fine,AV.one,repA,Nat.reduceMul,Nat.reduceAdd,Nat.reduceLeDiff,Nat.reduceEqDiff,Int.reduceToNat,Nat.reduceSub,Nat.reduceMod,Nat.reduceDiv,indexK.aggOf,Int.reducePow,Int.reduceLE,Int.reduceNeg,Int.reduceLT,Int.reduceBEq,Int.reduceBNe,Int.reduceEq,ownA,nilA,Try.facts,hGi,hsn]
      intro kb hkb0 hkb
      simp (disch := omega) only [↓runPre,runPost,fieldO,ixA,cutA,lenA,aggA,rowA,appA,mkA,indA,bnd,srcA,sameOp,funcA,cvO,partA,aggD,↓PostP,resV,resAll,resOne,resVF,resAllF,resOneF,fitsAll,fitsR,fits,frz,Post,Nat.reduceBEq,Nat.reduceLT,reduceCtorEq,↓reduceIte,initS,AV.cellsOf,AV.fine,AV.one,repA,Nat.reduceMul,Nat.reduceAdd,Nat.reduceLeDiff,Nat.reduceEqDiff,Int.reduceToNat,Nat.reduceSub,Nat.reduceMod,Nat.reduceDiv,indexK.aggOf,Int.reducePow,Int.reduceLE,Int.reduceNeg,Int.reduceLT,Int.reduceBEq,Int.reduceBNe,Int.reduceEq,ownA,nilA,Try.facts,hGi,hsn,hkb0]
      intro k4 o4 hk40 hk4 ho4
      replace hk4 := subset_set hk4
      simp (disch := omega) only [↓runPre,runPost,fieldO,ixA,cutA,lenA,aggA,rowA,appA,mkA,indA,bnd,srcA,sameOp,funcA,cvO,partA,aggD,↓PostP,resV,resAll,resOne,resVF,resAllF,resOneF,fitsAll,fitsR,fits,frz,Post,Nat.reduceBEq,Nat.reduceLT,reduceCtorEq,↓reduceIte,initS,AV.cellsOf,AV.fine,AV.one,repA,Nat.reduceMul,Nat.reduceAdd,Nat.reduceLeDiff,Nat.reduceEqDiff,Int.reduceToNat,Nat.reduceSub,Nat.reduceMod,Nat.reduceDiv,indexK.aggOf,Int.reducePow,Int.reduceLE,Int.reduceNeg,Int.reduceLT,Int.reduceBEq,Int.reduceBNe,Int.reduceEq,ownA,nilA,Try.facts,hGi,hsn,ho4,hk40]
      intro k5 o5 hk50 hk5 ho5
      replace hk5 := subset_set hk5
      have n35 := set_ne hk5
      simp (disch := omega) only [↓runPre,runPost,fieldO,ixA,cutA,lenA,aggA,rowA,appA,mkA,indA,bnd,srcA,sameOp,funcA,cvO,partA,aggD,↓PostP,resV,resAll,resOne,resVF,resAllF,resOneF,fitsAll,fitsR,fits,frz,Post,Nat.reduceBEq,Nat.reduceLT,reduceCtorEq,↓reduceIte,initS,AV.cellsOf,AV.fine,AV.one,repA,Nat.reduceMul,Nat.reduceAdd,Nat.reduceLeDiff,Nat.reduceEqDiff,Int.reduceToNat,Nat.reduceSub,Nat.reduceMod,Nat.reduceDiv,indexK.aggOf,Int.reducePow,Int.reduceLE,Int.reduceNeg,Int.reduceLT,Int.reduceBEq,Int.reduceBNe,Int.reduceEq,ownA,nilA,Try.facts,hGi,hsn,ho5,hk50,set_other,putCells_eq]
      exact ⟨by rw [treeV,treeC,List.length_append]; rfl,((Sub.set_new hkH).set_free (subset_set hk5)).set_free hkH⟩
  · rw [if_pos m1] at hR
    subst hR
    rw [dF m1] at h1
    obtain ⟨a,c⟩ := x
    refine apure_of_cwp (c := ⟨Try.prog,27,[(2000005,[1,2,4,5,0,3,6,7]),(5,[0,0,0,0,2,2,2,0]),(1000000,[3,2])],[16],[]⟩) (rs := [ResultVar.cell 4 90,ResultVar.tmp 5]) Try.mixed Try.func45 rfl rfl rfl (Nat.le_of_ble_eq_true rfl) (by kernel_rfl) fun H => ?_
    simp (disch := omega) only [↓runPre,runPost,fieldO,ixA,cutA,lenA,aggA,rowA,appA,mkA,indA,bnd,srcA,sameOp,funcA,cvO,partA,aggD,↓PostP,resV,resAll,resOne,resVF,resAllF,resOneF,fitsAll,fitsR,fits,frz,Post,Nat.reduceBEq,Nat.reduceLT,reduceCtorEq,↓reduceIte,initS,AV.cellsOf,AV.fine,AV.one,repA,Nat.reduceMul,Nat.reduceAdd,Nat.reduceLeDiff,Nat.reduceEqDiff,Int.reduceToNat,Nat.reduceSub,Nat.reduceMod,Nat.reduceDiv,indexK.aggOf,Int.reducePow,Int.reduceLE,Int.reduceNeg,Int.reduceLT,Int.reduceBEq,Int.reduceBNe,Int.reduceEq,ownA,nilA,Try.facts]
    intro k1 hk10 hk1 k2 hk20 hk2 k3 hk30 hk3
    have n23 := set_ne hk3
    have n13 := set_ne (subset_set hk3)
    have hkH := subset_set (subset_set hk3)
    simp (disch := omega) only [↓runPre,runPost,fieldO,ixA,cutA,lenA,aggA,rowA,appA,mkA,indA,bnd,srcA,sameOp,funcA,cvO,partA,aggD,↓PostP,resV,resAll,resOne,resVF,resAllF,resOneF,fitsAll,fitsR,fits,frz,Post,Nat.reduceBEq,Nat.reduceLT,reduceCtorEq,↓reduceIte,initS,AV.cellsOf,AV.fine,AV.one,repA,Nat.reduceMul,Nat.reduceAdd,Nat.reduceLeDiff,Nat.reduceEqDiff,Int.reduceToNat,Nat.reduceSub,Nat.reduceMod,Nat.reduceDiv,indexK.aggOf,Int.reducePow,Int.reduceLE,Int.reduceNeg,Int.reduceLT,Int.reduceBEq,Int.reduceBNe,Int.reduceEq,ownA,nilA,Try.facts,set_other,kill_under hk2 n23,kill_under hk1 n13]
    first | refine CallK.p (h1) ?_ | refine CallP.i (h1) ?_
    simp (disch := omega) only [↓runPre,runPost,fieldO,ixA,cutA,lenA,aggA,rowA,appA,mkA,indA,bnd,srcA,sameOp,funcA,cvO,partA,aggD,↓PostP,resV,resAll,resOne,resVF,resAllF,resOneF,fitsAll,fitsR,fits,frz,Post,Nat.reduceBEq,Nat.reduceLT,reduceCtorEq,↓reduceIte,initS,AV.cellsOf,AV.fine,AV.one,repA,Nat.reduceMul,Nat.reduceAdd,Nat.reduceLeDiff,Nat.reduceEqDiff,Int.reduceToNat,Nat.reduceSub,Nat.reduceMod,Nat.reduceDiv,indexK.aggOf,Int.reducePow,Int.reduceLE,Int.reduceNeg,Int.reduceLT,Int.reduceBEq,Int.reduceBNe,Int.reduceEq,ownA,nilA,Try.facts,putCells_eq]
    exact Sub.set_new hkH
-- radd begins
theorem radd_pure (L : List Ins) (G : List EId) (i : Ins) (hL : L.length ≤ 10000) (hG : G.length ≤ 10000) :
    APure Try.prog 43 [treeV L G,.agg (insC i)] (.tup [treeV (addL L i).1 G,.sc (.int .i64 (addL L i).2)]) := by
  have h0 := rright_pure i
  have h1 := rhas_pure L G i.id (by omega)
  have h2 := rhas_pure L G i.par (by omega)
  have hLi := inssC_length L
  have hsn := inssC_snoc L i
  have hLs := inssC_length (L ++ [i])
  obtain ⟨R,hR⟩ : ∃ R,R = addL L i := ⟨_,rfl⟩
  rw [← hR]
  unfold addL at hR
  obtain ⟨⟨a,c⟩,⟨pa,pc⟩,ri,ru⟩ := i
  simp only [insC] at h0 h1 h2 hsn ⊢
  simp only [] at hR
  cases ok : okI ⟨(a,c),(pa,pc),ri,ru⟩ with
  | false =>
    rw [ok] at h0
    rw [if_pos ok] at hR
    subst hR
    refine apure_of_cwp (c := ⟨Try.prog,44,[(2000009,[1,2,4,5,0,3,6,7]),(9,[0,0,0,0,2,2,2,0]),(1000000,[3,2])],[33],[]⟩) (rs := [ResultVar.cell 4 90,ResultVar.tmp 5]) Try.mixed Try.func43 rfl rfl rfl (Nat.le_of_ble_eq_true rfl) (by kernel_rfl) fun H => ?_
    simp (disch := omega) only [↓runPre,runPost,fieldO,ixA,cutA,lenA,aggA,rowA,appA,mkA,indA,bnd,srcA,sameOp,funcA,cvO,partA,aggD,↓PostP,resV,resAll,resOne,resVF,resAllF,resOneF,fitsAll,fitsR,fits,frz,Post,Nat.reduceBEq,Nat.reduceLT,reduceCtorEq,↓reduceIte,initS,AV.cellsOf,AV.fine,AV.one,repA,Nat.reduceMul,Nat.reduceAdd,Nat.reduceLeDiff,Nat.reduceEqDiff,Int.reduceToNat,Nat.reduceSub,Nat.reduceMod,Nat.reduceDiv,indexK.aggOf,Int.reducePow,Int.reduceLE,Int.reduceNeg,Int.reduceLT,Int.reduceBEq,Int.reduceBNe,Int.reduceEq,ownA,nilA,Try.facts]
    intro k1 hk10 hk1 k2 hk20 hk2 k3 hk30 hk3
    have n23 := set_ne hk3
    have n13 := set_ne (subset_set hk3)
    have hkH := subset_set (subset_set hk3)
    simp (disch := omega) only [↓runPre,runPost,fieldO,ixA,cutA,lenA,aggA,rowA,appA,mkA,indA,bnd,srcA,sameOp,funcA,cvO,partA,aggD,↓PostP,resV,resAll,resOne,resVF,resAllF,resOneF,fitsAll,fitsR,fits,frz,Post,Nat.reduceBEq,Nat.reduceLT,reduceCtorEq,↓reduceIte,initS,AV.cellsOf,AV.fine,AV.one,repA,Nat.reduceMul,Nat.reduceAdd,Nat.reduceLeDiff,Nat.reduceEqDiff,Int.reduceToNat,Nat.reduceSub,Nat.reduceMod,Nat.reduceDiv,indexK.aggOf,Int.reducePow,Int.reduceLE,Int.reduceNeg,Int.reduceLT,Int.reduceBEq,Int.reduceBNe,Int.reduceEq,ownA,nilA,Try.facts,set_other,kill_under hk2 n23,kill_under hk1 n13]
    first | refine CallK.p (h0) ?_ | refine CallP.i (h0) ?_
    simp (disch := omega) only [↓runPre,runPost,fieldO,ixA,cutA,lenA,aggA,rowA,appA,mkA,indA,bnd,srcA,sameOp,funcA,cvO,partA,aggD,↓PostP,resV,resAll,resOne,resVF,resAllF,resOneF,fitsAll,fitsR,fits,frz,Post,Nat.reduceBEq,Nat.reduceLT,reduceCtorEq,↓reduceIte,initS,AV.cellsOf,AV.fine,AV.one,repA,Nat.reduceMul,Nat.reduceAdd,Nat.reduceLeDiff,Nat.reduceEqDiff,Int.reduceToNat,Nat.reduceSub,Nat.reduceMod,Nat.reduceDiv,indexK.aggOf,Int.reducePow,Int.reduceLE,Int.reduceNeg,Int.reduceLT,Int.reduceBEq,Int.reduceBNe,Int.reduceEq,ownA,nilA,Try.facts,putCells_eq]
    exact Sub.set_new hkH
  | true =>
    rw [ok] at h0
    rw [if_neg (by rw [ok]; simp)] at hR
    by_cases m1 : (a,c) ∈ L.map (·.id)
    · rw [dT m1] at h1
      rw [if_pos m1] at hR
      subst hR
      refine apure_of_cwp (c := ⟨Try.prog,44,[(2000009,[1,2,4,5,0,3,6,7]),(9,[0,0,0,0,2,2,2,0]),(1000000,[3,2])],[33],[]⟩) (rs := [ResultVar.cell 4 90,ResultVar.tmp 5]) Try.mixed Try.func43 rfl rfl rfl (Nat.le_of_ble_eq_true rfl) (by kernel_rfl) fun H => ?_
      simp (disch := omega) only [↓runPre,runPost,fieldO,ixA,cutA,lenA,aggA,rowA,appA,mkA,indA,bnd,srcA,sameOp,funcA,cvO,partA,aggD,↓PostP,resV,resAll,resOne,resVF,resAllF,resOneF,fitsAll,fitsR,fits,frz,Post,Nat.reduceBEq,Nat.reduceLT,reduceCtorEq,↓reduceIte,initS,AV.cellsOf,AV.fine,AV.one,repA,Nat.reduceMul,Nat.reduceAdd,Nat.reduceLeDiff,Nat.reduceEqDiff,Int.reduceToNat,Nat.reduceSub,Nat.reduceMod,Nat.reduceDiv,indexK.aggOf,Int.reducePow,Int.reduceLE,Int.reduceNeg,Int.reduceLT,Int.reduceBEq,Int.reduceBNe,Int.reduceEq,ownA,nilA,Try.facts]
      intro k1 hk10 hk1 k2 hk20 hk2 k3 hk30 hk3
      have n23 := set_ne hk3
      have n13 := set_ne (subset_set hk3)
      have hkH := subset_set (subset_set hk3)
      simp (disch := omega) only [↓runPre,runPost,fieldO,ixA,cutA,lenA,aggA,rowA,appA,mkA,indA,bnd,srcA,sameOp,funcA,cvO,partA,aggD,↓PostP,resV,resAll,resOne,resVF,resAllF,resOneF,fitsAll,fitsR,fits,frz,Post,Nat.reduceBEq,Nat.reduceLT,reduceCtorEq,↓reduceIte,initS,AV.cellsOf,AV.fine,AV.one,repA,Nat.reduceMul,Nat.reduceAdd,Nat.reduceLeDiff,Nat.reduceEqDiff,Int.reduceToNat,Nat.reduceSub,Nat.reduceMod,Nat.reduceDiv,indexK.aggOf,Int.reducePow,Int.reduceLE,Int.reduceNeg,Int.reduceLT,Int.reduceBEq,Int.reduceBNe,Int.reduceEq,ownA,nilA,Try.facts,set_other,kill_under hk2 n23,kill_under hk1 n13]
      first | refine CallK.p (h0) ?_ | refine CallP.i (h0) ?_
      simp (disch := omega) only [↓runPre,runPost,fieldO,ixA,cutA,lenA,aggA,rowA,appA,mkA,indA,bnd,srcA,sameOp,funcA,cvO,partA,aggD,↓PostP,resV,resAll,resOne,resVF,resAllF,resOneF,fitsAll,fitsR,fits,frz,Post,Nat.reduceBEq,Nat.reduceLT,reduceCtorEq,↓reduceIte,initS,AV.cellsOf,AV.fine,AV.one,repA,Nat.reduceMul,Nat.reduceAdd,Nat.reduceLeDiff,Nat.reduceEqDiff,Int.reduceToNat,Nat.reduceSub,Nat.reduceMod,Nat.reduceDiv,indexK.aggOf,Int.reducePow,Int.reduceLE,Int.reduceNeg,Int.reduceLT,Int.reduceBEq,Int.reduceBNe,Int.reduceEq,ownA,nilA,Try.facts]
      first | refine CallK.p (h1) ?_ | refine CallP.i (h1) ?_
      simp (disch := omega) only [↓runPre,runPost,fieldO,ixA,cutA,lenA,aggA,rowA,appA,mkA,indA,bnd,srcA,sameOp,funcA,cvO,partA,aggD,↓PostP,resV,resAll,resOne,resVF,resAllF,resOneF,fitsAll,fitsR,fits,frz,Post,Nat.reduceBEq,Nat.reduceLT,reduceCtorEq,↓reduceIte,initS,AV.cellsOf,AV.fine,AV.one,repA,Nat.reduceMul,Nat.reduceAdd,Nat.reduceLeDiff,Nat.reduceEqDiff,Int.reduceToNat,Nat.reduceSub,Nat.reduceMod,Nat.reduceDiv,indexK.aggOf,Int.reducePow,Int.reduceLE,Int.reduceNeg,Int.reduceLT,Int.reduceBEq,Int.reduceBNe,Int.reduceEq,ownA,nilA,Try.facts,putCells_eq]
      exact Sub.set_new hkH
    · rw [dF m1] at h1
      rw [if_neg m1] at hR
      by_cases m2 : pa = 0 ∧ pc = 0
      · rw [if_neg (by rw [m2.1,m2.2]; simp [root])] at hR
        obtain ⟨rfl,rfl⟩ := m2
        by_cases m4 : L.length = 4096
        · rw [if_pos m4] at hR
          subst hR
          refine apure_of_cwp (c := ⟨Try.prog,44,[(2000009,[1,2,4,5,0,3,6,7]),(9,[0,0,0,0,2,2,2,0]),(1000000,[3,2])],[33],[]⟩) (rs := [ResultVar.cell 4 90,ResultVar.tmp 5]) Try.mixed Try.func43 rfl rfl rfl (Nat.le_of_ble_eq_true rfl) (by kernel_rfl) fun H => ?_
          simp (disch := omega) only [↓runPre,runPost,fieldO,ixA,cutA,lenA,aggA,rowA,appA,mkA,indA,bnd,srcA,sameOp,funcA,cvO,partA,aggD,↓PostP,resV,resAll,resOne,resVF,resAllF,resOneF,fitsAll,fitsR,fits,frz,Post,Nat.reduceBEq,Nat.reduceLT,reduceCtorEq,↓reduceIte,initS,AV.cellsOf,AV.fine,AV.one,repA,Nat.reduceMul,Nat.reduceAdd,Nat.reduceLeDiff,Nat.reduceEqDiff,Int.reduceToNat,Nat.reduceSub,Nat.reduceMod,Nat.reduceDiv,indexK.aggOf,Int.reducePow,Int.reduceLE,Int.reduceNeg,Int.reduceLT,Int.reduceBEq,Int.reduceBNe,Int.reduceEq,ownA,nilA,Try.facts]
          intro k1 hk10 hk1 k2 hk20 hk2 k3 hk30 hk3
          have n23 := set_ne hk3
          have n13 := set_ne (subset_set hk3)
          have hkH := subset_set (subset_set hk3)
          simp (disch := omega) only [↓runPre,runPost,fieldO,ixA,cutA,lenA,aggA,rowA,appA,mkA,indA,bnd,srcA,sameOp,funcA,cvO,partA,aggD,↓PostP,resV,resAll,resOne,resVF,resAllF,resOneF,fitsAll,fitsR,fits,frz,Post,Nat.reduceBEq,Nat.reduceLT,reduceCtorEq,↓reduceIte,initS,AV.cellsOf,AV.fine,AV.one,repA,Nat.reduceMul,Nat.reduceAdd,Nat.reduceLeDiff,Nat.reduceEqDiff,Int.reduceToNat,Nat.reduceSub,Nat.reduceMod,Nat.reduceDiv,indexK.aggOf,Int.reducePow,Int.reduceLE,Int.reduceNeg,Int.reduceLT,Int.reduceBEq,Int.reduceBNe,Int.reduceEq,ownA,nilA,Try.facts,set_other,kill_under hk2 n23,kill_under hk1 n13]
          first | refine CallK.p (h0) ?_ | refine CallP.i (h0) ?_
          simp (disch := omega) only [↓runPre,runPost,fieldO,ixA,cutA,lenA,aggA,rowA,appA,mkA,indA,bnd,srcA,sameOp,funcA,cvO,partA,aggD,↓PostP,resV,resAll,resOne,resVF,resAllF,resOneF,fitsAll,fitsR,fits,frz,Post,Nat.reduceBEq,Nat.reduceLT,reduceCtorEq,↓reduceIte,initS,AV.cellsOf,AV.fine,AV.one,repA,Nat.reduceMul,Nat.reduceAdd,Nat.reduceLeDiff,Nat.reduceEqDiff,Int.reduceToNat,Nat.reduceSub,Nat.reduceMod,Nat.reduceDiv,indexK.aggOf,Int.reducePow,Int.reduceLE,Int.reduceNeg,Int.reduceLT,Int.reduceBEq,Int.reduceBNe,Int.reduceEq,ownA,nilA,Try.facts]
          first | refine CallK.p (h1) ?_ | refine CallP.i (h1) ?_
          simp (disch := omega) only [↓runPre,runPost,fieldO,ixA,cutA,lenA,aggA,rowA,appA,mkA,indA,bnd,srcA,sameOp,funcA,cvO,partA,aggD,↓PostP,resV,resAll,resOne,resVF,resAllF,resOneF,fitsAll,fitsR,fits,frz,Post,Nat.reduceBEq,Nat.reduceLT,reduceCtorEq,↓reduceIte,initS,AV.cellsOf,AV.fine,AV.one,repA,Nat.reduceMul,Nat.reduceAdd,Nat.reduceLeDiff,Nat.reduceEqDiff,Int.reduceToNat,Nat.reduceSub,Nat.reduceMod,Nat.reduceDiv,indexK.aggOf,Int.reducePow,Int.reduceLE,Int.reduceNeg,Int.reduceLT,Int.reduceBEq,Int.reduceBNe,Int.reduceEq,ownA,nilA,Try.facts,qT,qF,Bool.false_and]
          try simp (disch := omega) only [↓runPre,runPost,fieldO,ixA,cutA,lenA,aggA,rowA,appA,mkA,indA,bnd,srcA,sameOp,funcA,cvO,partA,aggD,↓PostP,resV,resAll,resOne,resVF,resAllF,resOneF,fitsAll,fitsR,fits,frz,Post,Nat.reduceBEq,Nat.reduceLT,reduceCtorEq,↓reduceIte,initS,AV.cellsOf,AV.fine,AV.one,repA,Nat.reduceMul,Nat.reduceAdd,Nat.reduceLeDiff,Nat.reduceEqDiff,Int.reduceToNat,Nat.reduceSub,Nat.reduceMod,Nat.reduceDiv,indexK.aggOf,Int.reducePow,Int.reduceLE,Int.reduceNeg,Int.reduceLT,Int.reduceBEq,Int.reduceBNe,Int.reduceEq,ownA,nilA,Try.facts,dT,dF,qT,qF,nT,nF,Bool.false_and,Bool.and_false,qT,qF,hLi,putCells_eq]
          exact Sub.set_new hkH
        · rw [if_neg m4] at hR
          subst hR
          refine apure_of_cwp (c := ⟨Try.prog,44,[(2000009,[1,2,4,5,0,3,6,7]),(9,[0,0,0,0,2,2,2,0]),(1000000,[3,2])],[33],[]⟩) (rs := [ResultVar.cell 4 90,ResultVar.tmp 5]) Try.mixed Try.func43 rfl rfl rfl (Nat.le_of_ble_eq_true rfl) (by kernel_rfl) fun H => ?_
          simp (disch := omega) only [↓runPre,runPost,fieldO,ixA,cutA,lenA,aggA,rowA,appA,mkA,indA,bnd,srcA,sameOp,funcA,cvO,partA,aggD,↓PostP,resV,resAll,resOne,resVF,resAllF,resOneF,fitsAll,fitsR,fits,frz,Post,Nat.reduceBEq,Nat.reduceLT,reduceCtorEq,↓reduceIte,initS,AV.cellsOf,AV.fine,AV.one,repA,Nat.reduceMul,Nat.reduceAdd,Nat.reduceLeDiff,Nat.reduceEqDiff,Int.reduceToNat,Nat.reduceSub,Nat.reduceMod,Nat.reduceDiv,indexK.aggOf,Int.reducePow,Int.reduceLE,Int.reduceNeg,Int.reduceLT,Int.reduceBEq,Int.reduceBNe,Int.reduceEq,ownA,nilA,Try.facts]
          intro k1 hk10 hk1 k2 hk20 hk2 k3 hk30 hk3
          have n23 := set_ne hk3
          have n13 := set_ne (subset_set hk3)
          have hkH := subset_set (subset_set hk3)
          simp (disch := omega) only [↓runPre,runPost,fieldO,ixA,cutA,lenA,aggA,rowA,appA,mkA,indA,bnd,srcA,sameOp,funcA,cvO,partA,aggD,↓PostP,resV,resAll,resOne,resVF,resAllF,resOneF,fitsAll,fitsR,fits,frz,Post,Nat.reduceBEq,Nat.reduceLT,reduceCtorEq,↓reduceIte,initS,AV.cellsOf,AV.fine,AV.one,repA,Nat.reduceMul,Nat.reduceAdd,Nat.reduceLeDiff,Nat.reduceEqDiff,Int.reduceToNat,Nat.reduceSub,Nat.reduceMod,Nat.reduceDiv,indexK.aggOf,Int.reducePow,Int.reduceLE,Int.reduceNeg,Int.reduceLT,Int.reduceBEq,Int.reduceBNe,Int.reduceEq,ownA,nilA,Try.facts,set_other,kill_under hk2 n23,kill_under hk1 n13]
          first | refine CallK.p (h0) ?_ | refine CallP.i (h0) ?_
          simp (disch := omega) only [↓runPre,runPost,fieldO,ixA,cutA,lenA,aggA,rowA,appA,mkA,indA,bnd,srcA,sameOp,funcA,cvO,partA,aggD,↓PostP,resV,resAll,resOne,resVF,resAllF,resOneF,fitsAll,fitsR,fits,frz,Post,Nat.reduceBEq,Nat.reduceLT,reduceCtorEq,↓reduceIte,initS,AV.cellsOf,AV.fine,AV.one,repA,Nat.reduceMul,Nat.reduceAdd,Nat.reduceLeDiff,Nat.reduceEqDiff,Int.reduceToNat,Nat.reduceSub,Nat.reduceMod,Nat.reduceDiv,indexK.aggOf,Int.reducePow,Int.reduceLE,Int.reduceNeg,Int.reduceLT,Int.reduceBEq,Int.reduceBNe,Int.reduceEq,ownA,nilA,Try.facts]
          first | refine CallK.p (h1) ?_ | refine CallP.i (h1) ?_
          simp (disch := omega) only [↓runPre,runPost,fieldO,ixA,cutA,lenA,aggA,rowA,appA,mkA,indA,bnd,srcA,sameOp,funcA,cvO,partA,aggD,↓PostP,resV,resAll,resOne,resVF,resAllF,resOneF,fitsAll,fitsR,fits,frz,Post,Nat.reduceBEq,Nat.reduceLT,reduceCtorEq,↓reduceIte,initS,AV.cellsOf,AV.fine,AV.one,repA,Nat.reduceMul,Nat.reduceAdd,Nat.reduceLeDiff,Nat.reduceEqDiff,Int.reduceToNat,Nat.reduceSub,Nat.reduceMod,Nat.reduceDiv,indexK.aggOf,Int.reducePow,Int.reduceLE,Int.reduceNeg,Int.reduceLT,Int.reduceBEq,Int.reduceBNe,Int.reduceEq,ownA,nilA,Try.facts,qT,qF,Bool.false_and]
          try simp (disch := omega) only [↓runPre,runPost,fieldO,ixA,cutA,lenA,aggA,rowA,appA,mkA,indA,bnd,srcA,sameOp,funcA,cvO,partA,aggD,↓PostP,resV,resAll,resOne,resVF,resAllF,resOneF,fitsAll,fitsR,fits,frz,Post,Nat.reduceBEq,Nat.reduceLT,reduceCtorEq,↓reduceIte,initS,AV.cellsOf,AV.fine,AV.one,repA,Nat.reduceMul,Nat.reduceAdd,Nat.reduceLeDiff,Nat.reduceEqDiff,Int.reduceToNat,Nat.reduceSub,Nat.reduceMod,Nat.reduceDiv,indexK.aggOf,Int.reducePow,Int.reduceLE,Int.reduceNeg,Int.reduceLT,Int.reduceBEq,Int.reduceBNe,Int.reduceEq,ownA,nilA,Try.facts,dT,dF,qT,qF,nT,nF,Bool.false_and,Bool.and_false,qT,qF,hLi,putCells_eq]
          intro kb hkb0 hkb
          simp (disch := omega) only [↓runPre,runPost,fieldO,ixA,cutA,lenA,aggA,rowA,appA,mkA,indA,bnd,srcA,sameOp,funcA,cvO,partA,aggD,↓PostP,resV,resAll,resOne,resVF,resAllF,resOneF,fitsAll,fitsR,fits,frz,Post,Nat.reduceBEq,Nat.reduceLT,reduceCtorEq,↓reduceIte,initS,AV.cellsOf,AV.fine,AV.one,repA,Nat.reduceMul,Nat.reduceAdd,Nat.reduceLeDiff,Nat.reduceEqDiff,Int.reduceToNat,Nat.reduceSub,Nat.reduceMod,Nat.reduceDiv,indexK.aggOf,Int.reducePow,Int.reduceLE,Int.reduceNeg,Int.reduceLT,Int.reduceBEq,Int.reduceBNe,Int.reduceEq,ownA,nilA,Try.facts,hLi,hsn,hkb0]
          intro k4 o4 hk40 hk4 ho4
          replace hk4 := subset_set hk4
          simp (disch := omega) only [↓runPre,runPost,fieldO,ixA,cutA,lenA,aggA,rowA,appA,mkA,indA,bnd,srcA,sameOp,funcA,cvO,partA,aggD,↓PostP,resV,resAll,resOne,resVF,resAllF,resOneF,fitsAll,fitsR,fits,frz,Post,Nat.reduceBEq,Nat.reduceLT,reduceCtorEq,↓reduceIte,initS,AV.cellsOf,AV.fine,AV.one,repA,Nat.reduceMul,Nat.reduceAdd,Nat.reduceLeDiff,Nat.reduceEqDiff,Int.reduceToNat,Nat.reduceSub,Nat.reduceMod,Nat.reduceDiv,indexK.aggOf,Int.reducePow,Int.reduceLE,Int.reduceNeg,Int.reduceLT,Int.reduceBEq,Int.reduceBNe,Int.reduceEq,ownA,nilA,Try.facts,hLi,hsn,ho4,hk40]
          intro k5 o5 hk50 hk5 ho5
          replace hk5 := subset_set hk5
          have n35 := set_ne hk5
          simp (disch := omega) only [↓runPre,runPost,fieldO,ixA,cutA,lenA,aggA,rowA,appA,mkA,indA,bnd,srcA,sameOp,funcA,cvO,partA,aggD,↓PostP,resV,resAll,resOne,resVF,resAllF,resOneF,fitsAll,fitsR,fits,frz,Post,Nat.reduceBEq,Nat.reduceLT,reduceCtorEq,↓reduceIte,initS,AV.cellsOf,AV.fine,AV.one,repA,Nat.reduceMul,Nat.reduceAdd,Nat.reduceLeDiff,Nat.reduceEqDiff,Int.reduceToNat,Nat.reduceSub,Nat.reduceMod,Nat.reduceDiv,indexK.aggOf,Int.reducePow,Int.reduceLE,Int.reduceNeg,Int.reduceLT,Int.reduceBEq,Int.reduceBNe,Int.reduceEq,ownA,nilA,Try.facts,hLi,hsn,ho5,hk50,set_other,putCells_eq]
          exact ⟨by rw [treeV,treeC,List.length_append]; rfl,((Sub.set_new hkH).set_free (subset_set hk5)).set_free hkH⟩
      · have m2' : (pa,pc) ≠ root := fun e => m2 (by simpa [root] using e)
        have m2o : pa ≠ 0 ∨ (pa = 0 ∧ pc ≠ 0) := by omega
        by_cases m3 : (pa,pc) ∈ L.map (·.id)
        · rw [dT m3] at h2
          rw [if_neg (fun h => h.2 m3)] at hR
          rcases m2o with m2o | m2o
          · by_cases m4 : L.length = 4096
            · rw [if_pos m4] at hR
              subst hR
              refine apure_of_cwp (c := ⟨Try.prog,44,[(2000009,[1,2,4,5,0,3,6,7]),(9,[0,0,0,0,2,2,2,0]),(1000000,[3,2])],[33],[]⟩) (rs := [ResultVar.cell 4 90,ResultVar.tmp 5]) Try.mixed Try.func43 rfl rfl rfl (Nat.le_of_ble_eq_true rfl) (by kernel_rfl) fun H => ?_
              simp (disch := omega) only [↓runPre,runPost,fieldO,ixA,cutA,lenA,aggA,rowA,appA,mkA,indA,bnd,srcA,sameOp,funcA,cvO,partA,aggD,↓PostP,resV,resAll,resOne,resVF,resAllF,resOneF,fitsAll,fitsR,fits,frz,Post,Nat.reduceBEq,Nat.reduceLT,reduceCtorEq,↓reduceIte,initS,AV.cellsOf,AV.fine,AV.one,repA,Nat.reduceMul,Nat.reduceAdd,Nat.reduceLeDiff,Nat.reduceEqDiff,Int.reduceToNat,Nat.reduceSub,Nat.reduceMod,Nat.reduceDiv,indexK.aggOf,Int.reducePow,Int.reduceLE,Int.reduceNeg,Int.reduceLT,Int.reduceBEq,Int.reduceBNe,Int.reduceEq,ownA,nilA,Try.facts]
              intro k1 hk10 hk1 k2 hk20 hk2 k3 hk30 hk3
              have n23 := set_ne hk3
              have n13 := set_ne (subset_set hk3)
              have hkH := subset_set (subset_set hk3)
              simp (disch := omega) only [↓runPre,runPost,fieldO,ixA,cutA,lenA,aggA,rowA,appA,mkA,indA,bnd,srcA,sameOp,funcA,cvO,partA,aggD,↓PostP,resV,resAll,resOne,resVF,resAllF,resOneF,fitsAll,fitsR,fits,frz,Post,Nat.reduceBEq,Nat.reduceLT,reduceCtorEq,↓reduceIte,initS,AV.cellsOf,AV.fine,AV.one,repA,Nat.reduceMul,Nat.reduceAdd,Nat.reduceLeDiff,Nat.reduceEqDiff,Int.reduceToNat,Nat.reduceSub,Nat.reduceMod,Nat.reduceDiv,indexK.aggOf,Int.reducePow,Int.reduceLE,Int.reduceNeg,Int.reduceLT,Int.reduceBEq,Int.reduceBNe,Int.reduceEq,ownA,nilA,Try.facts,set_other,kill_under hk2 n23,kill_under hk1 n13]
              first | refine CallK.p (h0) ?_ | refine CallP.i (h0) ?_
              simp (disch := omega) only [↓runPre,runPost,fieldO,ixA,cutA,lenA,aggA,rowA,appA,mkA,indA,bnd,srcA,sameOp,funcA,cvO,partA,aggD,↓PostP,resV,resAll,resOne,resVF,resAllF,resOneF,fitsAll,fitsR,fits,frz,Post,Nat.reduceBEq,Nat.reduceLT,reduceCtorEq,↓reduceIte,initS,AV.cellsOf,AV.fine,AV.one,repA,Nat.reduceMul,Nat.reduceAdd,Nat.reduceLeDiff,Nat.reduceEqDiff,Int.reduceToNat,Nat.reduceSub,Nat.reduceMod,Nat.reduceDiv,indexK.aggOf,Int.reducePow,Int.reduceLE,Int.reduceNeg,Int.reduceLT,Int.reduceBEq,Int.reduceBNe,Int.reduceEq,ownA,nilA,Try.facts]
              first | refine CallK.p (h1) ?_ | refine CallP.i (h1) ?_
              simp (disch := omega) only [↓runPre,runPost,fieldO,ixA,cutA,lenA,aggA,rowA,appA,mkA,indA,bnd,srcA,sameOp,funcA,cvO,partA,aggD,↓PostP,resV,resAll,resOne,resVF,resAllF,resOneF,fitsAll,fitsR,fits,frz,Post,Nat.reduceBEq,Nat.reduceLT,reduceCtorEq,↓reduceIte,initS,AV.cellsOf,AV.fine,AV.one,repA,Nat.reduceMul,Nat.reduceAdd,Nat.reduceLeDiff,Nat.reduceEqDiff,Int.reduceToNat,Nat.reduceSub,Nat.reduceMod,Nat.reduceDiv,indexK.aggOf,Int.reducePow,Int.reduceLE,Int.reduceNeg,Int.reduceLT,Int.reduceBEq,Int.reduceBNe,Int.reduceEq,ownA,nilA,Try.facts,qT,qF,Bool.false_and]
              first | refine CallK.p (h2) ?_ | refine CallP.i (h2) ?_
              simp (disch := omega) only [↓runPre,runPost,fieldO,ixA,cutA,lenA,aggA,rowA,appA,mkA,indA,bnd,srcA,sameOp,funcA,cvO,partA,aggD,↓PostP,resV,resAll,resOne,resVF,resAllF,resOneF,fitsAll,fitsR,fits,frz,Post,Nat.reduceBEq,Nat.reduceLT,reduceCtorEq,↓reduceIte,initS,AV.cellsOf,AV.fine,AV.one,repA,Nat.reduceMul,Nat.reduceAdd,Nat.reduceLeDiff,Nat.reduceEqDiff,Int.reduceToNat,Nat.reduceSub,Nat.reduceMod,Nat.reduceDiv,indexK.aggOf,Int.reducePow,Int.reduceLE,Int.reduceNeg,Int.reduceLT,Int.reduceBEq,Int.reduceBNe,Int.reduceEq,ownA,nilA,Try.facts,dT,dF,qT,qF,nT,nF,Bool.false_and,Bool.and_false,qT,qF,hLi,putCells_eq]
              exact Sub.set_new hkH
            · rw [if_neg m4] at hR
              subst hR
              refine apure_of_cwp (c := ⟨Try.prog,44,[(2000009,[1,2,4,5,0,3,6,7]),(9,[0,0,0,0,2,2,2,0]),(1000000,[3,2])],[33],[]⟩) (rs := [ResultVar.cell 4 90,ResultVar.tmp 5]) Try.mixed Try.func43 rfl rfl rfl (Nat.le_of_ble_eq_true rfl) (by kernel_rfl) fun H => ?_
              simp (disch := omega) only [↓runPre,runPost,fieldO,ixA,cutA,lenA,aggA,rowA,appA,mkA,indA,bnd,srcA,sameOp,funcA,cvO,partA,aggD,↓PostP,resV,resAll,resOne,resVF,resAllF,resOneF,fitsAll,fitsR,fits,frz,Post,Nat.reduceBEq,Nat.reduceLT,reduceCtorEq,↓reduceIte,initS,AV.cellsOf,AV.fine,AV.one,repA,Nat.reduceMul,Nat.reduceAdd,Nat.reduceLeDiff,Nat.reduceEqDiff,Int.reduceToNat,Nat.reduceSub,Nat.reduceMod,Nat.reduceDiv,indexK.aggOf,Int.reducePow,Int.reduceLE,Int.reduceNeg,Int.reduceLT,Int.reduceBEq,Int.reduceBNe,Int.reduceEq,ownA,nilA,Try.facts]
              intro k1 hk10 hk1 k2 hk20 hk2 k3 hk30 hk3
              have n23 := set_ne hk3
              have n13 := set_ne (subset_set hk3)
              have hkH := subset_set (subset_set hk3)
              simp (disch := omega) only [↓runPre,runPost,fieldO,ixA,cutA,lenA,aggA,rowA,appA,mkA,indA,bnd,srcA,sameOp,funcA,cvO,partA,aggD,↓PostP,resV,resAll,resOne,resVF,resAllF,resOneF,fitsAll,fitsR,fits,frz,Post,Nat.reduceBEq,Nat.reduceLT,reduceCtorEq,↓reduceIte,initS,AV.cellsOf,AV.fine,AV.one,repA,Nat.reduceMul,Nat.reduceAdd,Nat.reduceLeDiff,Nat.reduceEqDiff,Int.reduceToNat,Nat.reduceSub,Nat.reduceMod,Nat.reduceDiv,indexK.aggOf,Int.reducePow,Int.reduceLE,Int.reduceNeg,Int.reduceLT,Int.reduceBEq,Int.reduceBNe,Int.reduceEq,ownA,nilA,Try.facts,set_other,kill_under hk2 n23,kill_under hk1 n13]
              first | refine CallK.p (h0) ?_ | refine CallP.i (h0) ?_
              simp (disch := omega) only [↓runPre,runPost,fieldO,ixA,cutA,lenA,aggA,rowA,appA,mkA,indA,bnd,srcA,sameOp,funcA,cvO,partA,aggD,↓PostP,resV,resAll,resOne,resVF,resAllF,resOneF,fitsAll,fitsR,fits,frz,Post,Nat.reduceBEq,Nat.reduceLT,reduceCtorEq,↓reduceIte,initS,AV.cellsOf,AV.fine,AV.one,repA,Nat.reduceMul,Nat.reduceAdd,Nat.reduceLeDiff,Nat.reduceEqDiff,Int.reduceToNat,Nat.reduceSub,Nat.reduceMod,Nat.reduceDiv,indexK.aggOf,Int.reducePow,Int.reduceLE,Int.reduceNeg,Int.reduceLT,Int.reduceBEq,Int.reduceBNe,Int.reduceEq,ownA,nilA,Try.facts]
              first | refine CallK.p (h1) ?_ | refine CallP.i (h1) ?_
              simp (disch := omega) only [↓runPre,runPost,fieldO,ixA,cutA,lenA,aggA,rowA,appA,mkA,indA,bnd,srcA,sameOp,funcA,cvO,partA,aggD,↓PostP,resV,resAll,resOne,resVF,resAllF,resOneF,fitsAll,fitsR,fits,frz,Post,Nat.reduceBEq,Nat.reduceLT,reduceCtorEq,↓reduceIte,initS,AV.cellsOf,AV.fine,AV.one,repA,Nat.reduceMul,Nat.reduceAdd,Nat.reduceLeDiff,Nat.reduceEqDiff,Int.reduceToNat,Nat.reduceSub,Nat.reduceMod,Nat.reduceDiv,indexK.aggOf,Int.reducePow,Int.reduceLE,Int.reduceNeg,Int.reduceLT,Int.reduceBEq,Int.reduceBNe,Int.reduceEq,ownA,nilA,Try.facts,qT,qF,Bool.false_and]
              first | refine CallK.p (h2) ?_ | refine CallP.i (h2) ?_
              simp (disch := omega) only [↓runPre,runPost,fieldO,ixA,cutA,lenA,aggA,rowA,appA,mkA,indA,bnd,srcA,sameOp,funcA,cvO,partA,aggD,↓PostP,resV,resAll,resOne,resVF,resAllF,resOneF,fitsAll,fitsR,fits,frz,Post,Nat.reduceBEq,Nat.reduceLT,reduceCtorEq,↓reduceIte,initS,AV.cellsOf,AV.fine,AV.one,repA,Nat.reduceMul,Nat.reduceAdd,Nat.reduceLeDiff,Nat.reduceEqDiff,Int.reduceToNat,Nat.reduceSub,Nat.reduceMod,Nat.reduceDiv,indexK.aggOf,Int.reducePow,Int.reduceLE,Int.reduceNeg,Int.reduceLT,Int.reduceBEq,Int.reduceBNe,Int.reduceEq,ownA,nilA,Try.facts,dT,dF,qT,qF,nT,nF,Bool.false_and,Bool.and_false,qT,qF,hLi,putCells_eq]
              intro kb hkb0 hkb
              simp (disch := omega) only [↓runPre,runPost,fieldO,ixA,cutA,lenA,aggA,rowA,appA,mkA,indA,bnd,srcA,sameOp,funcA,cvO,partA,aggD,↓PostP,resV,resAll,resOne,resVF,resAllF,resOneF,fitsAll,fitsR,fits,frz,Post,Nat.reduceBEq,Nat.reduceLT,reduceCtorEq,↓reduceIte,initS,AV.cellsOf,AV.fine,AV.one,repA,Nat.reduceMul,Nat.reduceAdd,Nat.reduceLeDiff,Nat.reduceEqDiff,Int.reduceToNat,Nat.reduceSub,Nat.reduceMod,Nat.reduceDiv,indexK.aggOf,Int.reducePow,Int.reduceLE,Int.reduceNeg,Int.reduceLT,Int.reduceBEq,Int.reduceBNe,Int.reduceEq,ownA,nilA,Try.facts,hLi,hsn,hkb0]
              intro k4 o4 hk40 hk4 ho4
              replace hk4 := subset_set hk4
              simp (disch := omega) only [↓runPre,runPost,fieldO,ixA,cutA,lenA,aggA,rowA,appA,mkA,indA,bnd,srcA,sameOp,funcA,cvO,partA,aggD,↓PostP,resV,resAll,resOne,resVF,resAllF,resOneF,fitsAll,fitsR,fits,frz,Post,Nat.reduceBEq,Nat.reduceLT,reduceCtorEq,↓reduceIte,initS,AV.cellsOf,AV.fine,AV.one,repA,Nat.reduceMul,Nat.reduceAdd,Nat.reduceLeDiff,Nat.reduceEqDiff,Int.reduceToNat,Nat.reduceSub,Nat.reduceMod,Nat.reduceDiv,indexK.aggOf,Int.reducePow,Int.reduceLE,Int.reduceNeg,Int.reduceLT,Int.reduceBEq,Int.reduceBNe,Int.reduceEq,ownA,nilA,Try.facts,hLi,hsn,ho4,hk40]
              intro k5 o5 hk50 hk5 ho5
              replace hk5 := subset_set hk5
              have n35 := set_ne hk5
              simp (disch := omega) only [↓runPre,runPost,fieldO,ixA,cutA,lenA,aggA,rowA,appA,mkA,indA,bnd,srcA,sameOp,funcA,cvO,partA,aggD,↓PostP,resV,resAll,resOne,resVF,resAllF,resOneF,fitsAll,fitsR,fits,frz,Post,Nat.reduceBEq,Nat.reduceLT,reduceCtorEq,↓reduceIte,initS,AV.cellsOf,AV.fine,AV.one,repA,Nat.reduceMul,Nat.reduceAdd,Nat.reduceLeDiff,Nat.reduceEqDiff,Int.reduceToNat,Nat.reduceSub,Nat.reduceMod,Nat.reduceDiv,indexK.aggOf,Int.reducePow,Int.reduceLE,Int.reduceNeg,Int.reduceLT,Int.reduceBEq,Int.reduceBNe,Int.reduceEq,ownA,nilA,Try.facts,hLi,hsn,ho5,hk50,set_other,putCells_eq]
              exact ⟨by rw [treeV,treeC,List.length_append]; rfl,((Sub.set_new hkH).set_free (subset_set hk5)).set_free hkH⟩
          · by_cases m4 : L.length = 4096
            · rw [if_pos m4] at hR
              subst hR
              refine apure_of_cwp (c := ⟨Try.prog,44,[(2000009,[1,2,4,5,0,3,6,7]),(9,[0,0,0,0,2,2,2,0]),(1000000,[3,2])],[33],[]⟩) (rs := [ResultVar.cell 4 90,ResultVar.tmp 5]) Try.mixed Try.func43 rfl rfl rfl (Nat.le_of_ble_eq_true rfl) (by kernel_rfl) fun H => ?_
              simp (disch := omega) only [↓runPre,runPost,fieldO,ixA,cutA,lenA,aggA,rowA,appA,mkA,indA,bnd,srcA,sameOp,funcA,cvO,partA,aggD,↓PostP,resV,resAll,resOne,resVF,resAllF,resOneF,fitsAll,fitsR,fits,frz,Post,Nat.reduceBEq,Nat.reduceLT,reduceCtorEq,↓reduceIte,initS,AV.cellsOf,AV.fine,AV.one,repA,Nat.reduceMul,Nat.reduceAdd,Nat.reduceLeDiff,Nat.reduceEqDiff,Int.reduceToNat,Nat.reduceSub,Nat.reduceMod,Nat.reduceDiv,indexK.aggOf,Int.reducePow,Int.reduceLE,Int.reduceNeg,Int.reduceLT,Int.reduceBEq,Int.reduceBNe,Int.reduceEq,ownA,nilA,Try.facts]
              intro k1 hk10 hk1 k2 hk20 hk2 k3 hk30 hk3
              have n23 := set_ne hk3
              have n13 := set_ne (subset_set hk3)
              have hkH := subset_set (subset_set hk3)
              simp (disch := omega) only [↓runPre,runPost,fieldO,ixA,cutA,lenA,aggA,rowA,appA,mkA,indA,bnd,srcA,sameOp,funcA,cvO,partA,aggD,↓PostP,resV,resAll,resOne,resVF,resAllF,resOneF,fitsAll,fitsR,fits,frz,Post,Nat.reduceBEq,Nat.reduceLT,reduceCtorEq,↓reduceIte,initS,AV.cellsOf,AV.fine,AV.one,repA,Nat.reduceMul,Nat.reduceAdd,Nat.reduceLeDiff,Nat.reduceEqDiff,Int.reduceToNat,Nat.reduceSub,Nat.reduceMod,Nat.reduceDiv,indexK.aggOf,Int.reducePow,Int.reduceLE,Int.reduceNeg,Int.reduceLT,Int.reduceBEq,Int.reduceBNe,Int.reduceEq,ownA,nilA,Try.facts,set_other,kill_under hk2 n23,kill_under hk1 n13]
              first | refine CallK.p (h0) ?_ | refine CallP.i (h0) ?_
              simp (disch := omega) only [↓runPre,runPost,fieldO,ixA,cutA,lenA,aggA,rowA,appA,mkA,indA,bnd,srcA,sameOp,funcA,cvO,partA,aggD,↓PostP,resV,resAll,resOne,resVF,resAllF,resOneF,fitsAll,fitsR,fits,frz,Post,Nat.reduceBEq,Nat.reduceLT,reduceCtorEq,↓reduceIte,initS,AV.cellsOf,AV.fine,AV.one,repA,Nat.reduceMul,Nat.reduceAdd,Nat.reduceLeDiff,Nat.reduceEqDiff,Int.reduceToNat,Nat.reduceSub,Nat.reduceMod,Nat.reduceDiv,indexK.aggOf,Int.reducePow,Int.reduceLE,Int.reduceNeg,Int.reduceLT,Int.reduceBEq,Int.reduceBNe,Int.reduceEq,ownA,nilA,Try.facts]
              first | refine CallK.p (h1) ?_ | refine CallP.i (h1) ?_
              simp (disch := omega) only [↓runPre,runPost,fieldO,ixA,cutA,lenA,aggA,rowA,appA,mkA,indA,bnd,srcA,sameOp,funcA,cvO,partA,aggD,↓PostP,resV,resAll,resOne,resVF,resAllF,resOneF,fitsAll,fitsR,fits,frz,Post,Nat.reduceBEq,Nat.reduceLT,reduceCtorEq,↓reduceIte,initS,AV.cellsOf,AV.fine,AV.one,repA,Nat.reduceMul,Nat.reduceAdd,Nat.reduceLeDiff,Nat.reduceEqDiff,Int.reduceToNat,Nat.reduceSub,Nat.reduceMod,Nat.reduceDiv,indexK.aggOf,Int.reducePow,Int.reduceLE,Int.reduceNeg,Int.reduceLT,Int.reduceBEq,Int.reduceBNe,Int.reduceEq,ownA,nilA,Try.facts,qT,qF,Bool.false_and]
              first | refine CallK.p (h2) ?_ | refine CallP.i (h2) ?_
              simp (disch := omega) only [↓runPre,runPost,fieldO,ixA,cutA,lenA,aggA,rowA,appA,mkA,indA,bnd,srcA,sameOp,funcA,cvO,partA,aggD,↓PostP,resV,resAll,resOne,resVF,resAllF,resOneF,fitsAll,fitsR,fits,frz,Post,Nat.reduceBEq,Nat.reduceLT,reduceCtorEq,↓reduceIte,initS,AV.cellsOf,AV.fine,AV.one,repA,Nat.reduceMul,Nat.reduceAdd,Nat.reduceLeDiff,Nat.reduceEqDiff,Int.reduceToNat,Nat.reduceSub,Nat.reduceMod,Nat.reduceDiv,indexK.aggOf,Int.reducePow,Int.reduceLE,Int.reduceNeg,Int.reduceLT,Int.reduceBEq,Int.reduceBNe,Int.reduceEq,ownA,nilA,Try.facts,dT,dF,qT,qF,nT,nF,Bool.false_and,Bool.and_false,qT,qF,hLi,putCells_eq]
              exact Sub.set_new hkH
            · rw [if_neg m4] at hR
              subst hR
              refine apure_of_cwp (c := ⟨Try.prog,44,[(2000009,[1,2,4,5,0,3,6,7]),(9,[0,0,0,0,2,2,2,0]),(1000000,[3,2])],[33],[]⟩) (rs := [ResultVar.cell 4 90,ResultVar.tmp 5]) Try.mixed Try.func43 rfl rfl rfl (Nat.le_of_ble_eq_true rfl) (by kernel_rfl) fun H => ?_
              simp (disch := omega) only [↓runPre,runPost,fieldO,ixA,cutA,lenA,aggA,rowA,appA,mkA,indA,bnd,srcA,sameOp,funcA,cvO,partA,aggD,↓PostP,resV,resAll,resOne,resVF,resAllF,resOneF,fitsAll,fitsR,fits,frz,Post,Nat.reduceBEq,Nat.reduceLT,reduceCtorEq,↓reduceIte,initS,AV.cellsOf,AV.fine,AV.one,repA,Nat.reduceMul,Nat.reduceAdd,Nat.reduceLeDiff,Nat.reduceEqDiff,Int.reduceToNat,Nat.reduceSub,Nat.reduceMod,Nat.reduceDiv,indexK.aggOf,Int.reducePow,Int.reduceLE,Int.reduceNeg,Int.reduceLT,Int.reduceBEq,Int.reduceBNe,Int.reduceEq,ownA,nilA,Try.facts]
              intro k1 hk10 hk1 k2 hk20 hk2 k3 hk30 hk3
              have n23 := set_ne hk3
              have n13 := set_ne (subset_set hk3)
              have hkH := subset_set (subset_set hk3)
              simp (disch := omega) only [↓runPre,runPost,fieldO,ixA,cutA,lenA,aggA,rowA,appA,mkA,indA,bnd,srcA,sameOp,funcA,cvO,partA,aggD,↓PostP,resV,resAll,resOne,resVF,resAllF,resOneF,fitsAll,fitsR,fits,frz,Post,Nat.reduceBEq,Nat.reduceLT,reduceCtorEq,↓reduceIte,initS,AV.cellsOf,AV.fine,AV.one,repA,Nat.reduceMul,Nat.reduceAdd,Nat.reduceLeDiff,Nat.reduceEqDiff,Int.reduceToNat,Nat.reduceSub,Nat.reduceMod,Nat.reduceDiv,indexK.aggOf,Int.reducePow,Int.reduceLE,Int.reduceNeg,Int.reduceLT,Int.reduceBEq,Int.reduceBNe,Int.reduceEq,ownA,nilA,Try.facts,set_other,kill_under hk2 n23,kill_under hk1 n13]
              first | refine CallK.p (h0) ?_ | refine CallP.i (h0) ?_
              simp (disch := omega) only [↓runPre,runPost,fieldO,ixA,cutA,lenA,aggA,rowA,appA,mkA,indA,bnd,srcA,sameOp,funcA,cvO,partA,aggD,↓PostP,resV,resAll,resOne,resVF,resAllF,resOneF,fitsAll,fitsR,fits,frz,Post,Nat.reduceBEq,Nat.reduceLT,reduceCtorEq,↓reduceIte,initS,AV.cellsOf,AV.fine,AV.one,repA,Nat.reduceMul,Nat.reduceAdd,Nat.reduceLeDiff,Nat.reduceEqDiff,Int.reduceToNat,Nat.reduceSub,Nat.reduceMod,Nat.reduceDiv,indexK.aggOf,Int.reducePow,Int.reduceLE,Int.reduceNeg,Int.reduceLT,Int.reduceBEq,Int.reduceBNe,Int.reduceEq,ownA,nilA,Try.facts]
              first | refine CallK.p (h1) ?_ | refine CallP.i (h1) ?_
              simp (disch := omega) only [↓runPre,runPost,fieldO,ixA,cutA,lenA,aggA,rowA,appA,mkA,indA,bnd,srcA,sameOp,funcA,cvO,partA,aggD,↓PostP,resV,resAll,resOne,resVF,resAllF,resOneF,fitsAll,fitsR,fits,frz,Post,Nat.reduceBEq,Nat.reduceLT,reduceCtorEq,↓reduceIte,initS,AV.cellsOf,AV.fine,AV.one,repA,Nat.reduceMul,Nat.reduceAdd,Nat.reduceLeDiff,Nat.reduceEqDiff,Int.reduceToNat,Nat.reduceSub,Nat.reduceMod,Nat.reduceDiv,indexK.aggOf,Int.reducePow,Int.reduceLE,Int.reduceNeg,Int.reduceLT,Int.reduceBEq,Int.reduceBNe,Int.reduceEq,ownA,nilA,Try.facts,qT,qF,Bool.false_and]
              first | refine CallK.p (h2) ?_ | refine CallP.i (h2) ?_
              simp (disch := omega) only [↓runPre,runPost,fieldO,ixA,cutA,lenA,aggA,rowA,appA,mkA,indA,bnd,srcA,sameOp,funcA,cvO,partA,aggD,↓PostP,resV,resAll,resOne,resVF,resAllF,resOneF,fitsAll,fitsR,fits,frz,Post,Nat.reduceBEq,Nat.reduceLT,reduceCtorEq,↓reduceIte,initS,AV.cellsOf,AV.fine,AV.one,repA,Nat.reduceMul,Nat.reduceAdd,Nat.reduceLeDiff,Nat.reduceEqDiff,Int.reduceToNat,Nat.reduceSub,Nat.reduceMod,Nat.reduceDiv,indexK.aggOf,Int.reducePow,Int.reduceLE,Int.reduceNeg,Int.reduceLT,Int.reduceBEq,Int.reduceBNe,Int.reduceEq,ownA,nilA,Try.facts,dT,dF,qT,qF,nT,nF,Bool.false_and,Bool.and_false,qT,qF,hLi,putCells_eq]
              intro kb hkb0 hkb
              simp (disch := omega) only [↓runPre,runPost,fieldO,ixA,cutA,lenA,aggA,rowA,appA,mkA,indA,bnd,srcA,sameOp,funcA,cvO,partA,aggD,↓PostP,resV,resAll,resOne,resVF,resAllF,resOneF,fitsAll,fitsR,fits,frz,Post,Nat.reduceBEq,Nat.reduceLT,reduceCtorEq,↓reduceIte,initS,AV.cellsOf,AV.fine,AV.one,repA,Nat.reduceMul,Nat.reduceAdd,Nat.reduceLeDiff,Nat.reduceEqDiff,Int.reduceToNat,Nat.reduceSub,Nat.reduceMod,Nat.reduceDiv,indexK.aggOf,Int.reducePow,Int.reduceLE,Int.reduceNeg,Int.reduceLT,Int.reduceBEq,Int.reduceBNe,Int.reduceEq,ownA,nilA,Try.facts,hLi,hsn,hkb0]
              intro k4 o4 hk40 hk4 ho4
              replace hk4 := subset_set hk4
              simp (disch := omega) only [↓runPre,runPost,fieldO,ixA,cutA,lenA,aggA,rowA,appA,mkA,indA,bnd,srcA,sameOp,funcA,cvO,partA,aggD,↓PostP,resV,resAll,resOne,resVF,resAllF,resOneF,fitsAll,fitsR,fits,frz,Post,Nat.reduceBEq,Nat.reduceLT,reduceCtorEq,↓reduceIte,initS,AV.cellsOf,AV.fine,AV.one,repA,Nat.reduceMul,Nat.reduceAdd,Nat.reduceLeDiff,Nat.reduceEqDiff,Int.reduceToNat,Nat.reduceSub,Nat.reduceMod,Nat.reduceDiv,indexK.aggOf,Int.reducePow,Int.reduceLE,Int.reduceNeg,Int.reduceLT,Int.reduceBEq,Int.reduceBNe,Int.reduceEq,ownA,nilA,Try.facts,hLi,hsn,ho4,hk40]
              intro k5 o5 hk50 hk5 ho5
              replace hk5 := subset_set hk5
              have n35 := set_ne hk5
              simp (disch := omega) only [↓runPre,runPost,fieldO,ixA,cutA,lenA,aggA,rowA,appA,mkA,indA,bnd,srcA,sameOp,funcA,cvO,partA,aggD,↓PostP,resV,resAll,resOne,resVF,resAllF,resOneF,fitsAll,fitsR,fits,frz,Post,Nat.reduceBEq,Nat.reduceLT,reduceCtorEq,↓reduceIte,initS,AV.cellsOf,AV.fine,AV.one,repA,Nat.reduceMul,Nat.reduceAdd,Nat.reduceLeDiff,Nat.reduceEqDiff,Int.reduceToNat,Nat.reduceSub,Nat.reduceMod,Nat.reduceDiv,indexK.aggOf,Int.reducePow,Int.reduceLE,Int.reduceNeg,Int.reduceLT,Int.reduceBEq,Int.reduceBNe,Int.reduceEq,ownA,nilA,Try.facts,hLi,hsn,ho5,hk50,set_other,putCells_eq]
              exact ⟨by rw [treeV,treeC,List.length_append]; rfl,((Sub.set_new hkH).set_free (subset_set hk5)).set_free hkH⟩
        · rw [dF m3] at h2
          rw [if_pos ⟨m2',m3⟩] at hR
          subst hR
          rcases m2o with m2o | m2o
          · refine apure_of_cwp (c := ⟨Try.prog,44,[(2000009,[1,2,4,5,0,3,6,7]),(9,[0,0,0,0,2,2,2,0]),(1000000,[3,2])],[33],[]⟩) (rs := [ResultVar.cell 4 90,ResultVar.tmp 5]) Try.mixed Try.func43 rfl rfl rfl (Nat.le_of_ble_eq_true rfl) (by kernel_rfl) fun H => ?_
            simp (disch := omega) only [↓runPre,runPost,fieldO,ixA,cutA,lenA,aggA,rowA,appA,mkA,indA,bnd,srcA,sameOp,funcA,cvO,partA,aggD,↓PostP,resV,resAll,resOne,resVF,resAllF,resOneF,fitsAll,fitsR,fits,frz,Post,Nat.reduceBEq,Nat.reduceLT,reduceCtorEq,↓reduceIte,initS,AV.cellsOf,AV.fine,AV.one,repA,Nat.reduceMul,Nat.reduceAdd,Nat.reduceLeDiff,Nat.reduceEqDiff,Int.reduceToNat,Nat.reduceSub,Nat.reduceMod,Nat.reduceDiv,indexK.aggOf,Int.reducePow,Int.reduceLE,Int.reduceNeg,Int.reduceLT,Int.reduceBEq,Int.reduceBNe,Int.reduceEq,ownA,nilA,Try.facts]
            intro k1 hk10 hk1 k2 hk20 hk2 k3 hk30 hk3
            have n23 := set_ne hk3
            have n13 := set_ne (subset_set hk3)
            have hkH := subset_set (subset_set hk3)
            simp (disch := omega) only [↓runPre,runPost,fieldO,ixA,cutA,lenA,aggA,rowA,appA,mkA,indA,bnd,srcA,sameOp,funcA,cvO,partA,aggD,↓PostP,resV,resAll,resOne,resVF,resAllF,resOneF,fitsAll,fitsR,fits,frz,Post,Nat.reduceBEq,Nat.reduceLT,reduceCtorEq,↓reduceIte,initS,AV.cellsOf,AV.fine,AV.one,repA,Nat.reduceMul,Nat.reduceAdd,Nat.reduceLeDiff,Nat.reduceEqDiff,Int.reduceToNat,Nat.reduceSub,Nat.reduceMod,Nat.reduceDiv,indexK.aggOf,Int.reducePow,Int.reduceLE,Int.reduceNeg,Int.reduceLT,Int.reduceBEq,Int.reduceBNe,Int.reduceEq,ownA,nilA,Try.facts,set_other,kill_under hk2 n23,kill_under hk1 n13]
            first | refine CallK.p (h0) ?_ | refine CallP.i (h0) ?_
            simp (disch := omega) only [↓runPre,runPost,fieldO,ixA,cutA,lenA,aggA,rowA,appA,mkA,indA,bnd,srcA,sameOp,funcA,cvO,partA,aggD,↓PostP,resV,resAll,resOne,resVF,resAllF,resOneF,fitsAll,fitsR,fits,frz,Post,Nat.reduceBEq,Nat.reduceLT,reduceCtorEq,↓reduceIte,initS,AV.cellsOf,AV.fine,AV.one,repA,Nat.reduceMul,Nat.reduceAdd,Nat.reduceLeDiff,Nat.reduceEqDiff,Int.reduceToNat,Nat.reduceSub,Nat.reduceMod,Nat.reduceDiv,indexK.aggOf,Int.reducePow,Int.reduceLE,Int.reduceNeg,Int.reduceLT,Int.reduceBEq,Int.reduceBNe,Int.reduceEq,ownA,nilA,Try.facts]
            first | refine CallK.p (h1) ?_ | refine CallP.i (h1) ?_
            simp (disch := omega) only [↓runPre,runPost,fieldO,ixA,cutA,lenA,aggA,rowA,appA,mkA,indA,bnd,srcA,sameOp,funcA,cvO,partA,aggD,↓PostP,resV,resAll,resOne,resVF,resAllF,resOneF,fitsAll,fitsR,fits,frz,Post,Nat.reduceBEq,Nat.reduceLT,reduceCtorEq,↓reduceIte,initS,AV.cellsOf,AV.fine,AV.one,repA,Nat.reduceMul,Nat.reduceAdd,Nat.reduceLeDiff,Nat.reduceEqDiff,Int.reduceToNat,Nat.reduceSub,Nat.reduceMod,Nat.reduceDiv,indexK.aggOf,Int.reducePow,Int.reduceLE,Int.reduceNeg,Int.reduceLT,Int.reduceBEq,Int.reduceBNe,Int.reduceEq,ownA,nilA,Try.facts,qT,qF,Bool.false_and]
            first | refine CallK.p (h2) ?_ | refine CallP.i (h2) ?_
            simp (disch := omega) only [↓runPre,runPost,fieldO,ixA,cutA,lenA,aggA,rowA,appA,mkA,indA,bnd,srcA,sameOp,funcA,cvO,partA,aggD,↓PostP,resV,resAll,resOne,resVF,resAllF,resOneF,fitsAll,fitsR,fits,frz,Post,Nat.reduceBEq,Nat.reduceLT,reduceCtorEq,↓reduceIte,initS,AV.cellsOf,AV.fine,AV.one,repA,Nat.reduceMul,Nat.reduceAdd,Nat.reduceLeDiff,Nat.reduceEqDiff,Int.reduceToNat,Nat.reduceSub,Nat.reduceMod,Nat.reduceDiv,indexK.aggOf,Int.reducePow,Int.reduceLE,Int.reduceNeg,Int.reduceLT,Int.reduceBEq,Int.reduceBNe,Int.reduceEq,ownA,nilA,Try.facts,dT,dF,qT,qF,nT,nF,Bool.false_and,Bool.and_false,putCells_eq]
            exact Sub.set_new hkH
          · refine apure_of_cwp (c := ⟨Try.prog,44,[(2000009,[1,2,4,5,0,3,6,7]),(9,[0,0,0,0,2,2,2,0]),(1000000,[3,2])],[33],[]⟩) (rs := [ResultVar.cell 4 90,ResultVar.tmp 5]) Try.mixed Try.func43 rfl rfl rfl (Nat.le_of_ble_eq_true rfl) (by kernel_rfl) fun H => ?_
            simp (disch := omega) only [↓runPre,runPost,fieldO,ixA,cutA,lenA,aggA,rowA,appA,mkA,indA,bnd,srcA,sameOp,funcA,cvO,partA,aggD,↓PostP,resV,resAll,resOne,resVF,resAllF,resOneF,fitsAll,fitsR,fits,frz,Post,Nat.reduceBEq,Nat.reduceLT,reduceCtorEq,↓reduceIte,initS,AV.cellsOf,AV.fine,AV.one,repA,Nat.reduceMul,Nat.reduceAdd,Nat.reduceLeDiff,Nat.reduceEqDiff,Int.reduceToNat,Nat.reduceSub,Nat.reduceMod,Nat.reduceDiv,indexK.aggOf,Int.reducePow,Int.reduceLE,Int.reduceNeg,Int.reduceLT,Int.reduceBEq,Int.reduceBNe,Int.reduceEq,ownA,nilA,Try.facts]
            intro k1 hk10 hk1 k2 hk20 hk2 k3 hk30 hk3
            have n23 := set_ne hk3
            have n13 := set_ne (subset_set hk3)
            have hkH := subset_set (subset_set hk3)
            simp (disch := omega) only [↓runPre,runPost,fieldO,ixA,cutA,lenA,aggA,rowA,appA,mkA,indA,bnd,srcA,sameOp,funcA,cvO,partA,aggD,↓PostP,resV,resAll,resOne,resVF,resAllF,resOneF,fitsAll,fitsR,fits,frz,Post,Nat.reduceBEq,Nat.reduceLT,reduceCtorEq,↓reduceIte,initS,AV.cellsOf,AV.fine,AV.one,repA,Nat.reduceMul,Nat.reduceAdd,Nat.reduceLeDiff,Nat.reduceEqDiff,Int.reduceToNat,Nat.reduceSub,Nat.reduceMod,Nat.reduceDiv,indexK.aggOf,Int.reducePow,Int.reduceLE,Int.reduceNeg,Int.reduceLT,Int.reduceBEq,Int.reduceBNe,Int.reduceEq,ownA,nilA,Try.facts,set_other,kill_under hk2 n23,kill_under hk1 n13]
            first | refine CallK.p (h0) ?_ | refine CallP.i (h0) ?_
            simp (disch := omega) only [↓runPre,runPost,fieldO,ixA,cutA,lenA,aggA,rowA,appA,mkA,indA,bnd,srcA,sameOp,funcA,cvO,partA,aggD,↓PostP,resV,resAll,resOne,resVF,resAllF,resOneF,fitsAll,fitsR,fits,frz,Post,Nat.reduceBEq,Nat.reduceLT,reduceCtorEq,↓reduceIte,initS,AV.cellsOf,AV.fine,AV.one,repA,Nat.reduceMul,Nat.reduceAdd,Nat.reduceLeDiff,Nat.reduceEqDiff,Int.reduceToNat,Nat.reduceSub,Nat.reduceMod,Nat.reduceDiv,indexK.aggOf,Int.reducePow,Int.reduceLE,Int.reduceNeg,Int.reduceLT,Int.reduceBEq,Int.reduceBNe,Int.reduceEq,ownA,nilA,Try.facts]
            first | refine CallK.p (h1) ?_ | refine CallP.i (h1) ?_
            simp (disch := omega) only [↓runPre,runPost,fieldO,ixA,cutA,lenA,aggA,rowA,appA,mkA,indA,bnd,srcA,sameOp,funcA,cvO,partA,aggD,↓PostP,resV,resAll,resOne,resVF,resAllF,resOneF,fitsAll,fitsR,fits,frz,Post,Nat.reduceBEq,Nat.reduceLT,reduceCtorEq,↓reduceIte,initS,AV.cellsOf,AV.fine,AV.one,repA,Nat.reduceMul,Nat.reduceAdd,Nat.reduceLeDiff,Nat.reduceEqDiff,Int.reduceToNat,Nat.reduceSub,Nat.reduceMod,Nat.reduceDiv,indexK.aggOf,Int.reducePow,Int.reduceLE,Int.reduceNeg,Int.reduceLT,Int.reduceBEq,Int.reduceBNe,Int.reduceEq,ownA,nilA,Try.facts,qT,qF,Bool.false_and]
            first | refine CallK.p (h2) ?_ | refine CallP.i (h2) ?_
            simp (disch := omega) only [↓runPre,runPost,fieldO,ixA,cutA,lenA,aggA,rowA,appA,mkA,indA,bnd,srcA,sameOp,funcA,cvO,partA,aggD,↓PostP,resV,resAll,resOne,resVF,resAllF,resOneF,fitsAll,fitsR,fits,frz,Post,Nat.reduceBEq,Nat.reduceLT,reduceCtorEq,↓reduceIte,initS,AV.cellsOf,AV.fine,AV.one,repA,Nat.reduceMul,Nat.reduceAdd,Nat.reduceLeDiff,Nat.reduceEqDiff,Int.reduceToNat,Nat.reduceSub,Nat.reduceMod,Nat.reduceDiv,indexK.aggOf,Int.reducePow,Int.reduceLE,Int.reduceNeg,Int.reduceLT,Int.reduceBEq,Int.reduceBNe,Int.reduceEq,ownA,nilA,Try.facts,dT,dF,qT,qF,nT,nF,Bool.false_and,Bool.and_false,putCells_eq]
            exact Sub.set_new hkH
end Go.Proofs.Ytgkpidbeoccpnaa
end
section
/-
  The walks of the fugue layer: a text as a state; is there an element; how many are there.
  Conditions: none. Lemmas only.
-/
set_option linter.unusedSimpArgs false
set_option linter.unusedVariables false
set_option maxRecDepth 8000
set_option maxHeartbeats 4000000
namespace Go.Proofs.Ytgkpidbeoccpnaa
open Go Go.Abs Go.Proofs Go.Fug

abbrev nodeC (L : List Ins) (G : List EId) (x : EId) : List AV := [.sc (.int .i64 x.1),.sc (.int .i64 x.2),.sc (.int .i32 (ndOf L G x).rune),.sc (.bool (ndOf L G x).gone),idsV (kids L x false),idsV (kids L x true)]
abbrev nodeA (L : List Ins) (G : List EId) (x : EId) : AV := .agg (nodeC L G x)
def idsOf (L : List Ins) : List EId := root :: L.map (·.id)
def entsOf (I : List EId) (f : EId → AV) : List (AV × AV) := I.map fun y => (idV y,f y)
theorem find_ids (f : EId → AV) (x : EId) : ∀ (I : List EId) (i : Nat),findA Try.prog 27 (idV x) (entsOf I f) i = some (if x ∈ I then some (i + I.idxOf x,f x) else none)
  | [],i => rfl
  | y :: I,i => by
    have ih := find_ids f x I (i + 1)
    unfold entsOf at ih ⊢
    simp only [List.map_cons,findA]
    rw [Try.eq27]
    by_cases hxy : x = y
    · subst hxy
      simp
    · have h1 : ((x.1 == y.1) && ((x.2 == y.2) && true)) = false := by
        rw [Bool.eq_false_iff]
        intro h
        simp only [Bool.and_eq_true,beq_iff_eq,and_true] at h
        exact hxy (Prod.ext h.1 h.2)
      have h2 : (y == x) = false := by simp; exact fun e => hxy e.symm
      rw [h1]
      simp only [ih,List.mem_cons,hxy,false_or]
      rw [List.idxOf_cons,h2]
      simp only [cond_false]
      split
      · congr 3; omega
      · rfl
/-- a text -/
structure IsT (H : AH) (h m : Nat) (L : List Ins) (G : List EId) : Prop where
  hi : H h = some (.cells [.mp m,.sc (.int .i64 (G.length : Nat))] 104 2)
  hp : ∃ I : List EId,I.Perm (idsOf L) ∧ H m = some (.map (entsOf I (nodeA L G)))
  g : Fug.Good L
  gs : ∀ x ∈ G,x ∈ L.map (·.id)
  gn : G.Nodup
  small : L.length ≤ 4096
/-- in which order the map was filled -/
noncomputable def IsT.ord {H : AH} {h m : Nat} {L : List Ins} {G : List EId} (t : IsT H h m L G) : List EId := Classical.choose t.hp
theorem IsT.perm {H : AH} {h m : Nat} {L : List Ins} {G : List EId} (t : IsT H h m L G) : t.ord.Perm (idsOf L) := (Classical.choose_spec t.hp).1
theorem IsT.hm {H : AH} {h m : Nat} {L : List Ins} {G : List EId} (t : IsT H h m L G) : H m = some (.map (entsOf t.ord (nodeA L G))) := (Classical.choose_spec t.hp).2
theorem IsT.gl {H : AH} {h m : Nat} {L : List Ins} {G : List EId} (t : IsT H h m L G) : G.length ≤ L.length := by
  have := len_le_of_sub G (L.map (·.id)) t.gn t.gs
  rwa [List.length_map] at this
theorem IsT.hmne {H : AH} {h m : Nat} {L : List Ins} {G : List EId} (t : IsT H h m L G) : ¬ h = m := by
  rintro rfl
  have := t.hi.symm.trans t.hm
  cases this
theorem Good.root_no {L : List Ins} (g : Fug.Good L) : root ∉ L.map (·.id) := fun h => by
  obtain ⟨i,hi,e⟩ := List.mem_map.1 h
  exact okI_ne (g.ok i hi) e
theorem mem_idsOf {L : List Ins} {x : EId} (h : x ≠ root) : x ∈ idsOf L ↔ x ∈ L.map (·.id) := by
  unfold idsOf
  simp only [List.mem_cons,h,false_or]
theorem idsOf_length (L : List Ins) : (idsOf L).length = L.length + 1 := by simp [idsOf]

theorem has_live (H : AH) (h m : Nat) (L : List Ins) (G : List EId) (x : EId) (t : IsT H h m L G) : ACalls Try.prog 51 [.ptr h 0,idV x] H fun v H' => v = .sc (.bool (decide (x ∈ L.map (·.id)))) ∧ H' = H := by
  have hm := t.hm
  have hpm := t.perm
  generalize t.ord = I at hm hpm
  have hf := find_ids (nodeA L G) x I 0
  obtain ⟨hi,-,g,gs,gn,small⟩ := t
  have hno := Good.root_no g
  by_cases hx : x = root
  · subst hx
    rw [dF hno]
    refine acalls_of_cwp (c := ⟨Try.prog,24,[(3,[0,0,0,0,0,0,0,0,0,2,2,0]),(1000000,[3]),(1000003,[5])],[],[(3,(.op 0 0 (.op 1 0 (.op 2 0 (.op 4 0 (.or (.op 3 2 (.or (.op 5 2 (.op 6 0 (.op 7 0 (.op 8 0 (.op 9 2 (.op 10 2 (.op 11 0 .nil))))))) (.op 9 2 (.op 5 2 (.op 6 0 (.op 7 0 (.op 8 0 (.op 10 2 (.op 11 0 .nil))))))))) (.op 9 2 (.op 3 2 (.op 5 2 (.op 6 0 (.op 7 0 (.op 8 0 (.op 10 2 (.op 11 0 .nil))))))))))))))]⟩) (rs := [ResultVar.tmp 4]) Try.mixed Try.func51 rfl rfl rfl (Nat.le_of_ble_eq_true rfl) (by kernel_rfl) ?_
    simp (disch := omega) only [↓runPre,runPost,fieldO,ixA,cutA,lenA,aggA,rowA,appA,mkA,indA,bnd,srcA,sameOp,funcA,cvO,partA,aggD,↓PostP,resV,resAll,resOne,resVF,resAllF,resOneF,fitsAll,fitsR,fits,frz,Post,Nat.reduceBEq,Nat.reduceLT,reduceCtorEq,↓reduceIte,initS,AV.cellsOf,AV.fine,AV.one,repA,Nat.reduceMul,Nat.reduceAdd,Nat.reduceLeDiff,Nat.reduceEqDiff,Int.reduceToNat,Nat.reduceSub,Nat.reduceMod,Nat.reduceDiv,indexK.aggOf,Int.reducePow,Int.reduceLE,Int.reduceNeg,Int.reduceLT,Int.reduceBEq,Int.reduceBNe,Int.reduceEq,ownA,nilA,Try.facts]
    intro k hk0 hk
    simp (disch := omega) only [↓runPre,runPost,fieldO,ixA,cutA,lenA,aggA,rowA,appA,mkA,indA,bnd,srcA,sameOp,funcA,cvO,partA,aggD,↓PostP,resV,resAll,resOne,resVF,resAllF,resOneF,fitsAll,fitsR,fits,frz,Post,Nat.reduceBEq,Nat.reduceLT,reduceCtorEq,↓reduceIte,initS,AV.cellsOf,AV.fine,AV.one,repA,Nat.reduceMul,Nat.reduceAdd,Nat.reduceLeDiff,Nat.reduceEqDiff,Int.reduceToNat,Nat.reduceSub,Nat.reduceMod,Nat.reduceDiv,indexK.aggOf,Int.reducePow,Int.reduceLE,Int.reduceNeg,Int.reduceLT,Int.reduceBEq,Int.reduceBNe,Int.reduceEq,ownA,nilA,Try.facts,kill_box hk,dT,dF,qT,qF,nT,nF,Bool.false_and,Bool.and_false,beq_self_eq_true]
    exact ⟨_,rfl,H,Abs.Sub.refl _,rfl,rfl⟩
  · have hmi := (hpm.mem_iff (a := x)).trans (mem_idsOf (L := L) hx)
    have hxo : x.1 ≠ 0 ∨ (x.1 = 0 ∧ x.2 ≠ 0) := by
      by_cases e : x.1 = 0
      · exact .inr ⟨e,fun e' => hx (Prod.ext e e')⟩
      · exact .inl e
    obtain ⟨B,hB⟩ : ∃ B,B = decide (x ∈ L.map (·.id)) := ⟨_,rfl⟩
    rw [← hB]
    obtain ⟨r,hr,hrs⟩ : ∃ r : Option (Nat × AV),r = (if x ∈ I then some (0 + I.idxOf x,nodeA L G x) else none) ∧ r.isSome = B := by
      refine ⟨_,rfl,?_⟩
      by_cases hin : x ∈ L.map (·.id)
      · rw [if_pos (hmi.2 hin),hB,dT hin]; rfl
      · rw [if_neg (fun h => hin (hmi.1 h)),hB,dF hin]; rfl
    rw [← hr] at hf
    have hlen : ∃ l : List AV,(r.map (·.2)).getD (zeroV Try.prog 107) = .agg l ∧ l.length = 6 ∧ l.all AV.one = true := by
      by_cases hin : x ∈ I
      · rw [if_pos hin] at hr; subst hr; exact ⟨nodeC L G x,rfl,rfl,rfl⟩
      · rw [if_neg hin] at hr; subst hr; exact ⟨_,Try.zv107,rfl,rfl⟩
    obtain ⟨l,hl,hl6,hl1⟩ := hlen
    obtain ⟨l1,l2,l3,l4,l5,l6,rfl⟩ : ∃ a b c d e f,l = [a,b,c,d,e,f] := by
      match l,hl6 with
      | [a,b,c,d,e,f],_ => exact ⟨a,b,c,d,e,f,rfl⟩
    obtain ⟨a,c⟩ := x
    simp only [] at hxo hf
    generalize entsOf I (nodeA L G) = E at *
    clear hr hB hmi hno
    simp only [Try.zv107] at hl
    simp only [List.all_cons,List.all_nil,Bool.and_eq_true,and_true] at hl1
    obtain ⟨o1,o2,o3,o4,o5,o6⟩ := hl1
    refine acalls_of_cwp (c := ⟨Try.prog,24,[(3,[0,0,0,0,0,0,0,0,0,2,2,0]),(1000000,[3]),(1000003,[5])],[],[(3,(.op 0 0 (.op 1 0 (.op 2 0 (.op 4 0 (.or (.op 3 2 (.or (.op 5 2 (.op 6 0 (.op 7 0 (.op 8 0 (.op 9 2 (.op 10 2 (.op 11 0 .nil))))))) (.op 9 2 (.op 5 2 (.op 6 0 (.op 7 0 (.op 8 0 (.op 10 2 (.op 11 0 .nil))))))))) (.op 9 2 (.op 3 2 (.op 5 2 (.op 6 0 (.op 7 0 (.op 8 0 (.op 10 2 (.op 11 0 .nil))))))))))))))]⟩) (rs := [ResultVar.tmp 4]) Try.mixed Try.func51 rfl rfl rfl (Nat.le_of_ble_eq_true rfl) (by kernel_rfl) ?_
    simp (disch := omega) only [↓runPre,runPost,fieldO,ixA,cutA,lenA,aggA,rowA,appA,mkA,indA,bnd,srcA,sameOp,funcA,cvO,partA,aggD,↓PostP,resV,resAll,resOne,resVF,resAllF,resOneF,fitsAll,fitsR,fits,frz,Post,Nat.reduceBEq,Nat.reduceLT,reduceCtorEq,↓reduceIte,initS,AV.cellsOf,AV.fine,AV.one,repA,Nat.reduceMul,Nat.reduceAdd,Nat.reduceLeDiff,Nat.reduceEqDiff,Int.reduceToNat,Nat.reduceSub,Nat.reduceMod,Nat.reduceDiv,indexK.aggOf,Int.reducePow,Int.reduceLE,Int.reduceNeg,Int.reduceLT,Int.reduceBEq,Int.reduceBNe,Int.reduceEq,ownA,nilA,Try.facts]
    intro k hk0 hk
    rcases hxo with hxo | hxo
    all_goals
      simp (disch := omega) only [↓runPre,runPost,fieldO,ixA,cutA,lenA,aggA,rowA,appA,mkA,indA,bnd,srcA,sameOp,funcA,cvO,partA,aggD,↓PostP,resV,resAll,resOne,resVF,resAllF,resOneF,fitsAll,fitsR,fits,frz,Post,Nat.reduceBEq,Nat.reduceLT,reduceCtorEq,↓reduceIte,initS,AV.cellsOf,AV.fine,AV.one,repA,Nat.reduceMul,Nat.reduceAdd,Nat.reduceLeDiff,Nat.reduceEqDiff,Int.reduceToNat,Nat.reduceSub,Nat.reduceMod,Nat.reduceDiv,indexK.aggOf,Int.reducePow,Int.reduceLE,Int.reduceNeg,Int.reduceLT,Int.reduceBEq,Int.reduceBNe,Int.reduceEq,ownA,nilA,Try.facts,kill_box hk,dT,dF,qT,qF,nT,nF,Bool.false_and,Bool.and_false,hi,hm,hf]
      refine draw_t (fun σ E' => ∃ (b : Nat) (c : List AV),E' = H.set b (.cells c 107 6) ∧ H b = none ∧ σ 5 = .ptr b 0 ∧ σ 6 = .sc (.bool B)) ?_ ?_
      · simp (disch := omega) only [↓runPre,runPost,fieldO,ixA,cutA,lenA,aggA,rowA,appA,mkA,indA,bnd,srcA,sameOp,funcA,cvO,partA,aggD,↓PostP,resV,resAll,resOne,resVF,resAllF,resOneF,fitsAll,fitsR,fits,frz,Post,Nat.reduceBEq,Nat.reduceLT,reduceCtorEq,↓reduceIte,initS,AV.cellsOf,AV.fine,AV.one,repA,Nat.reduceMul,Nat.reduceAdd,Nat.reduceLeDiff,Nat.reduceEqDiff,Int.reduceToNat,Nat.reduceSub,Nat.reduceMod,Nat.reduceDiv,indexK.aggOf,Int.reducePow,Int.reduceLE,Int.reduceNeg,Int.reduceLT,Int.reduceBEq,Int.reduceBNe,Int.reduceEq,ownA,nilA,Try.facts,hi,hm,hf,hl,hrs,o1,o2,o3,o4,o5,o6]
        refine ⟨⟨?_,?_⟩,?_⟩
        all_goals
          intro b hb0 hb
          have nb1 := ne_live hi hb
          have nb2 := ne_live hm hb
          try simp (disch := omega) only [↓runPre,runPost,fieldO,ixA,cutA,lenA,aggA,rowA,appA,mkA,indA,bnd,srcA,sameOp,funcA,cvO,partA,aggD,↓PostP,resV,resAll,resOne,resVF,resAllF,resOneF,fitsAll,fitsR,fits,frz,Post,Nat.reduceBEq,Nat.reduceLT,reduceCtorEq,↓reduceIte,initS,AV.cellsOf,AV.fine,AV.one,repA,Nat.reduceMul,Nat.reduceAdd,Nat.reduceLeDiff,Nat.reduceEqDiff,Int.reduceToNat,Nat.reduceSub,Nat.reduceMod,Nat.reduceDiv,indexK.aggOf,Int.reducePow,Int.reduceLE,Int.reduceNeg,Int.reduceLT,Int.reduceBEq,Int.reduceBNe,Int.reduceEq,ownA,nilA,Try.facts,hi,hm,hf,hl,hrs,set_other,putCells_eq,o1,o2,o3,o4,o5,o6]
          exact ⟨b,_,rfl,hb,rfl⟩
      · rintro σ E' ⟨b,c,rfl,hb,h5,h6⟩
        simp (disch := omega) only [↓runPre,runPost,fieldO,ixA,cutA,lenA,aggA,rowA,appA,mkA,indA,bnd,srcA,sameOp,funcA,cvO,partA,aggD,↓PostP,resV,resAll,resOne,resVF,resAllF,resOneF,fitsAll,fitsR,fits,frz,Post,Nat.reduceBEq,Nat.reduceLT,reduceCtorEq,↓reduceIte,initS,AV.cellsOf,AV.fine,AV.one,repA,Nat.reduceMul,Nat.reduceAdd,Nat.reduceLeDiff,Nat.reduceEqDiff,Int.reduceToNat,Nat.reduceSub,Nat.reduceMod,Nat.reduceDiv,indexK.aggOf,Int.reducePow,Int.reduceLE,Int.reduceNeg,Int.reduceLT,Int.reduceBEq,Int.reduceBNe,Int.reduceEq,ownA,nilA,Try.facts,h5,h6,kill_box hb]
        exact ⟨_,rfl,H,Abs.Sub.refl _,rfl,rfl⟩

theorem len_live (H : AH) (h m : Nat) (L : List Ins) (G : List EId) (t : IsT H h m L G) : ACalls Try.prog 31 [.ptr h 0] H fun v H' => v = .sc (.int .i64 ((L.length - G.length : Nat))) ∧ H' = H := by
  have hgl := t.gl
  have hm := t.hm
  have hel : (entsOf t.ord (nodeA L G)).length = L.length + 1 := by rw [entsOf,List.length_map,t.perm.length_eq,idsOf_length]
  generalize entsOf t.ord (nodeA L G) = E at *
  obtain ⟨hi,-,g,gs,gn,small⟩ := t
  have hw : ((L.length : Int) - (G.length : Int)) = ((L.length - G.length : Nat) : Int) := by omega
  have hw1 : (((L.length + 1 : Nat) : Int) - 1) = (L.length : Int) := by omega
  refine acalls_of_cwp (c := ⟨Try.prog,16,[(3,[0,0,0,1,1,0,0,0,0,1,0,0])],[],[]⟩) (rs := [ResultVar.tmp 2]) Try.mixed Try.func31 rfl rfl rfl (Nat.le_of_ble_eq_true rfl) (by kernel_rfl) ?_
  simp (disch := omega) only [↓runPre,runPost,fieldO,ixA,cutA,lenA,aggA,rowA,appA,mkA,indA,bnd,srcA,sameOp,funcA,cvO,partA,aggD,↓PostP,resV,resAll,resOne,resVF,resAllF,resOneF,fitsAll,fitsR,fits,frz,Post,Nat.reduceBEq,Nat.reduceLT,reduceCtorEq,↓reduceIte,initS,AV.cellsOf,AV.fine,AV.one,repA,Nat.reduceMul,Nat.reduceAdd,Nat.reduceLeDiff,Nat.reduceEqDiff,Int.reduceToNat,Nat.reduceSub,Nat.reduceMod,Nat.reduceDiv,indexK.aggOf,Int.reducePow,Int.reduceLE,Int.reduceNeg,Int.reduceLT,Int.reduceBEq,Int.reduceBNe,Int.reduceEq,ownA,nilA,Try.facts,hi,hm,hel,hw,hw1]
  refine ⟨_,rfl,H,Abs.Sub.refl _,?_,rfl⟩
  try rfl
  try (congr 2)
  try omega
/-- a new text -/
theorem new_live (H : AH) : ACalls Try.prog 36 [] H fun v H' => ∃ h m,v = .ptr h 0 ∧ H h = none ∧ H m = none ∧ Abs.Sub H H' ∧ IsT H' h m [] [] := by
  refine acalls_of_cwp (c := ⟨Try.prog,7,[],[],[]⟩) (rs := [ResultVar.tmp 0]) Try.mixed Try.func36 rfl rfl rfl (Nat.le_of_ble_eq_true rfl) (by kernel_rfl) ?_
  simp (disch := omega) only [↓runPre,runPost,fieldO,ixA,cutA,lenA,aggA,rowA,appA,mkA,indA,bnd,srcA,sameOp,funcA,cvO,partA,aggD,↓PostP,resV,resAll,resOne,resVF,resAllF,resOneF,fitsAll,fitsR,fits,frz,Post,Nat.reduceBEq,Nat.reduceLT,reduceCtorEq,↓reduceIte,initS,AV.cellsOf,AV.fine,AV.one,repA,Nat.reduceMul,Nat.reduceAdd,Nat.reduceLeDiff,Nat.reduceEqDiff,Int.reduceToNat,Nat.reduceSub,Nat.reduceMod,Nat.reduceDiv,indexK.aggOf,Int.reducePow,Int.reduceLE,Int.reduceNeg,Int.reduceLT,Int.reduceBEq,Int.reduceBNe,Int.reduceEq,ownA,nilA,Try.facts]
  intro m hm0 hm h hh0 hh
  have hne := set_ne hh
  exact ⟨_,rfl,_,Abs.Sub.refl _,h,m,rfl,subset_set hh,hm,(Sub.set_new hm).trans (Sub.set_new hh),⟨set_get,⟨[root],List.Perm.refl _,by rw [set_other hne,set_get]; rfl⟩,Fug.Good.nil,by simp,by simp,by simp⟩⟩
end Go.Proofs.Ytgkpidbeoccpnaa
end
section
/-
  The walks of the fugue layer: an element is added.
  Conditions: none. Lemmas only.
-/
set_option linter.unusedSimpArgs false
set_option linter.unusedVariables false
set_option maxRecDepth 8000
set_option maxHeartbeats 4000000
namespace Go.Proofs.Ytgkpidbeoccpnaa
open Go Go.Abs Go.Proofs Go.Fug

theorem map_set {β : Type} {g g' : EId → β} {p : EId} : ∀ (I : List EId),I.Nodup → p ∈ I → (∀ y ∈ I,y ≠ p → g' y = g y) → (I.map g).set (I.idxOf p) (g' p) = I.map g'
  | [],_,h,_ => by cases h
  | y :: I,hn,hp,he => by
    obtain ⟨h1,h2⟩ := List.nodup_cons.1 hn
    by_cases e : y = p
    · subst e
      simp only [List.idxOf_cons_self,List.map_cons,List.set_cons_zero]
      congr 1
      refine List.map_congr_left fun z hz => (he z (by simp [hz]) (fun e => h1 (e ▸ hz))).symm
    · have hb : (y == p) = false := by simpa using e
      have hp' : p ∈ I := by
        rcases List.mem_cons.1 hp with h | h
        · exact absurd h.symm e
        · exact h
      rw [List.idxOf_cons,hb]
      simp only [cond_false,List.map_cons,List.set_cons_succ]
      rw [map_set I h2 hp' fun z hz => he z (by simp [hz]),he y (by simp) e]
theorem idsOf_nodup {L : List Ins} (g : Fug.Good L) : (idsOf L).Nodup := List.nodup_cons.2 ⟨Good.root_no g,g.nd⟩
theorem ndOf_snoc {L : List Ins} {G : List EId} {i : Ins} {y : EId} (h : y ≠ i.id) : ndOf (L ++ [i]) G y = ndOf L G y := by
  unfold ndOf
  rw [List.find?_append]
  have : ([i].find? fun j => decide (j.id = y)) = none := by simp; exact fun e => h e.symm
  rw [this]
  cases L.find? fun j => decide (j.id = y) <;> rfl
theorem nodeA_other {L : List Ins} {G : List EId} {i : Ins} {y : EId} (h : y ≠ i.id) (hp : y ≠ i.par) : nodeA (L ++ [i]) G y = nodeA L G y := by
  unfold nodeA nodeC
  rw [ndOf_snoc h,kids_snoc,kids_snoc,if_neg (fun e => hp e.1.symm),if_neg (fun e => hp e.1.symm)]
theorem no_kids {L : List Ins} (g : Fug.Good L) {x : EId} (hr : x ≠ root) (h : x ∉ L.map (·.id)) (r : Bool) : kids L x r = [] := by
  cases e : kids L x r with
  | nil => rfl
  | cons y l =>
    obtain ⟨j,hj,-,hp,-⟩ := mem_kids.1 (show y ∈ kids L x r by rw [e]; simp)
    obtain ⟨k,hk,rfl⟩ := List.mem_iff_getElem.1 hj
    rcases g.up k hk with h1 | ⟨q,hq,h1⟩
    · exact absurd (hp.symm.trans h1) hr
    · exact absurd (List.mem_map.2 ⟨_,List.getElem_mem _,h1.trans hp⟩) h
theorem nodeA_new {L : List Ins} {G : List EId} {i : Ins} (g : Fug.Good L) (hr : i.id ≠ root) (h : i.id ∉ L.map (·.id)) (hp : i.par ≠ i.id) (hG : i.id ∉ G) :
    nodeA (L ++ [i]) G i.id = .agg [.sc (.int .i64 i.id.1),.sc (.int .i64 i.id.2),.sc (.int .i32 i.rune),.sc (.bool false),.imm 0 [] 0,.imm 0 [] 0] := by
  unfold nodeA nodeC
  rw [kids_snoc,kids_snoc,if_neg (fun e => hp e.1),if_neg (fun e => hp e.1),no_kids g hr h,no_kids g hr h]
  have hn : (L.find? fun j => decide (j.id = i.id)) = none := by
    rw [List.find?_eq_none]
    intro j hj
    simp only [decide_eq_true_eq]
    exact fun e => h (List.mem_map.2 ⟨j,hj,e⟩)
  have : ndOf (L ++ [i]) G i.id = ⟨i.id,i.rune,false⟩ := by
    unfold ndOf
    rw [List.find?_append,hn]
    simp [hG]
  rw [this]
  rfl
/-- the map with the parent's entry anew -/
theorem ents_par {L : List Ins} {G I : List EId} {i : Ins} (hn : I.Nodup) (h : i.id ∉ I) (hp : i.par ∈ I) :
    (entsOf I (nodeA L G)).set (I.idxOf i.par) (idV i.par,nodeA (L ++ [i]) G i.par) = entsOf I (nodeA (L ++ [i]) G) :=
  map_set (g := fun y => (idV y,nodeA L G y)) (g' := fun y => (idV y,nodeA (L ++ [i]) G y)) I hn hp fun y hy hne => by
    rw [nodeA_other (fun e => h (by rw [← e]; exact hy)) hne]
theorem ents_new {I : List EId} {f : EId → AV} {x : EId} : entsOf I f ++ [(idV x,f x)] = entsOf (I ++ [x]) f := by
  simp [entsOf]
theorem IsT.ord_nodup {H : AH} {h m : Nat} {L : List Ins} {G : List EId} (t : IsT H h m L G) : t.ord.Nodup := t.perm.nodup_iff.2 (idsOf_nodup t.g)
theorem IsT.ord_mem {H : AH} {h m : Nat} {L : List Ins} {G : List EId} (t : IsT H h m L G) {x : EId} : x ∈ t.ord ↔ x ∈ idsOf L := t.perm.mem_iff

def AddR (H : AH) (h m : Nat) (L : List Ins) (G : List EId) (i : Ins) (v : AV) (H' : AH) : Prop :=
  v = .sc (.int .i64 (addL L i).2) ∧ IsT H' h m (addL L i).1 G ∧ ∀ x,x ≠ m → H' x = H x
theorem okI_R (i : Ins) : okI i = (okR i && (i.right || decide (i.par ≠ root))) := by
  obtain ⟨⟨a,c⟩,⟨pa,pc⟩,ri,ru⟩ := i
  have : (decide (0 ≤ a) && decide (a < 5) && decide (1 ≤ c) && decide (c ≤ 1099511627776) && decide (0 ≤ ru) && decide (ru ≤ 1114111) && (decide (ru < 55296) || decide (57343 < ru))) = (!(decide (a < 0) || decide (5 ≤ a) || decide (c < 1) || decide (1099511627776 < c)) && (decide (0 ≤ ru) && decide (ru ≤ 1114111) && (decide (ru < 55296) || decide (57343 < ru)))) := by
    rw [Bool.eq_iff_iff]
    simp only [Bool.and_eq_true,Bool.or_eq_true,Bool.not_eq_true',Bool.or_eq_false_iff,decide_eq_true_eq,decide_eq_false_iff_not]
    omega
  simp only [okI,okR] at this ⊢
  rw [this]
theorem add_arg (H : AH) (h m : Nat) (L : List Ins) (G : List EId) (i : Ins) (t : IsT H h m L G) (hno : okI i = false) : ACalls Try.prog 34 [.ptr h 0,.agg (insC i)] H (AddR H h m L G i) := by
  have hR : addL L i = (L,1) := by unfold addL; rw [if_pos hno]
  have h0 := right_pure i
  rw [okI_R] at hno
  unfold AddR
  rw [hR]
  obtain ⟨⟨a,c⟩,⟨pa,pc⟩,ri,ru⟩ := i
  simp only [insC] at h0 hno ⊢
  cases e : okR ⟨(a,c),(pa,pc),ri,ru⟩ with
  | false =>
    rw [e] at h0
    refine acalls_of_cwp (c := ⟨Try.prog,78,[(7,[0,0,0,0,0,0,0,0,0,0,2,2,0]),(12,[0,1,0,0,1,0,0,0,1,0,1,0,0,0,2]),(13,[0,0,0,1,0,1,1,2]),(14,[0,0,0,1,0,1,0,1,0,1,0,0,2]),(1000000,[3]),(4000013,[0,3]),(4000012,[0,3,5]),(4000010,[0,3,5,44]),(4000007,[0,3,5,6]),(4000003,[0,3,22])],[],[(7,(.op 0 0 (.op 1 0 (.op 2 0 (.op 4 0 (.op 5 0 (.or (.op 3 2 (.or (.op 6 2 (.op 7 0 (.op 8 0 (.op 9 0 (.op 10 2 (.op 11 2 (.op 12 0 .nil))))))) (.op 10 2 (.op 6 2 (.op 7 0 (.op 8 0 (.op 9 0 (.op 11 2 (.op 12 0 .nil))))))))) (.op 10 2 (.op 3 2 (.op 6 2 (.op 7 0 (.op 8 0 (.op 9 0 (.op 11 2 (.op 12 0 .nil)))))))))))))))]⟩) (rs := [ResultVar.tmp 4]) Try.mixed Try.func34 rfl rfl rfl (Nat.le_of_ble_eq_true rfl) (by kernel_rfl) ?_
    simp (disch := omega) only [↓runPre,runPost,fieldO,ixA,cutA,lenA,aggA,rowA,appA,mkA,indA,bnd,srcA,sameOp,funcA,cvO,partA,aggD,↓PostP,resV,resAll,resOne,resVF,resAllF,resOneF,fitsAll,fitsR,fits,frz,Post,Nat.reduceBEq,Nat.reduceLT,reduceCtorEq,↓reduceIte,initS,AV.cellsOf,AV.fine,AV.one,repA,Nat.reduceMul,Nat.reduceAdd,Nat.reduceLeDiff,Nat.reduceEqDiff,Int.reduceToNat,Nat.reduceSub,Nat.reduceMod,Nat.reduceDiv,indexK.aggOf,Int.reducePow,Int.reduceLE,Int.reduceNeg,Int.reduceLT,Int.reduceBEq,Int.reduceBNe,Int.reduceEq,ownA,nilA,Try.facts]
    intro k hk0 hk
    simp (disch := omega) only [↓runPre,runPost,fieldO,ixA,cutA,lenA,aggA,rowA,appA,mkA,indA,bnd,srcA,sameOp,funcA,cvO,partA,aggD,↓PostP,resV,resAll,resOne,resVF,resAllF,resOneF,fitsAll,fitsR,fits,frz,Post,Nat.reduceBEq,Nat.reduceLT,reduceCtorEq,↓reduceIte,initS,AV.cellsOf,AV.fine,AV.one,repA,Nat.reduceMul,Nat.reduceAdd,Nat.reduceLeDiff,Nat.reduceEqDiff,Int.reduceToNat,Nat.reduceSub,Nat.reduceMod,Nat.reduceDiv,indexK.aggOf,Int.reducePow,Int.reduceLE,Int.reduceNeg,Int.reduceLT,Int.reduceBEq,Int.reduceBNe,Int.reduceEq,ownA,nilA,Try.facts,kill_box hk]
    first | refine CallK.p (h0) ?_ | refine CallP.i (h0) ?_
    simp (disch := omega) only [↓runPre,runPost,fieldO,ixA,cutA,lenA,aggA,rowA,appA,mkA,indA,bnd,srcA,sameOp,funcA,cvO,partA,aggD,↓PostP,resV,resAll,resOne,resVF,resAllF,resOneF,fitsAll,fitsR,fits,frz,Post,Nat.reduceBEq,Nat.reduceLT,reduceCtorEq,↓reduceIte,initS,AV.cellsOf,AV.fine,AV.one,repA,Nat.reduceMul,Nat.reduceAdd,Nat.reduceLeDiff,Nat.reduceEqDiff,Int.reduceToNat,Nat.reduceSub,Nat.reduceMod,Nat.reduceDiv,indexK.aggOf,Int.reducePow,Int.reduceLE,Int.reduceNeg,Int.reduceLT,Int.reduceBEq,Int.reduceBNe,Int.reduceEq,ownA,nilA,Try.facts]
    exact ⟨_,rfl,H,Abs.Sub.refl _,rfl,t,fun _ _ => rfl⟩
  | true =>
    rw [e] at h0 hno
    simp only [Bool.true_and,Bool.or_eq_false_iff,decide_eq_false_iff_not,ne_eq,Decidable.not_not,root,Prod.mk.injEq] at hno
    obtain ⟨rfl,rfl,rfl⟩ := hno
    refine acalls_of_cwp (c := ⟨Try.prog,78,[(7,[0,0,0,0,0,0,0,0,0,0,2,2,0]),(12,[0,1,0,0,1,0,0,0,1,0,1,0,0,0,2]),(13,[0,0,0,1,0,1,1,2]),(14,[0,0,0,1,0,1,0,1,0,1,0,0,2]),(1000000,[3]),(4000013,[0,3]),(4000012,[0,3,5]),(4000010,[0,3,5,44]),(4000007,[0,3,5,6]),(4000003,[0,3,22])],[],[(7,(.op 0 0 (.op 1 0 (.op 2 0 (.op 4 0 (.op 5 0 (.or (.op 3 2 (.or (.op 6 2 (.op 7 0 (.op 8 0 (.op 9 0 (.op 10 2 (.op 11 2 (.op 12 0 .nil))))))) (.op 10 2 (.op 6 2 (.op 7 0 (.op 8 0 (.op 9 0 (.op 11 2 (.op 12 0 .nil))))))))) (.op 10 2 (.op 3 2 (.op 6 2 (.op 7 0 (.op 8 0 (.op 9 0 (.op 11 2 (.op 12 0 .nil)))))))))))))))]⟩) (rs := [ResultVar.tmp 4]) Try.mixed Try.func34 rfl rfl rfl (Nat.le_of_ble_eq_true rfl) (by kernel_rfl) ?_
    simp (disch := omega) only [↓runPre,runPost,fieldO,ixA,cutA,lenA,aggA,rowA,appA,mkA,indA,bnd,srcA,sameOp,funcA,cvO,partA,aggD,↓PostP,resV,resAll,resOne,resVF,resAllF,resOneF,fitsAll,fitsR,fits,frz,Post,Nat.reduceBEq,Nat.reduceLT,reduceCtorEq,↓reduceIte,initS,AV.cellsOf,AV.fine,AV.one,repA,Nat.reduceMul,Nat.reduceAdd,Nat.reduceLeDiff,Nat.reduceEqDiff,Int.reduceToNat,Nat.reduceSub,Nat.reduceMod,Nat.reduceDiv,indexK.aggOf,Int.reducePow,Int.reduceLE,Int.reduceNeg,Int.reduceLT,Int.reduceBEq,Int.reduceBNe,Int.reduceEq,ownA,nilA,Try.facts]
    intro k hk0 hk
    simp (disch := omega) only [↓runPre,runPost,fieldO,ixA,cutA,lenA,aggA,rowA,appA,mkA,indA,bnd,srcA,sameOp,funcA,cvO,partA,aggD,↓PostP,resV,resAll,resOne,resVF,resAllF,resOneF,fitsAll,fitsR,fits,frz,Post,Nat.reduceBEq,Nat.reduceLT,reduceCtorEq,↓reduceIte,initS,AV.cellsOf,AV.fine,AV.one,repA,Nat.reduceMul,Nat.reduceAdd,Nat.reduceLeDiff,Nat.reduceEqDiff,Int.reduceToNat,Nat.reduceSub,Nat.reduceMod,Nat.reduceDiv,indexK.aggOf,Int.reducePow,Int.reduceLE,Int.reduceNeg,Int.reduceLT,Int.reduceBEq,Int.reduceBNe,Int.reduceEq,ownA,nilA,Try.facts,kill_box hk]
    first | refine CallK.p (h0) ?_ | refine CallP.i (h0) ?_
    simp (disch := omega) only [↓runPre,runPost,fieldO,ixA,cutA,lenA,aggA,rowA,appA,mkA,indA,bnd,srcA,sameOp,funcA,cvO,partA,aggD,↓PostP,resV,resAll,resOne,resVF,resAllF,resOneF,fitsAll,fitsR,fits,frz,Post,Nat.reduceBEq,Nat.reduceLT,reduceCtorEq,↓reduceIte,initS,AV.cellsOf,AV.fine,AV.one,repA,Nat.reduceMul,Nat.reduceAdd,Nat.reduceLeDiff,Nat.reduceEqDiff,Int.reduceToNat,Nat.reduceSub,Nat.reduceMod,Nat.reduceDiv,indexK.aggOf,Int.reducePow,Int.reduceLE,Int.reduceNeg,Int.reduceLT,Int.reduceBEq,Int.reduceBNe,Int.reduceEq,ownA,nilA,Try.facts,dT,dF,qT,qF,nT,nF,Bool.false_and,Bool.and_false,beq_self_eq_true]
    exact ⟨_,rfl,H,Abs.Sub.refl _,rfl,t,fun _ _ => rfl⟩
theorem add_there (H : AH) (h m : Nat) (L : List Ins) (G : List EId) (i : Ins) (t : IsT H h m L G) (hok : okI i = true) (hin : i.id ∈ L.map (·.id)) : ACalls Try.prog 34 [.ptr h 0,.agg (insC i)] H (AddR H h m L G i) := by
  have hR : addL L i = (L,12) := by unfold addL; rw [if_neg (by rw [hok]; simp),if_pos hin]
  have h0 := right_pure i
  have hh := has_live H h m L G i.id t
  rw [dT hin] at hh
  rw [okI_R,Bool.and_eq_true] at hok
  rw [hok.1] at h0
  have hpr := hok.2
  unfold AddR
  rw [hR]
  obtain ⟨⟨a,c⟩,⟨pa,pc⟩,ri,ru⟩ := i
  simp only [insC] at h0 hpr hh ⊢
  have hpo : (pa = 0 ∧ pc = 0) ∨ pa ≠ 0 ∨ (pa = 0 ∧ pc ≠ 0) := by omega
  refine acalls_of_cwp (c := ⟨Try.prog,78,[(7,[0,0,0,0,0,0,0,0,0,0,2,2,0]),(12,[0,1,0,0,1,0,0,0,1,0,1,0,0,0,2]),(13,[0,0,0,1,0,1,1,2]),(14,[0,0,0,1,0,1,0,1,0,1,0,0,2]),(1000000,[3]),(4000013,[0,3]),(4000012,[0,3,5]),(4000010,[0,3,5,44]),(4000007,[0,3,5,6]),(4000003,[0,3,22])],[],[(7,(.op 0 0 (.op 1 0 (.op 2 0 (.op 4 0 (.op 5 0 (.or (.op 3 2 (.or (.op 6 2 (.op 7 0 (.op 8 0 (.op 9 0 (.op 10 2 (.op 11 2 (.op 12 0 .nil))))))) (.op 10 2 (.op 6 2 (.op 7 0 (.op 8 0 (.op 9 0 (.op 11 2 (.op 12 0 .nil))))))))) (.op 10 2 (.op 3 2 (.op 6 2 (.op 7 0 (.op 8 0 (.op 9 0 (.op 11 2 (.op 12 0 .nil)))))))))))))))]⟩) (rs := [ResultVar.tmp 4]) Try.mixed Try.func34 rfl rfl rfl (Nat.le_of_ble_eq_true rfl) (by kernel_rfl) ?_
  simp (disch := omega) only [↓runPre,runPost,fieldO,ixA,cutA,lenA,aggA,rowA,appA,mkA,indA,bnd,srcA,sameOp,funcA,cvO,partA,aggD,↓PostP,resV,resAll,resOne,resVF,resAllF,resOneF,fitsAll,fitsR,fits,frz,Post,Nat.reduceBEq,Nat.reduceLT,reduceCtorEq,↓reduceIte,initS,AV.cellsOf,AV.fine,AV.one,repA,Nat.reduceMul,Nat.reduceAdd,Nat.reduceLeDiff,Nat.reduceEqDiff,Int.reduceToNat,Nat.reduceSub,Nat.reduceMod,Nat.reduceDiv,indexK.aggOf,Int.reducePow,Int.reduceLE,Int.reduceNeg,Int.reduceLT,Int.reduceBEq,Int.reduceBNe,Int.reduceEq,ownA,nilA,Try.facts]
  intro k hk0 hk
  simp (disch := omega) only [↓runPre,runPost,fieldO,ixA,cutA,lenA,aggA,rowA,appA,mkA,indA,bnd,srcA,sameOp,funcA,cvO,partA,aggD,↓PostP,resV,resAll,resOne,resVF,resAllF,resOneF,fitsAll,fitsR,fits,frz,Post,Nat.reduceBEq,Nat.reduceLT,reduceCtorEq,↓reduceIte,initS,AV.cellsOf,AV.fine,AV.one,repA,Nat.reduceMul,Nat.reduceAdd,Nat.reduceLeDiff,Nat.reduceEqDiff,Int.reduceToNat,Nat.reduceSub,Nat.reduceMod,Nat.reduceDiv,indexK.aggOf,Int.reducePow,Int.reduceLE,Int.reduceNeg,Int.reduceLT,Int.reduceBEq,Int.reduceBNe,Int.reduceEq,ownA,nilA,Try.facts,kill_box hk]
  first | refine CallK.p (h0) ?_ | refine CallP.i (h0) ?_
  simp (disch := omega) only [↓runPre,runPost,fieldO,ixA,cutA,lenA,aggA,rowA,appA,mkA,indA,bnd,srcA,sameOp,funcA,cvO,partA,aggD,↓PostP,resV,resAll,resOne,resVF,resAllF,resOneF,fitsAll,fitsR,fits,frz,Post,Nat.reduceBEq,Nat.reduceLT,reduceCtorEq,↓reduceIte,initS,AV.cellsOf,AV.fine,AV.one,repA,Nat.reduceMul,Nat.reduceAdd,Nat.reduceLeDiff,Nat.reduceEqDiff,Int.reduceToNat,Nat.reduceSub,Nat.reduceMod,Nat.reduceDiv,indexK.aggOf,Int.reducePow,Int.reduceLE,Int.reduceNeg,Int.reduceLT,Int.reduceBEq,Int.reduceBNe,Int.reduceEq,ownA,nilA,Try.facts]
  rcases hpo with hpo | hpo | hpo
  · obtain ⟨rfl,rfl⟩ := hpo
    obtain rfl : ri = true := by cases ri; (simp [root] at hpr); rfl
    simp (disch := omega) only [↓runPre,runPost,fieldO,ixA,cutA,lenA,aggA,rowA,appA,mkA,indA,bnd,srcA,sameOp,funcA,cvO,partA,aggD,↓PostP,resV,resAll,resOne,resVF,resAllF,resOneF,fitsAll,fitsR,fits,frz,Post,Nat.reduceBEq,Nat.reduceLT,reduceCtorEq,↓reduceIte,initS,AV.cellsOf,AV.fine,AV.one,repA,Nat.reduceMul,Nat.reduceAdd,Nat.reduceLeDiff,Nat.reduceEqDiff,Int.reduceToNat,Nat.reduceSub,Nat.reduceMod,Nat.reduceDiv,indexK.aggOf,Int.reducePow,Int.reduceLE,Int.reduceNeg,Int.reduceLT,Int.reduceBEq,Int.reduceBNe,Int.reduceEq,ownA,nilA,Try.facts,dT,dF,qT,qF,nT,nF,Bool.false_and,Bool.and_false,beq_self_eq_true]
    refine CallK.i hh ?_
    rintro v E ⟨rfl,hE⟩
    simp (disch := omega) only [↓runPre,runPost,fieldO,ixA,cutA,lenA,aggA,rowA,appA,mkA,indA,bnd,srcA,sameOp,funcA,cvO,partA,aggD,↓PostP,resV,resAll,resOne,resVF,resAllF,resOneF,fitsAll,fitsR,fits,frz,Post,Nat.reduceBEq,Nat.reduceLT,reduceCtorEq,↓reduceIte,initS,AV.cellsOf,AV.fine,AV.one,repA,Nat.reduceMul,Nat.reduceAdd,Nat.reduceLeDiff,Nat.reduceEqDiff,Int.reduceToNat,Nat.reduceSub,Nat.reduceMod,Nat.reduceDiv,indexK.aggOf,Int.reducePow,Int.reduceLE,Int.reduceNeg,Int.reduceLT,Int.reduceBEq,Int.reduceBNe,Int.reduceEq,ownA,nilA,Try.facts,hE]
    exact ⟨_,rfl,H,Abs.Sub.refl _,rfl,t,fun _ _ => rfl⟩
  all_goals
    simp (disch := omega) only [↓runPre,runPost,fieldO,ixA,cutA,lenA,aggA,rowA,appA,mkA,indA,bnd,srcA,sameOp,funcA,cvO,partA,aggD,↓PostP,resV,resAll,resOne,resVF,resAllF,resOneF,fitsAll,fitsR,fits,frz,Post,Nat.reduceBEq,Nat.reduceLT,reduceCtorEq,↓reduceIte,initS,AV.cellsOf,AV.fine,AV.one,repA,Nat.reduceMul,Nat.reduceAdd,Nat.reduceLeDiff,Nat.reduceEqDiff,Int.reduceToNat,Nat.reduceSub,Nat.reduceMod,Nat.reduceDiv,indexK.aggOf,Int.reducePow,Int.reduceLE,Int.reduceNeg,Int.reduceLT,Int.reduceBEq,Int.reduceBNe,Int.reduceEq,ownA,nilA,Try.facts,dT,dF,qT,qF,nT,nF,Bool.false_and,Bool.and_false,beq_self_eq_true]
    refine CallK.i hh ?_
    rintro v E ⟨rfl,hE⟩
    simp (disch := omega) only [↓runPre,runPost,fieldO,ixA,cutA,lenA,aggA,rowA,appA,mkA,indA,bnd,srcA,sameOp,funcA,cvO,partA,aggD,↓PostP,resV,resAll,resOne,resVF,resAllF,resOneF,fitsAll,fitsR,fits,frz,Post,Nat.reduceBEq,Nat.reduceLT,reduceCtorEq,↓reduceIte,initS,AV.cellsOf,AV.fine,AV.one,repA,Nat.reduceMul,Nat.reduceAdd,Nat.reduceLeDiff,Nat.reduceEqDiff,Int.reduceToNat,Nat.reduceSub,Nat.reduceMod,Nat.reduceDiv,indexK.aggOf,Int.reducePow,Int.reduceLE,Int.reduceNeg,Int.reduceLT,Int.reduceBEq,Int.reduceBNe,Int.reduceEq,ownA,nilA,Try.facts,hE]
    exact ⟨_,rfl,H,Abs.Sub.refl _,rfl,t,fun _ _ => rfl⟩

theorem add_none (H : AH) (h m : Nat) (L : List Ins) (G : List EId) (i : Ins) (t : IsT H h m L G) (hok : okI i = true) (hin : i.id ∉ L.map (·.id)) (hp : i.par ∉ idsOf L) : ACalls Try.prog 34 [.ptr h 0,.agg (insC i)] H (AddR H h m L G i) := by
  have hpr0 : i.par ≠ root := fun e => hp (by rw [e]; simp [idsOf])
  have hR : addL L i = (L,13) := by unfold addL; rw [if_neg (by rw [hok]; simp),if_neg hin,if_pos ⟨hpr0,fun e => hp ((mem_idsOf hpr0).2 e)⟩]
  have h0 := right_pure i
  have hh := has_live H h m L G i.id t
  rw [dF hin] at hh
  rw [okI_R,Bool.and_eq_true] at hok
  rw [hok.1] at h0
  have hf := find_ids (nodeA L G) i.par t.ord 0
  rw [if_neg (fun e => hp (t.ord_mem.1 e))] at hf
  have hi := t.hi
  have hm := t.hm
  generalize hE : entsOf t.ord (nodeA L G) = E at *
  unfold AddR
  rw [hR]
  obtain ⟨⟨a,c⟩,⟨pa,pc⟩,ri,ru⟩ := i
  simp only [insC] at h0 hh hf hpr0 ⊢
  have hpo : pa ≠ 0 ∨ (pa = 0 ∧ pc ≠ 0) := by
    by_cases e : pa = 0
    · exact .inr ⟨e,fun e' => hpr0 (by rw [e,e'])⟩
    · exact .inl e
  refine acalls_of_cwp (c := ⟨Try.prog,78,[(7,[0,0,0,0,0,0,0,0,0,0,2,2,0]),(12,[0,1,0,0,1,0,0,0,1,0,1,0,0,0,2]),(13,[0,0,0,1,0,1,1,2]),(14,[0,0,0,1,0,1,0,1,0,1,0,0,2]),(1000000,[3]),(4000013,[0,3]),(4000012,[0,3,5]),(4000010,[0,3,5,44]),(4000007,[0,3,5,6]),(4000003,[0,3,22])],[],[(7,(.op 0 0 (.op 1 0 (.op 2 0 (.op 4 0 (.op 5 0 (.or (.op 3 2 (.or (.op 6 2 (.op 7 0 (.op 8 0 (.op 9 0 (.op 10 2 (.op 11 2 (.op 12 0 .nil))))))) (.op 10 2 (.op 6 2 (.op 7 0 (.op 8 0 (.op 9 0 (.op 11 2 (.op 12 0 .nil))))))))) (.op 10 2 (.op 3 2 (.op 6 2 (.op 7 0 (.op 8 0 (.op 9 0 (.op 11 2 (.op 12 0 .nil)))))))))))))))]⟩) (rs := [ResultVar.tmp 4]) Try.mixed Try.func34 rfl rfl rfl (Nat.le_of_ble_eq_true rfl) (by kernel_rfl) ?_
  simp (disch := omega) only [↓runPre,runPost,fieldO,ixA,cutA,lenA,aggA,rowA,appA,mkA,indA,bnd,srcA,sameOp,funcA,cvO,partA,aggD,↓PostP,resV,resAll,resOne,resVF,resAllF,resOneF,fitsAll,fitsR,fits,frz,Post,Nat.reduceBEq,Nat.reduceLT,reduceCtorEq,↓reduceIte,initS,AV.cellsOf,AV.fine,AV.one,repA,Nat.reduceMul,Nat.reduceAdd,Nat.reduceLeDiff,Nat.reduceEqDiff,Int.reduceToNat,Nat.reduceSub,Nat.reduceMod,Nat.reduceDiv,indexK.aggOf,Int.reducePow,Int.reduceLE,Int.reduceNeg,Int.reduceLT,Int.reduceBEq,Int.reduceBNe,Int.reduceEq,ownA,nilA,Try.facts]
  intro k hk0 hk
  simp (disch := omega) only [↓runPre,runPost,fieldO,ixA,cutA,lenA,aggA,rowA,appA,mkA,indA,bnd,srcA,sameOp,funcA,cvO,partA,aggD,↓PostP,resV,resAll,resOne,resVF,resAllF,resOneF,fitsAll,fitsR,fits,frz,Post,Nat.reduceBEq,Nat.reduceLT,reduceCtorEq,↓reduceIte,initS,AV.cellsOf,AV.fine,AV.one,repA,Nat.reduceMul,Nat.reduceAdd,Nat.reduceLeDiff,Nat.reduceEqDiff,Int.reduceToNat,Nat.reduceSub,Nat.reduceMod,Nat.reduceDiv,indexK.aggOf,Int.reducePow,Int.reduceLE,Int.reduceNeg,Int.reduceLT,Int.reduceBEq,Int.reduceBNe,Int.reduceEq,ownA,nilA,Try.facts,kill_box hk]
  first | refine CallK.p (h0) ?_ | refine CallP.i (h0) ?_
  simp (disch := omega) only [↓runPre,runPost,fieldO,ixA,cutA,lenA,aggA,rowA,appA,mkA,indA,bnd,srcA,sameOp,funcA,cvO,partA,aggD,↓PostP,resV,resAll,resOne,resVF,resAllF,resOneF,fitsAll,fitsR,fits,frz,Post,Nat.reduceBEq,Nat.reduceLT,reduceCtorEq,↓reduceIte,initS,AV.cellsOf,AV.fine,AV.one,repA,Nat.reduceMul,Nat.reduceAdd,Nat.reduceLeDiff,Nat.reduceEqDiff,Int.reduceToNat,Nat.reduceSub,Nat.reduceMod,Nat.reduceDiv,indexK.aggOf,Int.reducePow,Int.reduceLE,Int.reduceNeg,Int.reduceLT,Int.reduceBEq,Int.reduceBNe,Int.reduceEq,ownA,nilA,Try.facts]
  rcases hpo with hpo | hpo
  all_goals
    simp (disch := omega) only [↓runPre,runPost,fieldO,ixA,cutA,lenA,aggA,rowA,appA,mkA,indA,bnd,srcA,sameOp,funcA,cvO,partA,aggD,↓PostP,resV,resAll,resOne,resVF,resAllF,resOneF,fitsAll,fitsR,fits,frz,Post,Nat.reduceBEq,Nat.reduceLT,reduceCtorEq,↓reduceIte,initS,AV.cellsOf,AV.fine,AV.one,repA,Nat.reduceMul,Nat.reduceAdd,Nat.reduceLeDiff,Nat.reduceEqDiff,Int.reduceToNat,Nat.reduceSub,Nat.reduceMod,Nat.reduceDiv,indexK.aggOf,Int.reducePow,Int.reduceLE,Int.reduceNeg,Int.reduceLT,Int.reduceBEq,Int.reduceBNe,Int.reduceEq,ownA,nilA,Try.facts,dT,dF,qT,qF,nT,nF,Bool.false_and,Bool.and_false,beq_self_eq_true]
    refine CallK.i hh ?_
    rintro v E' ⟨rfl,hE'⟩
    simp (disch := omega) only [↓runPre,runPost,fieldO,ixA,cutA,lenA,aggA,rowA,appA,mkA,indA,bnd,srcA,sameOp,funcA,cvO,partA,aggD,↓PostP,resV,resAll,resOne,resVF,resAllF,resOneF,fitsAll,fitsR,fits,frz,Post,Nat.reduceBEq,Nat.reduceLT,reduceCtorEq,↓reduceIte,initS,AV.cellsOf,AV.fine,AV.one,repA,Nat.reduceMul,Nat.reduceAdd,Nat.reduceLeDiff,Nat.reduceEqDiff,Int.reduceToNat,Nat.reduceSub,Nat.reduceMod,Nat.reduceDiv,indexK.aggOf,Int.reducePow,Int.reduceLE,Int.reduceNeg,Int.reduceLT,Int.reduceBEq,Int.reduceBNe,Int.reduceEq,ownA,nilA,Try.facts,hE']
    refine draw_t (fun σ F => Abs.Sub H F ∧ σ 0 = .ptr h 0 ∧ σ 6 = .sc (.bool false)) ?_ ?_
    · simp (disch := omega) only [↓runPre,runPost,fieldO,ixA,cutA,lenA,aggA,rowA,appA,mkA,indA,bnd,srcA,sameOp,funcA,cvO,partA,aggD,↓PostP,resV,resAll,resOne,resVF,resAllF,resOneF,fitsAll,fitsR,fits,frz,Post,Nat.reduceBEq,Nat.reduceLT,reduceCtorEq,↓reduceIte,initS,AV.cellsOf,AV.fine,AV.one,repA,Nat.reduceMul,Nat.reduceAdd,Nat.reduceLeDiff,Nat.reduceEqDiff,Int.reduceToNat,Nat.reduceSub,Nat.reduceMod,Nat.reduceDiv,indexK.aggOf,Int.reducePow,Int.reduceLE,Int.reduceNeg,Int.reduceLT,Int.reduceBEq,Int.reduceBNe,Int.reduceEq,ownA,nilA,Try.facts,hi,hm,hf,hE']
      refine ⟨⟨?_,?_⟩,?_⟩
      all_goals
        intro b hb0 hb
        have nb1 := ne_live hi hb
        have nb2 := ne_live hm hb
        try simp (disch := omega) only [↓runPre,runPost,fieldO,ixA,cutA,lenA,aggA,rowA,appA,mkA,indA,bnd,srcA,sameOp,funcA,cvO,partA,aggD,↓PostP,resV,resAll,resOne,resVF,resAllF,resOneF,fitsAll,fitsR,fits,frz,Post,Nat.reduceBEq,Nat.reduceLT,reduceCtorEq,↓reduceIte,initS,AV.cellsOf,AV.fine,AV.one,repA,Nat.reduceMul,Nat.reduceAdd,Nat.reduceLeDiff,Nat.reduceEqDiff,Int.reduceToNat,Nat.reduceSub,Nat.reduceMod,Nat.reduceDiv,indexK.aggOf,Int.reducePow,Int.reduceLE,Int.reduceNeg,Int.reduceLT,Int.reduceBEq,Int.reduceBNe,Int.reduceEq,ownA,nilA,Try.facts,hi,hm,hf,set_other,putCells_eq]
        exact Sub.set_new hb
    · rintro σ F ⟨hF,s0,s6⟩
      simp (disch := omega) only [↓runPre,runPost,fieldO,ixA,cutA,lenA,aggA,rowA,appA,mkA,indA,bnd,srcA,sameOp,funcA,cvO,partA,aggD,↓PostP,resV,resAll,resOne,resVF,resAllF,resOneF,fitsAll,fitsR,fits,frz,Post,Nat.reduceBEq,Nat.reduceLT,reduceCtorEq,↓reduceIte,initS,AV.cellsOf,AV.fine,AV.one,repA,Nat.reduceMul,Nat.reduceAdd,Nat.reduceLeDiff,Nat.reduceEqDiff,Int.reduceToNat,Nat.reduceSub,Nat.reduceMod,Nat.reduceDiv,indexK.aggOf,Int.reducePow,Int.reduceLE,Int.reduceNeg,Int.reduceLT,Int.reduceBEq,Int.reduceBNe,Int.reduceEq,ownA,nilA,Try.facts,s0,s6]
      exact ⟨_,rfl,H,hF,rfl,t,fun _ _ => rfl⟩
end Go.Proofs.Ytgkpidbeoccpnaa
end
