/-
  Several texts in one: each says what it proves.
  Conditions: none. Lemmas only.
-/
import Derived.Test.YtgkpidbeoccpnaaMarG5
set_option linter.all false
section
/-
  The walks of the marks layer: the document's runs of a text.
  Conditions: none. Lemmas only.
-/
set_option linter.unusedSimpArgs false
set_option linter.unusedVariables false
set_option maxRecDepth 8000
set_option maxHeartbeats 4000000
namespace Go.Proofs.Ytgkpidbeoccpnaa
open Go Go.Abs Go.Proofs Go.Fug
theorem ixd_take (ns : List Nd) (a i : Nat) : (ixd a ns).take i = ixd a (ns.take i) := by
  induction ns generalizing a i with
  | nil => simp [ixd]
  | cons n ns ih =>
    cases i with
    | zero => rfl
    | succ i => simp only [ixd,List.take_succ_cons,ih]
theorem ixd_take_succ {ns : List Nd} {i : Nat} (h : i < ns.length) : (ixd 0 ns).take (i + 1) = (ixd 0 ns).take i ++ [(i,ns[i])] := by
  have h2 : i < (ixd 0 ns).length := by rw [ixd_length]; exact h
  rw [List.take_succ_eq_append_getElem h2]
  have := ixd_get (a := 0) h
  rw [List.getElem?_eq_getElem h2] at this
  simp only [Nat.zero_add,Option.some.injEq] at this
  rw [this]
/-- the slot of the runs, and the heap -/
def OwnR (H : AH) (R : List Rn) (v : AV) (H' : AH) : Prop :=
  (R = [] ∧ v = .sc (.slice none 0 0) ∧ H' = H) ∨
  (R ≠ [] ∧ ∃ k,v = .own k 0 R.length ∧ k ≠ 0 ∧ H k = none ∧ H' = H.set k (.cells (rnsC R.reverse) 66 6))
theorem rruns_pure (ns : List Nd) (l : List Mk) (hL : ns.length ≤ 4096) (hl : l.length ≤ 100000) : APure Try.prog 28 [ndsV ns,mksV l] (rnsV (runsN ns l)) := fun H => by
  have hns := ndsC_length ns
  have hsp := fun i => style_pure ns l i (by omega) hl
  have hR : ∀ i,styD ns l i = styC (styN ns l i).1 (styN ns l i).2.1 (styN ns l i).2.2.1 (styN ns l i).2.2.2 := fun _ => rfl
  unfold runsN
  simp only [hR] at hsp
  clear hR
  generalize styN ns l = sty at *
  have hrl := fun i => runsR_len sty ((ixd 0 ns).take i)
  have htx := fun i => runsR_txt sty ((ixd 0 ns).take i)
  simp only [List.length_take,ixd_length] at hrl htx
  obtain ⟨F,hF⟩ : ∃ F : Nat → List Rn,F = fun i => runsR sty ((ixd 0 ns).take i) := ⟨_,rfl⟩
  have hF0 : F 0 = [] := by rw [hF]; rfl
  have hFs : ∀ i (h : i < ns.length),F (i + 1) = runS sty (F i) (i,ns[i]) := fun i h => by
    rw [hF]
    simp only []
    rw [ixd_take_succ h,runsR_snoc]
  have hFe : runsR sty (ixd 0 ns) = F ns.length := by
    rw [hF]
    simp only []
    rw [List.take_of_length_le (by rw [ixd_length]; exact Nat.le_refl _)]
  have hFl : ∀ i,(F i).length ≤ 4096 := fun i => by rw [hF]; have := hrl i; simp only []; omega
  have hFt : ∀ i,i ≤ ns.length → TxtLe (4 * 4096) (F i) := fun i h r hr => by
    rw [hF] at hr
    have := htx i r hr
    omega
  rw [hFe]
  clear hrl htx hF hFe
  refine ACalls.freeze (R := fun v H' => (F ns.length = [] ∧ v = rnsV [] ∧ H' = H) ∨ ∃ k,v = .own k 0 (F ns.length).length ∧ H k = none ∧ H' k = some (.cells (rnsC (F ns.length).reverse) 66 6) ∧ Abs.Sub H H') ?_ ?_
  · refine acalls_of_cwp (c := ⟨Try.prog,69,[(7,[0,1,0,0,0,0,1,0,0,0,1,1,0,0]),(8,[0,0,1,0,0,0,1,0,0,0,1,0,0,0,0,1,0,0,0,0,2]),(9,[0,0,0,0,0,1,0,1,0,0,2,0]),(1000006,[7]),(4000009,[0,1,5,6]),(4000008,[0,1,5,6]),(4000007,[0,1,5,6,7,36]),(4000006,[0,1,5,6,7]),(4000005,[0,1,5,6,18])],[1000067],[]⟩) (rs := [ResultVar.tmp 4]) Try.mixed Try.func28 rfl rfl rfl (Nat.le_of_ble_eq_true rfl) (by kernel_rfl) ?_
    simp (disch := omega) only [↓runPre,runPost,fieldO,ixA,cutA,lenA,aggA,rowA,appA,mkA,indA,bnd,srcA,sameOp,funcA,cvO,partA,aggD,↓PostP,resV,resAll,resOne,resVF,resAllF,resOneF,fitsAll,fitsR,fits,frz,Post,Nat.reduceBEq,Nat.reduceLT,reduceCtorEq,↓reduceIte,initS,AV.cellsOf,AV.fine,AV.one,repA,Nat.reduceMul,Nat.reduceAdd,Nat.reduceLeDiff,Nat.reduceEqDiff,Int.reduceToNat,Nat.reduceSub,Nat.reduceMod,Nat.reduceDiv,indexK.aggOf,Int.reducePow,Int.reduceLE,Int.reduceNeg,Int.reduceLT,Int.reduceBEq,Int.reduceBNe,Int.reduceEq,ownA,nilA,Try.facts]
    refine loop_t (c := ⟨Try.prog,69,[(7,[0,1,0,0,0,0,1,0,0,0,1,1,0,0]),(8,[0,0,1,0,0,0,1,0,0,0,1,0,0,0,0,1,0,0,0,0,2]),(9,[0,0,0,0,0,1,0,1,0,0,2,0]),(1000006,[7]),(4000009,[0,1,5,6]),(4000008,[0,1,5,6]),(4000007,[0,1,5,6,7,36]),(4000006,[0,1,5,6,7]),(4000005,[0,1,5,6,18])],[1000067],[]⟩) Try.mixed (by kernel_rfl) (fun mm σ H' => ∃ i : Nat,i + mm = ns.length ∧ OwnR H (F i) (σ 5) H' ∧ σ 0 = ndsV ns ∧ σ 1 = mksV l ∧ σ 6 = .sc (.int .i64 (i : Nat))) ns.length ?_ ?_
    · refine ⟨0,by omega,.inl ⟨hF0,rfl,rfl⟩,?_⟩
      simp (disch := omega) only [↓runPre,runPost,fieldO,ixA,cutA,lenA,aggA,rowA,appA,mkA,indA,bnd,srcA,sameOp,funcA,cvO,partA,aggD,↓PostP,resV,resAll,resOne,resVF,resAllF,resOneF,fitsAll,fitsR,fits,frz,Post,Nat.reduceBEq,Nat.reduceLT,reduceCtorEq,↓reduceIte,initS,AV.cellsOf,AV.fine,AV.one,repA,Nat.reduceMul,Nat.reduceAdd,Nat.reduceLeDiff,Nat.reduceEqDiff,Int.reduceToNat,Nat.reduceSub,Nat.reduceMod,Nat.reduceDiv,indexK.aggOf,Int.reducePow,Int.reduceLE,Int.reduceNeg,Int.reduceLT,Int.reduceBEq,Int.reduceBNe,Int.reduceEq,ownA,nilA,Try.facts]
      try rfl
    · rintro mm σ H' ⟨i,him,ho,s0,s1,s6⟩
      by_cases hlt : i < ns.length
      · have hst := hFs i hlt
        have hld := ndsC_get hlt (show 3 < 4 by omega)
        have hl2 := ndsC_get hlt (show 2 < 4 by omega)
        have hle3 : i * 4 + 3 < ns.length * 4 := by omega
        have hle2 : i * 4 + 2 < ns.length * 4 := by omega
        have hle4 : i * 4 + 4 ≤ ns.length * 4 := by omega
        have hsp1 := hsp i
        have hFl1 := hFl i
        have hFt1 := hFt i (by omega)
        have hFl2 := hFl (i + 1)
        generalize hR2 : F (i + 1) = R2 at *
        generalize F i = R at *
        generalize ns[i] = x at *
        obtain ⟨⟨x1,x2⟩,xu,xg⟩ := x
        simp only [ndC,List.getElem?_cons_succ,List.getElem?_cons_zero] at hld hl2
        unfold runS at hst
        simp only [] at hst
        have hr4 := runeB_len xu
        cases xg
        · simp only [Bool.false_eq_true,if_false] at hst
          generalize sty i = st at *
          obtain ⟨s1',s2',s3',s4'⟩ := st
          rcases ho with ⟨rfl,s5,rfl⟩ | ⟨hne,k,s5,hk0,hk,rfl⟩
          · simp only [] at hst
            simp (disch := omega) only [↓runPre,runPost,fieldO,ixA,cutA,lenA,aggA,rowA,appA,mkA,indA,bnd,srcA,sameOp,funcA,cvO,partA,aggD,↓PostP,resV,resAll,resOne,resVF,resAllF,resOneF,fitsAll,fitsR,fits,frz,Post,Nat.reduceBEq,Nat.reduceLT,reduceCtorEq,↓reduceIte,initS,AV.cellsOf,AV.fine,AV.one,repA,Nat.reduceMul,Nat.reduceAdd,Nat.reduceLeDiff,Nat.reduceEqDiff,Int.reduceToNat,Nat.reduceSub,Nat.reduceMod,Nat.reduceDiv,indexK.aggOf,Int.reducePow,Int.reduceLE,Int.reduceNeg,Int.reduceLT,Int.reduceBEq,Int.reduceBNe,Int.reduceEq,ownA,nilA,Try.facts,s0,s1,s5,s6,dT,dF,qT,qF,nT,nF,Bool.false_and,Bool.and_false,hld,hl2,hle3,hle2,hle4,hns]
            first | refine CallK.p (hsp1) ?_ | refine CallP.i (hsp1) ?_
            simp (disch := omega) only [↓runPre,runPost,fieldO,ixA,cutA,lenA,aggA,rowA,appA,mkA,indA,bnd,srcA,sameOp,funcA,cvO,partA,aggD,↓PostP,resV,resAll,resOne,resVF,resAllF,resOneF,fitsAll,fitsR,fits,frz,Post,Nat.reduceBEq,Nat.reduceLT,reduceCtorEq,↓reduceIte,initS,AV.cellsOf,AV.fine,AV.one,repA,Nat.reduceMul,Nat.reduceAdd,Nat.reduceLeDiff,Nat.reduceEqDiff,Int.reduceToNat,Nat.reduceSub,Nat.reduceMod,Nat.reduceDiv,indexK.aggOf,Int.reducePow,Int.reduceLE,Int.reduceNeg,Int.reduceLT,Int.reduceBEq,Int.reduceBNe,Int.reduceEq,ownA,nilA,Try.facts,s0,s1,s5,s6,dT,dF,qT,qF,nT,nF,Bool.false_and,Bool.and_false,hld,hl2,hle3,hle2,hle4,hns]
            intro kb hkb0 hkb
            simp (disch := omega) only [↓runPre,runPost,fieldO,ixA,cutA,lenA,aggA,rowA,appA,mkA,indA,bnd,srcA,sameOp,funcA,cvO,partA,aggD,↓PostP,resV,resAll,resOne,resVF,resAllF,resOneF,fitsAll,fitsR,fits,frz,Post,Nat.reduceBEq,Nat.reduceLT,reduceCtorEq,↓reduceIte,initS,AV.cellsOf,AV.fine,AV.one,repA,Nat.reduceMul,Nat.reduceAdd,Nat.reduceLeDiff,Nat.reduceEqDiff,Int.reduceToNat,Nat.reduceSub,Nat.reduceMod,Nat.reduceDiv,indexK.aggOf,Int.reducePow,Int.reduceLE,Int.reduceNeg,Int.reduceLT,Int.reduceBEq,Int.reduceBNe,Int.reduceEq,ownA,nilA,Try.facts,s0,s1,s5,s6,dT,dF,qT,qF,nT,nF,Bool.false_and,Bool.and_false,hld,hl2,hle3,hle2,hle4,hns,kill_box hkb,putCells_eq]
            intro k hk0 hk
            try simp (disch := omega) only [↓runPre,runPost,fieldO,ixA,cutA,lenA,aggA,rowA,appA,mkA,indA,bnd,srcA,sameOp,funcA,cvO,partA,aggD,↓PostP,resV,resAll,resOne,resVF,resAllF,resOneF,fitsAll,fitsR,fits,frz,Post,Nat.reduceBEq,Nat.reduceLT,reduceCtorEq,↓reduceIte,initS,AV.cellsOf,AV.fine,AV.one,repA,Nat.reduceMul,Nat.reduceAdd,Nat.reduceLeDiff,Nat.reduceEqDiff,Int.reduceToNat,Nat.reduceSub,Nat.reduceMod,Nat.reduceDiv,indexK.aggOf,Int.reducePow,Int.reduceLE,Int.reduceNeg,Int.reduceLT,Int.reduceBEq,Int.reduceBNe,Int.reduceEq,ownA,nilA,Try.facts,s0,s1,s5,s6,dT,dF,qT,qF,nT,nF,Bool.false_and,Bool.and_false,hld,hl2,hle3,hle2,hle4,hns]
            refine ⟨mm - 1,by omega,i + 1,by omega,.inr ?_,rfl⟩
            rw [hR2,hst]
            exact ⟨by simp,k,rfl,hk0,hk,rfl⟩
          · obtain ⟨r, R, rfl⟩ : ∃ r R', R = r :: R' := by
              cases R with
              | nil => exact absurd rfl hne
              | cons r R' => exact ⟨r,R',rfl⟩
            have hgt := rns_txt r R
            have hgs := rns_sty r R
            have hpt := rns_put r R
            have hcl := rns_revlen (r :: R)
            have hrt : r.txt.length ≤ 4 * 4096 := hFt1 r (by simp)
            simp only [List.length_cons] at hFl1 hcl s5
            have hz : R.length + 1 - 1 = R.length := rfl
            have hc : (⟨r.txt.toArray⟩ : ByteArray) ++ (⟨(runeB xu).toArray⟩ : ByteArray) = ⟨(r.txt ++ runeB xu).toArray⟩ := by
              apply ByteArray.ext
              simp
            have hle1 : R.length * 6 + 1 + 5 ≤ (R.length + 1) * 6 := by omega
            have hlt1 : R.length * 6 < (R.length + 1) * 6 := by omega
            have hle5 : R.length * 6 + 1 ≤ (R.length + 1) * 6 := by omega
            have hle6 : (R.length + 1) * 6 ≤ (R.length + 1) * 6 := by omega
            generalize hW : rnsC (r :: R).reverse = W at *
            obtain ⟨rt,ra,rb,rc,rd⟩ := r
            simp only [strR] at hgt hpt
            simp only [] at hrt hst hc
            have hpt2 : W.take (R.length * 6) ++ AV.sc (.string ⟨(rt ++ runeB xu).toArray⟩) :: W.drop (R.length * 6 + 1) = rnsC ((⟨rt ++ runeB xu,(ra,rb,rc,rd)⟩ : Rn) :: R).reverse := by
              rw [← hpt,putCells_eq]
              simp
            have htk : W.take ((R.length + 1) * 6) = W := List.take_of_length_le (by omega)
            by_cases he : ((ra,rb,rc,rd) : Sty) = (s1',s2',s3',s4')
            · have hq : (ra == s1' && (rb == s2' && (rc == s3' && rd == s4'))) = true := styEq_iff.2 he
              rw [if_pos he] at hst
              simp (disch := omega) only [↓runPre,runPost,fieldO,ixA,cutA,lenA,aggA,rowA,appA,mkA,indA,bnd,srcA,sameOp,funcA,cvO,partA,aggD,↓PostP,resV,resAll,resOne,resVF,resAllF,resOneF,fitsAll,fitsR,fits,frz,Post,Nat.reduceBEq,Nat.reduceLT,reduceCtorEq,↓reduceIte,initS,AV.cellsOf,AV.fine,AV.one,repA,Nat.reduceMul,Nat.reduceAdd,Nat.reduceLeDiff,Nat.reduceEqDiff,Int.reduceToNat,Nat.reduceSub,Nat.reduceMod,Nat.reduceDiv,indexK.aggOf,Int.reducePow,Int.reduceLE,Int.reduceNeg,Int.reduceLT,Int.reduceBEq,Int.reduceBNe,Int.reduceEq,ownA,nilA,Try.facts,s0,s1,s5,s6,dT,dF,qT,qF,nT,nF,Bool.false_and,Bool.and_false,hld,hl2,hle3,hle2,hle4,hns]
              first | refine CallK.p (hsp1) ?_ | refine CallP.i (hsp1) ?_
              simp (disch := omega) only [↓runPre,runPost,fieldO,ixA,cutA,lenA,aggA,rowA,appA,mkA,indA,bnd,srcA,sameOp,funcA,cvO,partA,aggD,↓PostP,resV,resAll,resOne,resVF,resAllF,resOneF,fitsAll,fitsR,fits,frz,Post,Nat.reduceBEq,Nat.reduceLT,reduceCtorEq,↓reduceIte,initS,AV.cellsOf,AV.fine,AV.one,repA,Nat.reduceMul,Nat.reduceAdd,Nat.reduceLeDiff,Nat.reduceEqDiff,Int.reduceToNat,Nat.reduceSub,Nat.reduceMod,Nat.reduceDiv,indexK.aggOf,Int.reducePow,Int.reduceLE,Int.reduceNeg,Int.reduceLT,Int.reduceBEq,Int.reduceBNe,Int.reduceEq,ownA,nilA,Try.facts,s0,s1,s5,s6,dT,dF,qT,qF,nT,nF,Bool.false_and,Bool.and_false,hld,hl2,hle3,hle2,hle4,hns]
              intro kb hkb0 hkb
              simp (disch := omega) only [↓runPre,runPost,fieldO,ixA,cutA,lenA,aggA,rowA,appA,mkA,indA,bnd,srcA,sameOp,funcA,cvO,partA,aggD,↓PostP,resV,resAll,resOne,resVF,resAllF,resOneF,fitsAll,fitsR,fits,frz,Post,Nat.reduceBEq,Nat.reduceLT,reduceCtorEq,↓reduceIte,initS,AV.cellsOf,AV.fine,AV.one,repA,Nat.reduceMul,Nat.reduceAdd,Nat.reduceLeDiff,Nat.reduceEqDiff,Int.reduceToNat,Nat.reduceSub,Nat.reduceMod,Nat.reduceDiv,indexK.aggOf,Int.reducePow,Int.reduceLE,Int.reduceNeg,Int.reduceLT,Int.reduceBEq,Int.reduceBNe,Int.reduceEq,ownA,nilA,Try.facts,s0,s1,s5,s6,dT,dF,qT,qF,nT,nF,Bool.false_and,Bool.and_false,hld,hl2,hle3,hle2,hle4,hns,kill_box hkb,putCells_eq,set_get,hc,hz,hgt,hgs,hcl,hle1,hlt1,hle5,hq,beq_self_eq_true,Bool.true_and]
              refine ⟨mm - 1,by omega,i + 1,by omega,.inr ?_,rfl⟩
              rw [hR2,hst]
              refine ⟨by simp,k,rfl,hk0,hk,?_⟩
              rw [hpt2]
            · have hq : (ra == s1' && (rb == s2' && (rc == s3' && rd == s4'))) = false := by
                cases h : (ra == s1' && (rb == s2' && (rc == s3' && rd == s4'))) with
                | false => rfl
                | true => exact absurd (styEq_iff (x := (ra,rb,rc,rd)) (y := (s1',s2',s3',s4')).1 h) he
              rw [if_neg he] at hst
              simp (disch := omega) only [↓runPre,runPost,fieldO,ixA,cutA,lenA,aggA,rowA,appA,mkA,indA,bnd,srcA,sameOp,funcA,cvO,partA,aggD,↓PostP,resV,resAll,resOne,resVF,resAllF,resOneF,fitsAll,fitsR,fits,frz,Post,Nat.reduceBEq,Nat.reduceLT,reduceCtorEq,↓reduceIte,initS,AV.cellsOf,AV.fine,AV.one,repA,Nat.reduceMul,Nat.reduceAdd,Nat.reduceLeDiff,Nat.reduceEqDiff,Int.reduceToNat,Nat.reduceSub,Nat.reduceMod,Nat.reduceDiv,indexK.aggOf,Int.reducePow,Int.reduceLE,Int.reduceNeg,Int.reduceLT,Int.reduceBEq,Int.reduceBNe,Int.reduceEq,ownA,nilA,Try.facts,s0,s1,s5,s6,dT,dF,qT,qF,nT,nF,Bool.false_and,Bool.and_false,hld,hl2,hle3,hle2,hle4,hns]
              first | refine CallK.p (hsp1) ?_ | refine CallP.i (hsp1) ?_
              simp (disch := omega) only [↓runPre,runPost,fieldO,ixA,cutA,lenA,aggA,rowA,appA,mkA,indA,bnd,srcA,sameOp,funcA,cvO,partA,aggD,↓PostP,resV,resAll,resOne,resVF,resAllF,resOneF,fitsAll,fitsR,fits,frz,Post,Nat.reduceBEq,Nat.reduceLT,reduceCtorEq,↓reduceIte,initS,AV.cellsOf,AV.fine,AV.one,repA,Nat.reduceMul,Nat.reduceAdd,Nat.reduceLeDiff,Nat.reduceEqDiff,Int.reduceToNat,Nat.reduceSub,Nat.reduceMod,Nat.reduceDiv,indexK.aggOf,Int.reducePow,Int.reduceLE,Int.reduceNeg,Int.reduceLT,Int.reduceBEq,Int.reduceBNe,Int.reduceEq,ownA,nilA,Try.facts,s0,s1,s5,s6,dT,dF,qT,qF,nT,nF,Bool.false_and,Bool.and_false,hld,hl2,hle3,hle2,hle4,hns]
              intro kb hkb0 hkb
              simp (disch := omega) only [↓runPre,runPost,fieldO,ixA,cutA,lenA,aggA,rowA,appA,mkA,indA,bnd,srcA,sameOp,funcA,cvO,partA,aggD,↓PostP,resV,resAll,resOne,resVF,resAllF,resOneF,fitsAll,fitsR,fits,frz,Post,Nat.reduceBEq,Nat.reduceLT,reduceCtorEq,↓reduceIte,initS,AV.cellsOf,AV.fine,AV.one,repA,Nat.reduceMul,Nat.reduceAdd,Nat.reduceLeDiff,Nat.reduceEqDiff,Int.reduceToNat,Nat.reduceSub,Nat.reduceMod,Nat.reduceDiv,indexK.aggOf,Int.reducePow,Int.reduceLE,Int.reduceNeg,Int.reduceLT,Int.reduceBEq,Int.reduceBNe,Int.reduceEq,ownA,nilA,Try.facts,s0,s1,s5,s6,dT,dF,qT,qF,nT,nF,Bool.false_and,Bool.and_false,hld,hl2,hle3,hle2,hle4,hns,kill_box hkb,putCells_eq,set_get,hc,hz,hgt,hgs,hcl,hle1,hlt1,hle5,hle6,hq,htk,beq_self_eq_true,Bool.true_and]
              intro k' hk'
              obtain ⟨hk'0,hk'E⟩ : k' ≠ 0 ∧ H k' = none := by
                rcases hk' with rfl | ⟨h1,h2⟩
                · exact ⟨hk0,hk⟩
                · exact ⟨h1,subset_set h2⟩
              refine ⟨mm - 1,by omega,i + 1,by omega,.inr ?_,rfl⟩
              rw [hR2,hst]
              refine ⟨by simp,k',rfl,hk'0,hk'E,?_⟩
              rw [rns_last,hW]
              rfl
        · simp (disch := omega) only [↓runPre,runPost,fieldO,ixA,cutA,lenA,aggA,rowA,appA,mkA,indA,bnd,srcA,sameOp,funcA,cvO,partA,aggD,↓PostP,resV,resAll,resOne,resVF,resAllF,resOneF,fitsAll,fitsR,fits,frz,Post,Nat.reduceBEq,Nat.reduceLT,reduceCtorEq,↓reduceIte,initS,AV.cellsOf,AV.fine,AV.one,repA,Nat.reduceMul,Nat.reduceAdd,Nat.reduceLeDiff,Nat.reduceEqDiff,Int.reduceToNat,Nat.reduceSub,Nat.reduceMod,Nat.reduceDiv,indexK.aggOf,Int.reducePow,Int.reduceLE,Int.reduceNeg,Int.reduceLT,Int.reduceBEq,Int.reduceBNe,Int.reduceEq,ownA,nilA,Try.facts,s0,s1,s6,dT,dF,qT,qF,nT,nF,Bool.false_and,Bool.and_false,hld,hl2,hle3,hle2,hle4,hns]
          simp only [if_true] at hst
          subst hst
          exact ⟨mm - 1,by omega,i + 1,by omega,by rw [hR2]; exact ho,rfl⟩
      · obtain rfl : i = ns.length := by omega
        rcases ho with ⟨he,s5,rfl⟩ | ⟨hne,k,s5,hk0,hk,rfl⟩
        · simp (disch := omega) only [↓runPre,runPost,fieldO,ixA,cutA,lenA,aggA,rowA,appA,mkA,indA,bnd,srcA,sameOp,funcA,cvO,partA,aggD,↓PostP,resV,resAll,resOne,resVF,resAllF,resOneF,fitsAll,fitsR,fits,frz,Post,Nat.reduceBEq,Nat.reduceLT,reduceCtorEq,↓reduceIte,initS,AV.cellsOf,AV.fine,AV.one,repA,Nat.reduceMul,Nat.reduceAdd,Nat.reduceLeDiff,Nat.reduceEqDiff,Int.reduceToNat,Nat.reduceSub,Nat.reduceMod,Nat.reduceDiv,indexK.aggOf,Int.reducePow,Int.reduceLE,Int.reduceNeg,Int.reduceLT,Int.reduceBEq,Int.reduceBNe,Int.reduceEq,ownA,nilA,Try.facts,s0,s1,s5,s6,dT,dF,qT,qF,nT,nF,Bool.false_and,Bool.and_false,hns]
          exact ⟨_,rfl,_,Abs.Sub.refl _,.inl ⟨he,rfl,rfl⟩⟩
        · simp (disch := omega) only [↓runPre,runPost,fieldO,ixA,cutA,lenA,aggA,rowA,appA,mkA,indA,bnd,srcA,sameOp,funcA,cvO,partA,aggD,↓PostP,resV,resAll,resOne,resVF,resAllF,resOneF,fitsAll,fitsR,fits,frz,Post,Nat.reduceBEq,Nat.reduceLT,reduceCtorEq,↓reduceIte,initS,AV.cellsOf,AV.fine,AV.one,repA,Nat.reduceMul,Nat.reduceAdd,Nat.reduceLeDiff,Nat.reduceEqDiff,Int.reduceToNat,Nat.reduceSub,Nat.reduceMod,Nat.reduceDiv,indexK.aggOf,Int.reducePow,Int.reduceLE,Int.reduceNeg,Int.reduceLT,Int.reduceBEq,Int.reduceBNe,Int.reduceEq,ownA,nilA,Try.facts,s0,s1,s5,s6,dT,dF,qT,qF,nT,nF,Bool.false_and,Bool.and_false,hns]
          exact ⟨_,rfl,_,Abs.Sub.refl _,.inr ⟨k,rfl,hk,set_get,Sub.set_new hk⟩⟩
  · rintro v H' (⟨he,rfl,rfl⟩ | ⟨k,rfl,hk,hc,hs⟩)
    · refine ⟨_,H',Abs.Sub.refl _,Frz.same,?_,rfl⟩
      rw [he]; rfl
    · refine ⟨_,H,hs,Frz.own hc hk (by rw [rns_revlen]; exact Nat.le_refl _),?_,rfl⟩
      rw [List.take_of_length_le (by rw [rns_revlen]; exact Nat.le_refl _)]
      simp
end Go.Proofs.Ytgkpidbeoccpnaa
end
section
/-
  The walks of the marks layer: a style that the document fixes.
  Conditions: none. Lemmas only.
-/
set_option linter.unusedSimpArgs false
set_option linter.unusedVariables false
set_option maxRecDepth 8000
set_option maxHeartbeats 4000000
namespace Go.Proofs.Ytgkpidbeoccpnaa
open Go Go.Abs Go.Proofs Go.Fug
def i1 : Ins := ⟨(0,1),(0,0),true,97⟩
def m1 : Mk := ⟨1,0,(0,0),true,(0,0),false,1,7⟩
theorem awake_pure : APure Try.prog 10 [] (.sc (.bool true)) := by
  have a1 : addL [] i1 = ([i1],0) := by decide
  have b1 : addM [] m1 = ([m1],0) := by decide
  have x1 : runsN (nodes [i1] []) [m1] = [⟨[97],(7,0,0,0)⟩] := by decide
  have g1 : GoodM [m1] := by
    have := GoodM.nil.add m1
    rw [b1] at this
    exact this
  have h1 := fun H h m t => add_live H h m [] [] i1 t
  have h2 := fun H hb hi => badd_live H hb [] m1 hi GoodM.nil
  have h3 := fun H hb hi h m t => runs_own H hb [m1] hi g1 h m [i1] [] t
  unfold AddR at h1
  rw [a1] at h1
  rw [b1] at h2
  have x2 : rnsV [⟨[97],(7,0,0,0)⟩] = .imm 0 [.sc (.string ⟨#[97]⟩),.sc (.int .i64 0),.sc (.int .i64 7),.sc (.int .i64 0),.sc (.int .i64 0),.sc (.int .i64 0)] 1 := rfl
  rw [x1,x2] at h3
  have hq := eq_run
  refine apure_of_cwp (c := ⟨Try.prog,29,[],[],[]⟩) (rs := [ResultVar.tmp 0]) Try.mixed Try.func10 rfl rfl rfl (Nat.le_of_ble_eq_true rfl) (by kernel_rfl) fun H => ?_
  simp (disch := omega) only [↓runPre,runPost,fieldO,ixA,cutA,lenA,aggA,rowA,appA,mkA,indA,bnd,srcA,sameOp,funcA,cvO,partA,aggD,↓PostP,resV,resAll,resOne,resVF,resAllF,resOneF,fitsAll,fitsR,fits,frz,Post,Nat.reduceBEq,Nat.reduceLT,reduceCtorEq,↓reduceIte,initS,AV.cellsOf,AV.fine,AV.one,repA,Nat.reduceMul,Nat.reduceAdd,Nat.reduceLeDiff,Nat.reduceEqDiff,Int.reduceToNat,Nat.reduceSub,Nat.reduceMod,Nat.reduceDiv,indexK.aggOf,Int.reducePow,Int.reduceLE,Int.reduceNeg,Int.reduceLT,Int.reduceBEq,Int.reduceBNe,Int.reduceEq,ownA,nilA,Try.facts]
  refine CallK.i (new_live H) ?_
  rintro v H1 ⟨h,m,rfl,hh,hm,hs,t⟩
  simp (disch := omega) only [↓runPre,runPost,fieldO,ixA,cutA,lenA,aggA,rowA,appA,mkA,indA,bnd,srcA,sameOp,funcA,cvO,partA,aggD,↓PostP,resV,resAll,resOne,resVF,resAllF,resOneF,fitsAll,fitsR,fits,frz,Post,Nat.reduceBEq,Nat.reduceLT,reduceCtorEq,↓reduceIte,initS,AV.cellsOf,AV.fine,AV.one,repA,Nat.reduceMul,Nat.reduceAdd,Nat.reduceLeDiff,Nat.reduceEqDiff,Int.reduceToNat,Nat.reduceSub,Nat.reduceMod,Nat.reduceDiv,indexK.aggOf,Int.reducePow,Int.reduceLE,Int.reduceNeg,Int.reduceLT,Int.reduceBEq,Int.reduceBNe,Int.reduceEq,ownA,nilA,Try.facts]
  refine CallK.i (mnew_live _) ?_
  rintro v H2 ⟨hb,rfl,hb0,hbf,rfl⟩
  have e1 := ne_live t.hi hbf
  have e2 := ne_live t.hm hbf
  have t2 := t.put (b := hb) (o := bookO []) e1 e2
  have hs2 : Abs.Sub H (H1.set hb (bookO [])) := hs.trans (Sub.set_new hbf)
  have hbH := hs.free hbf
  simp (disch := omega) only [↓runPre,runPost,fieldO,ixA,cutA,lenA,aggA,rowA,appA,mkA,indA,bnd,srcA,sameOp,funcA,cvO,partA,aggD,↓PostP,resV,resAll,resOne,resVF,resAllF,resOneF,fitsAll,fitsR,fits,frz,Post,Nat.reduceBEq,Nat.reduceLT,reduceCtorEq,↓reduceIte,initS,AV.cellsOf,AV.fine,AV.one,repA,Nat.reduceMul,Nat.reduceAdd,Nat.reduceLeDiff,Nat.reduceEqDiff,Int.reduceToNat,Nat.reduceSub,Nat.reduceMod,Nat.reduceDiv,indexK.aggOf,Int.reducePow,Int.reduceLE,Int.reduceNeg,Int.reduceLT,Int.reduceBEq,Int.reduceBNe,Int.reduceEq,ownA,nilA,Try.facts]
  refine CallK.i (h1 _ _ _ t2) ?_
  rintro v H3 ⟨rfl,t3,fr⟩
  have vb3 : H3 hb = some (bookO []) := by rw [fr hb (fun e => e2 e.symm)]; exact set_get
  have hs3 : Abs.Sub H H3 := fun x o hx => by rw [fr x (ne_live hx hm)]; exact hs2 x o hx
  clear fr t hs hs2 t2
  simp (disch := omega) only [↓runPre,runPost,fieldO,ixA,cutA,lenA,aggA,rowA,appA,mkA,indA,bnd,srcA,sameOp,funcA,cvO,partA,aggD,↓PostP,resV,resAll,resOne,resVF,resAllF,resOneF,fitsAll,fitsR,fits,frz,Post,Nat.reduceBEq,Nat.reduceLT,reduceCtorEq,↓reduceIte,initS,AV.cellsOf,AV.fine,AV.one,repA,Nat.reduceMul,Nat.reduceAdd,Nat.reduceLeDiff,Nat.reduceEqDiff,Int.reduceToNat,Nat.reduceSub,Nat.reduceMod,Nat.reduceDiv,indexK.aggOf,Int.reducePow,Int.reduceLE,Int.reduceNeg,Int.reduceLT,Int.reduceBEq,Int.reduceBNe,Int.reduceEq,ownA,nilA,Try.facts]
  refine CallK.i (h2 _ _ vb3) ?_
  rintro v H4 ⟨rfl,vb4,fr⟩
  have t4 : IsT H4 h m [i1] [] := ⟨fr _ _ e1 t3.hi,⟨t3.ord,t3.perm,fr _ _ e2 t3.hm⟩,t3.g,t3.gs,t3.gn,t3.small⟩
  have hs4 : Abs.Sub H H4 := fun x o hx => fr x o (ne_live hx hbH) (hs3 x o hx)
  simp (disch := omega) only [↓runPre,runPost,fieldO,ixA,cutA,lenA,aggA,rowA,appA,mkA,indA,bnd,srcA,sameOp,funcA,cvO,partA,aggD,↓PostP,resV,resAll,resOne,resVF,resAllF,resOneF,fitsAll,fitsR,fits,frz,Post,Nat.reduceBEq,Nat.reduceLT,reduceCtorEq,↓reduceIte,initS,AV.cellsOf,AV.fine,AV.one,repA,Nat.reduceMul,Nat.reduceAdd,Nat.reduceLeDiff,Nat.reduceEqDiff,Int.reduceToNat,Nat.reduceSub,Nat.reduceMod,Nat.reduceDiv,indexK.aggOf,Int.reducePow,Int.reduceLE,Int.reduceNeg,Int.reduceLT,Int.reduceBEq,Int.reduceBNe,Int.reduceEq,ownA,nilA,Try.facts]
  refine CallK.i (h3 _ _ vb4 _ _ t4) ?_
  rintro v H5 ⟨rfl,rfl⟩
  simp (disch := omega) only [↓runPre,runPost,fieldO,ixA,cutA,lenA,aggA,rowA,appA,mkA,indA,bnd,srcA,sameOp,funcA,cvO,partA,aggD,↓PostP,resV,resAll,resOne,resVF,resAllF,resOneF,fitsAll,fitsR,fits,frz,Post,Nat.reduceBEq,Nat.reduceLT,reduceCtorEq,↓reduceIte,initS,AV.cellsOf,AV.fine,AV.one,repA,Nat.reduceMul,Nat.reduceAdd,Nat.reduceLeDiff,Nat.reduceEqDiff,Int.reduceToNat,Nat.reduceSub,Nat.reduceMod,Nat.reduceDiv,indexK.aggOf,Int.reducePow,Int.reduceLE,Int.reduceNeg,Int.reduceLT,Int.reduceBEq,Int.reduceBNe,Int.reduceEq,ownA,nilA,Try.facts,hq,baToList,beq_self_eq_true]
  refine ⟨?_,hs4⟩
  have e : ((⟨#[97]⟩ : ByteArray) == ⟨#[97]⟩) = true := (str_inj (a := [97]) (b := [97])).trans (decide_eq_true rfl)
  rw [e]
end Go.Proofs.Ytgkpidbeoccpnaa
end
section
/-
  The walks of the marks layer: a page's text and book, of the program and of the document.
  Conditions: none. Lemmas only.
-/
set_option linter.unusedSimpArgs false
set_option linter.unusedVariables false
set_option maxRecDepth 8000
set_option maxHeartbeats 4000000
namespace Go.Proofs.Ytgkpidbeoccpnaa
open Go Go.Abs Go.Proofs Go.Fug
abbrev pageC (E : List Ins) (D : List EId) (M : List Mk) : List AV := [inssV E,idsV D,mksV M]
abbrev pageV (E : List Ins) (D : List EId) (M : List Mk) : AV := .agg (pageC E D M)
def fewP (E : List Ins) (D : List EId) (M : List Mk) : Bool := decide (E.length ≤ 40) && (decide (D.length ≤ 40) && decide (M.length ≤ 20))
theorem few_pure (E : List Ins) (D : List EId) (M : List Mk) : APure Try.prog 21 [pageV E D M] (.sc (.bool (fewP E D M))) := by
  unfold fewP
  by_cases h1 : E.length ≤ 40
  · by_cases h2 : D.length ≤ 40
    · by_cases h3 : M.length ≤ 20
      all_goals
        simp only [h1,h2,h3,decide_true,decide_false,Bool.and_true,Bool.and_false]
        refine apure_of_cwp (c := ⟨Try.prog,19,[(1000000,[1])],[],[]⟩) (rs := [ResultVar.tmp 2]) Try.mixed Try.func21 rfl rfl rfl (Nat.le_of_ble_eq_true rfl) (by kernel_rfl) fun H => ?_
        simp (disch := omega) only [↓runPre,runPost,fieldO,ixA,cutA,lenA,aggA,rowA,appA,mkA,indA,bnd,srcA,sameOp,funcA,cvO,partA,aggD,↓PostP,resV,resAll,resOne,resVF,resAllF,resOneF,fitsAll,fitsR,fits,frz,Post,Nat.reduceBEq,Nat.reduceLT,reduceCtorEq,↓reduceIte,initS,AV.cellsOf,AV.fine,AV.one,repA,Nat.reduceMul,Nat.reduceAdd,Nat.reduceLeDiff,Nat.reduceEqDiff,Int.reduceToNat,Nat.reduceSub,Nat.reduceMod,Nat.reduceDiv,indexK.aggOf,Int.reducePow,Int.reduceLE,Int.reduceNeg,Int.reduceLT,Int.reduceBEq,Int.reduceBNe,Int.reduceEq,ownA,nilA,Try.facts]
        intro k hk0 hk
        simp (disch := omega) only [↓runPre,runPost,fieldO,ixA,cutA,lenA,aggA,rowA,appA,mkA,indA,bnd,srcA,sameOp,funcA,cvO,partA,aggD,↓PostP,resV,resAll,resOne,resVF,resAllF,resOneF,fitsAll,fitsR,fits,frz,Post,Nat.reduceBEq,Nat.reduceLT,reduceCtorEq,↓reduceIte,initS,AV.cellsOf,AV.fine,AV.one,repA,Nat.reduceMul,Nat.reduceAdd,Nat.reduceLeDiff,Nat.reduceEqDiff,Int.reduceToNat,Nat.reduceSub,Nat.reduceMod,Nat.reduceDiv,indexK.aggOf,Int.reducePow,Int.reduceLE,Int.reduceNeg,Int.reduceLT,Int.reduceBEq,Int.reduceBNe,Int.reduceEq,ownA,nilA,Try.facts,kill_box hk,dT,dF,qT,qF,nT,nF,Bool.false_and,Bool.and_false,putCells_eq]
        exact Abs.Sub.refl _
    · simp only [h1,h2,decide_true,decide_false,Bool.and_true,Bool.and_false,Bool.false_and]
      refine apure_of_cwp (c := ⟨Try.prog,19,[(1000000,[1])],[],[]⟩) (rs := [ResultVar.tmp 2]) Try.mixed Try.func21 rfl rfl rfl (Nat.le_of_ble_eq_true rfl) (by kernel_rfl) fun H => ?_
      simp (disch := omega) only [↓runPre,runPost,fieldO,ixA,cutA,lenA,aggA,rowA,appA,mkA,indA,bnd,srcA,sameOp,funcA,cvO,partA,aggD,↓PostP,resV,resAll,resOne,resVF,resAllF,resOneF,fitsAll,fitsR,fits,frz,Post,Nat.reduceBEq,Nat.reduceLT,reduceCtorEq,↓reduceIte,initS,AV.cellsOf,AV.fine,AV.one,repA,Nat.reduceMul,Nat.reduceAdd,Nat.reduceLeDiff,Nat.reduceEqDiff,Int.reduceToNat,Nat.reduceSub,Nat.reduceMod,Nat.reduceDiv,indexK.aggOf,Int.reducePow,Int.reduceLE,Int.reduceNeg,Int.reduceLT,Int.reduceBEq,Int.reduceBNe,Int.reduceEq,ownA,nilA,Try.facts]
      intro k hk0 hk
      simp (disch := omega) only [↓runPre,runPost,fieldO,ixA,cutA,lenA,aggA,rowA,appA,mkA,indA,bnd,srcA,sameOp,funcA,cvO,partA,aggD,↓PostP,resV,resAll,resOne,resVF,resAllF,resOneF,fitsAll,fitsR,fits,frz,Post,Nat.reduceBEq,Nat.reduceLT,reduceCtorEq,↓reduceIte,initS,AV.cellsOf,AV.fine,AV.one,repA,Nat.reduceMul,Nat.reduceAdd,Nat.reduceLeDiff,Nat.reduceEqDiff,Int.reduceToNat,Nat.reduceSub,Nat.reduceMod,Nat.reduceDiv,indexK.aggOf,Int.reducePow,Int.reduceLE,Int.reduceNeg,Int.reduceLT,Int.reduceBEq,Int.reduceBNe,Int.reduceEq,ownA,nilA,Try.facts,kill_box hk,dT,dF,qT,qF,nT,nF,Bool.false_and,Bool.and_false,putCells_eq]
      exact Abs.Sub.refl _
  · simp only [h1,decide_true,decide_false,Bool.and_true,Bool.and_false,Bool.false_and]
    refine apure_of_cwp (c := ⟨Try.prog,19,[(1000000,[1])],[],[]⟩) (rs := [ResultVar.tmp 2]) Try.mixed Try.func21 rfl rfl rfl (Nat.le_of_ble_eq_true rfl) (by kernel_rfl) fun H => ?_
    simp (disch := omega) only [↓runPre,runPost,fieldO,ixA,cutA,lenA,aggA,rowA,appA,mkA,indA,bnd,srcA,sameOp,funcA,cvO,partA,aggD,↓PostP,resV,resAll,resOne,resVF,resAllF,resOneF,fitsAll,fitsR,fits,frz,Post,Nat.reduceBEq,Nat.reduceLT,reduceCtorEq,↓reduceIte,initS,AV.cellsOf,AV.fine,AV.one,repA,Nat.reduceMul,Nat.reduceAdd,Nat.reduceLeDiff,Nat.reduceEqDiff,Int.reduceToNat,Nat.reduceSub,Nat.reduceMod,Nat.reduceDiv,indexK.aggOf,Int.reducePow,Int.reduceLE,Int.reduceNeg,Int.reduceLT,Int.reduceBEq,Int.reduceBNe,Int.reduceEq,ownA,nilA,Try.facts]
    intro k hk0 hk
    simp (disch := omega) only [↓runPre,runPost,fieldO,ixA,cutA,lenA,aggA,rowA,appA,mkA,indA,bnd,srcA,sameOp,funcA,cvO,partA,aggD,↓PostP,resV,resAll,resOne,resVF,resAllF,resOneF,fitsAll,fitsR,fits,frz,Post,Nat.reduceBEq,Nat.reduceLT,reduceCtorEq,↓reduceIte,initS,AV.cellsOf,AV.fine,AV.one,repA,Nat.reduceMul,Nat.reduceAdd,Nat.reduceLeDiff,Nat.reduceEqDiff,Int.reduceToNat,Nat.reduceSub,Nat.reduceMod,Nat.reduceDiv,indexK.aggOf,Int.reducePow,Int.reduceLE,Int.reduceNeg,Int.reduceLT,Int.reduceBEq,Int.reduceBNe,Int.reduceEq,ownA,nilA,Try.facts,kill_box hk,dT,dF,qT,qF,nT,nF,Bool.false_and,Bool.and_false,putCells_eq]
    exact Abs.Sub.refl _
abbrev tBox (L : List Ins) (G : List EId) : AObj := .cells (treeC L G) 90 2
theorem addL_le (L : List Ins) (i : Ins) : (addL L i).1.length ≤ L.length + 1 := by
  unfold addL
  split
  · simp
  · split
    · simp
    · split
      · simp
      · split
        · simp
        · simp
/-- a page's text -/
def PText (H : AH) (E : List Ins) (v : AV) (H' : AH) : Prop := ∃ h m L G,v = .tup [.ptr h 0,ndsV (nodes L G)] ∧ H h = none ∧ H m = none ∧ Abs.Sub H H' ∧ IsT H' h m L G ∧ L.length ≤ E.length
theorem ptext_live (H : AH) (E : List Ins) (D : List EId) (M : List Mk) (hE : E.length ≤ 40) (hD : D.length ≤ 40) : ACalls Try.prog 22 [pageV E D M] H (PText H E) := by
  have hel := inssC_length E
  have hdl := idsC_length D
  unfold PText
  refine acalls_of_cwp (c := ⟨Try.prog,49,[(1000000,[1]),(1000004,[7]),(1000010,[9])],[],[]⟩) (rs := [ResultVar.tmp 2,ResultVar.tmp 3]) Try.mixed Try.func22 rfl rfl rfl (Nat.le_of_ble_eq_true rfl) (by kernel_rfl) ?_
  simp (disch := omega) only [↓runPre,runPost,fieldO,ixA,cutA,lenA,aggA,rowA,appA,mkA,indA,bnd,srcA,sameOp,funcA,cvO,partA,aggD,↓PostP,resV,resAll,resOne,resVF,resAllF,resOneF,fitsAll,fitsR,fits,frz,Post,Nat.reduceBEq,Nat.reduceLT,reduceCtorEq,↓reduceIte,initS,AV.cellsOf,AV.fine,AV.one,repA,Nat.reduceMul,Nat.reduceAdd,Nat.reduceLeDiff,Nat.reduceEqDiff,Int.reduceToNat,Nat.reduceSub,Nat.reduceMod,Nat.reduceDiv,indexK.aggOf,Int.reducePow,Int.reduceLE,Int.reduceNeg,Int.reduceLT,Int.reduceBEq,Int.reduceBNe,Int.reduceEq,ownA,nilA,Try.facts]
  intro k1 hk10 hk1
  simp (disch := omega) only [↓runPre,runPost,fieldO,ixA,cutA,lenA,aggA,rowA,appA,mkA,indA,bnd,srcA,sameOp,funcA,cvO,partA,aggD,↓PostP,resV,resAll,resOne,resVF,resAllF,resOneF,fitsAll,fitsR,fits,frz,Post,Nat.reduceBEq,Nat.reduceLT,reduceCtorEq,↓reduceIte,initS,AV.cellsOf,AV.fine,AV.one,repA,Nat.reduceMul,Nat.reduceAdd,Nat.reduceLeDiff,Nat.reduceEqDiff,Int.reduceToNat,Nat.reduceSub,Nat.reduceMod,Nat.reduceDiv,indexK.aggOf,Int.reducePow,Int.reduceLE,Int.reduceNeg,Int.reduceLT,Int.reduceBEq,Int.reduceBNe,Int.reduceEq,ownA,nilA,Try.facts,kill_box hk1,putCells_eq]
  refine CallK.i (new_live H) ?_
  rintro v H1 ⟨h,m,rfl,hh,hm,hs,t⟩
  simp (disch := omega) only [↓runPre,runPost,fieldO,ixA,cutA,lenA,aggA,rowA,appA,mkA,indA,bnd,srcA,sameOp,funcA,cvO,partA,aggD,↓PostP,resV,resAll,resOne,resVF,resAllF,resOneF,fitsAll,fitsR,fits,frz,Post,Nat.reduceBEq,Nat.reduceLT,reduceCtorEq,↓reduceIte,initS,AV.cellsOf,AV.fine,AV.one,repA,Nat.reduceMul,Nat.reduceAdd,Nat.reduceLeDiff,Nat.reduceEqDiff,Int.reduceToNat,Nat.reduceSub,Nat.reduceMod,Nat.reduceDiv,indexK.aggOf,Int.reducePow,Int.reduceLE,Int.reduceNeg,Int.reduceLT,Int.reduceBEq,Int.reduceBNe,Int.reduceEq,ownA,nilA,Try.facts]
  intro k4 hk40 hk4
  simp (disch := omega) only [↓runPre,runPost,fieldO,ixA,cutA,lenA,aggA,rowA,appA,mkA,indA,bnd,srcA,sameOp,funcA,cvO,partA,aggD,↓PostP,resV,resAll,resOne,resVF,resAllF,resOneF,fitsAll,fitsR,fits,frz,Post,Nat.reduceBEq,Nat.reduceLT,reduceCtorEq,↓reduceIte,initS,AV.cellsOf,AV.fine,AV.one,repA,Nat.reduceMul,Nat.reduceAdd,Nat.reduceLeDiff,Nat.reduceEqDiff,Int.reduceToNat,Nat.reduceSub,Nat.reduceMod,Nat.reduceDiv,indexK.aggOf,Int.reducePow,Int.reduceLE,Int.reduceNeg,Int.reduceLT,Int.reduceBEq,Int.reduceBNe,Int.reduceEq,ownA,nilA,Try.facts,putCells_eq]
  refine nil_t k4 0 set_get rfl ?_
  refine nil_t k4 1 set_get rfl ?_
  simp only [List.set_cons_zero,List.set_cons_succ,set_set]
  have n4 := hs.free hk4
  have nh4 := ne_live t.hi hk4
  have nm4 := ne_live t.hm hk4
  refine loop_t (c := ⟨Try.prog,49,[(1000000,[1]),(1000004,[7]),(1000010,[9])],[],[]⟩) Try.mixed (by kernel_rfl) (fun mm σ H' => ∃ (i : Nat) (L : List Ins) (G : List EId),i + mm = E.length ∧ L.length ≤ i ∧ Abs.Sub H H' ∧ IsT H' h m L G ∧ H' k4 = some (tBox L G) ∧
    σ 1 = .ip (pageC E D M) 0 ∧ σ 4 = .ptr h 0 ∧ σ 5 = .ptr k4 0 ∧ σ 13 = inssV E ∧ σ 14 = .sc (.int .i64 E.length) ∧ σ 15 = .sc (.int .i64 (i : Nat))) E.length ?_ ?_
  · refine ⟨0,[],[],by omega,by simp,hs.trans (Sub.set_new hk4),t.put nh4 nm4,set_get,?_⟩
    simp (disch := omega) only [↓runPre,runPost,fieldO,ixA,cutA,lenA,aggA,rowA,appA,mkA,indA,bnd,srcA,sameOp,funcA,cvO,partA,aggD,↓PostP,resV,resAll,resOne,resVF,resAllF,resOneF,fitsAll,fitsR,fits,frz,Post,Nat.reduceBEq,Nat.reduceLT,reduceCtorEq,↓reduceIte,initS,AV.cellsOf,AV.fine,AV.one,repA,Nat.reduceMul,Nat.reduceAdd,Nat.reduceLeDiff,Nat.reduceEqDiff,Int.reduceToNat,Nat.reduceSub,Nat.reduceMod,Nat.reduceDiv,indexK.aggOf,Int.reducePow,Int.reduceLE,Int.reduceNeg,Int.reduceLT,Int.reduceBEq,Int.reduceBNe,Int.reduceEq,ownA,nilA,Try.facts]
    try rfl
  · clear hs t hk4
    rintro mm σ H' ⟨i,L,G,him,hLi,hs,t,v4,s1,s4,s5,s13,s14,s15⟩
    by_cases hlt : i < E.length
    · have hld := inssC_load hlt
      have hle : i * 6 + 6 ≤ E.length * 6 := by omega
      have hG := t.gl
      have ha := add_live H' h m L G E[i] t
      have hst := addL_le L E[i]
      have hra := radd_pure L G E[i] (by omega) (by omega)
      generalize E[i] = q at *
      obtain ⟨⟨a,c⟩,⟨pa,pc⟩,ri,ru⟩ := q
      simp only [insC] at hld ha hra
      unfold AddR at ha
      generalize addL L _ = R at *
      obtain ⟨L2,er⟩ := R
      simp only [] at ha hst hra
      simp (disch := omega) only [↓runPre,runPost,fieldO,ixA,cutA,lenA,aggA,rowA,appA,mkA,indA,bnd,srcA,sameOp,funcA,cvO,partA,aggD,↓PostP,resV,resAll,resOne,resVF,resAllF,resOneF,fitsAll,fitsR,fits,frz,Post,Nat.reduceBEq,Nat.reduceLT,reduceCtorEq,↓reduceIte,initS,AV.cellsOf,AV.fine,AV.one,repA,Nat.reduceMul,Nat.reduceAdd,Nat.reduceLeDiff,Nat.reduceEqDiff,Int.reduceToNat,Nat.reduceSub,Nat.reduceMod,Nat.reduceDiv,indexK.aggOf,Int.reducePow,Int.reduceLE,Int.reduceNeg,Int.reduceLT,Int.reduceBEq,Int.reduceBNe,Int.reduceEq,ownA,nilA,Try.facts,s1,s4,s5,s13,s14,s15,dT,dF,qT,qF,nT,nF,Bool.false_and,Bool.and_false,hld,hle,hel]
      intro b1 hb10 hb1f
      simp (disch := omega) only [↓runPre,runPost,fieldO,ixA,cutA,lenA,aggA,rowA,appA,mkA,indA,bnd,srcA,sameOp,funcA,cvO,partA,aggD,↓PostP,resV,resAll,resOne,resVF,resAllF,resOneF,fitsAll,fitsR,fits,frz,Post,Nat.reduceBEq,Nat.reduceLT,reduceCtorEq,↓reduceIte,initS,AV.cellsOf,AV.fine,AV.one,repA,Nat.reduceMul,Nat.reduceAdd,Nat.reduceLeDiff,Nat.reduceEqDiff,Int.reduceToNat,Nat.reduceSub,Nat.reduceMod,Nat.reduceDiv,indexK.aggOf,Int.reducePow,Int.reduceLE,Int.reduceNeg,Int.reduceLT,Int.reduceBEq,Int.reduceBNe,Int.reduceEq,ownA,nilA,Try.facts,s1,s4,s5,s13,s14,s15,dT,dF,qT,qF,nT,nF,Bool.false_and,Bool.and_false,hld,hle,hel,kill_box hb1f,putCells_eq,v4]
      refine CallK.i ha ?_
      rintro v H2 ⟨rfl,t2,fr⟩
      have w4 : H2 k4 = some (tBox L G) := by rw [fr k4 (fun e => nm4 e.symm)]; exact v4
      have hs2 : Abs.Sub H H2 := fun y o hy => by rw [fr y (ne_live hy hm)]; exact hs _ _ hy
      simp (disch := omega) only [↓runPre,runPost,fieldO,ixA,cutA,lenA,aggA,rowA,appA,mkA,indA,bnd,srcA,sameOp,funcA,cvO,partA,aggD,↓PostP,resV,resAll,resOne,resVF,resAllF,resOneF,fitsAll,fitsR,fits,frz,Post,Nat.reduceBEq,Nat.reduceLT,reduceCtorEq,↓reduceIte,initS,AV.cellsOf,AV.fine,AV.one,repA,Nat.reduceMul,Nat.reduceAdd,Nat.reduceLeDiff,Nat.reduceEqDiff,Int.reduceToNat,Nat.reduceSub,Nat.reduceMod,Nat.reduceDiv,indexK.aggOf,Int.reducePow,Int.reduceLE,Int.reduceNeg,Int.reduceLT,Int.reduceBEq,Int.reduceBNe,Int.reduceEq,ownA,nilA,Try.facts,s1,s4,s5,s13,s14,s15,dT,dF,qT,qF,nT,nF,Bool.false_and,Bool.and_false,w4,putCells_eq]
      first | refine CallK.p (hra) ?_ | refine CallP.i (hra) ?_
      simp (disch := omega) only [↓runPre,runPost,fieldO,ixA,cutA,lenA,aggA,rowA,appA,mkA,indA,bnd,srcA,sameOp,funcA,cvO,partA,aggD,↓PostP,resV,resAll,resOne,resVF,resAllF,resOneF,fitsAll,fitsR,fits,frz,Post,Nat.reduceBEq,Nat.reduceLT,reduceCtorEq,↓reduceIte,initS,AV.cellsOf,AV.fine,AV.one,repA,Nat.reduceMul,Nat.reduceAdd,Nat.reduceLeDiff,Nat.reduceEqDiff,Int.reduceToNat,Nat.reduceSub,Nat.reduceMod,Nat.reduceDiv,indexK.aggOf,Int.reducePow,Int.reduceLE,Int.reduceNeg,Int.reduceLT,Int.reduceBEq,Int.reduceBNe,Int.reduceEq,ownA,nilA,Try.facts,s1,s4,s5,s13,s14,s15,dT,dF,qT,qF,nT,nF,Bool.false_and,Bool.and_false,w4,putCells_eq]
      exact ⟨mm - 1,by omega,i + 1,L2,G,by omega,by omega,hs2.set_free n4,t2.put nh4 nm4,rfl,rfl⟩
    · obtain rfl : i = E.length := by omega
      simp (disch := omega) only [↓runPre,runPost,fieldO,ixA,cutA,lenA,aggA,rowA,appA,mkA,indA,bnd,srcA,sameOp,funcA,cvO,partA,aggD,↓PostP,resV,resAll,resOne,resVF,resAllF,resOneF,fitsAll,fitsR,fits,frz,Post,Nat.reduceBEq,Nat.reduceLT,reduceCtorEq,↓reduceIte,initS,AV.cellsOf,AV.fine,AV.one,repA,Nat.reduceMul,Nat.reduceAdd,Nat.reduceLeDiff,Nat.reduceEqDiff,Int.reduceToNat,Nat.reduceSub,Nat.reduceMod,Nat.reduceDiv,indexK.aggOf,Int.reducePow,Int.reduceLE,Int.reduceNeg,Int.reduceLT,Int.reduceBEq,Int.reduceBNe,Int.reduceEq,ownA,nilA,Try.facts,s1,s4,s5,s13,s14,s15,dT,dF,qT,qF,nT,nF,Bool.false_and,Bool.and_false]
      refine loop_t (c := ⟨Try.prog,49,[(1000000,[1]),(1000004,[7]),(1000010,[9])],[],[]⟩) Try.mixed (by kernel_rfl) (fun mm σ H' => ∃ (j : Nat) (L : List Ins) (G : List EId),j + mm = D.length ∧ L.length ≤ E.length ∧ Abs.Sub H H' ∧ IsT H' h m L G ∧ H' k4 = some (tBox L G) ∧
        σ 1 = .ip (pageC E D M) 0 ∧ σ 4 = .ptr h 0 ∧ σ 5 = .ptr k4 0 ∧ σ 30 = idsV D ∧ σ 31 = .sc (.int .i64 D.length) ∧ σ 32 = .sc (.int .i64 (j : Nat))) D.length ?_ ?_
      · refine ⟨0,L,G,by omega,hLi,hs,t,v4,?_⟩
        simp (disch := omega) only [↓runPre,runPost,fieldO,ixA,cutA,lenA,aggA,rowA,appA,mkA,indA,bnd,srcA,sameOp,funcA,cvO,partA,aggD,↓PostP,resV,resAll,resOne,resVF,resAllF,resOneF,fitsAll,fitsR,fits,frz,Post,Nat.reduceBEq,Nat.reduceLT,reduceCtorEq,↓reduceIte,initS,AV.cellsOf,AV.fine,AV.one,repA,Nat.reduceMul,Nat.reduceAdd,Nat.reduceLeDiff,Nat.reduceEqDiff,Int.reduceToNat,Nat.reduceSub,Nat.reduceMod,Nat.reduceDiv,indexK.aggOf,Int.reducePow,Int.reduceLE,Int.reduceNeg,Int.reduceLT,Int.reduceBEq,Int.reduceBNe,Int.reduceEq,ownA,nilA,Try.facts,s1,s4,s5]
        try rfl
      · clear hs t v4 s1 s4 s5 s13 s14 s15 hlt him hLi
        rintro mm σ H' ⟨j,L,G,hjm,hLi,hs,t,v4,s1,s4,s5,s30,s31,s32⟩
        have hG := t.gl
        by_cases hlt : j < D.length
        · have hld := idsC_load hlt
          have hle : j * 2 + 2 ≤ D.length * 2 := by omega
          have ha := drop_live H' h m L G D[j] t
          have hra := rdrop_pure L G D[j] (by omega) (by omega)
          generalize D[j] = q at *
          obtain ⟨a,c⟩ := q
          simp only [] at hld
          unfold DropR at ha
          generalize dropG L G _ = R at *
          obtain ⟨G2,er⟩ := R
          simp only [] at ha hra
          simp (disch := omega) only [↓runPre,runPost,fieldO,ixA,cutA,lenA,aggA,rowA,appA,mkA,indA,bnd,srcA,sameOp,funcA,cvO,partA,aggD,↓PostP,resV,resAll,resOne,resVF,resAllF,resOneF,fitsAll,fitsR,fits,frz,Post,Nat.reduceBEq,Nat.reduceLT,reduceCtorEq,↓reduceIte,initS,AV.cellsOf,AV.fine,AV.one,repA,Nat.reduceMul,Nat.reduceAdd,Nat.reduceLeDiff,Nat.reduceEqDiff,Int.reduceToNat,Nat.reduceSub,Nat.reduceMod,Nat.reduceDiv,indexK.aggOf,Int.reducePow,Int.reduceLE,Int.reduceNeg,Int.reduceLT,Int.reduceBEq,Int.reduceBNe,Int.reduceEq,ownA,nilA,Try.facts,s1,s4,s5,s30,s31,s32,dT,dF,qT,qF,nT,nF,Bool.false_and,Bool.and_false,hld,hle,hdl]
          intro b1 hb10 hb1f
          simp (disch := omega) only [↓runPre,runPost,fieldO,ixA,cutA,lenA,aggA,rowA,appA,mkA,indA,bnd,srcA,sameOp,funcA,cvO,partA,aggD,↓PostP,resV,resAll,resOne,resVF,resAllF,resOneF,fitsAll,fitsR,fits,frz,Post,Nat.reduceBEq,Nat.reduceLT,reduceCtorEq,↓reduceIte,initS,AV.cellsOf,AV.fine,AV.one,repA,Nat.reduceMul,Nat.reduceAdd,Nat.reduceLeDiff,Nat.reduceEqDiff,Int.reduceToNat,Nat.reduceSub,Nat.reduceMod,Nat.reduceDiv,indexK.aggOf,Int.reducePow,Int.reduceLE,Int.reduceNeg,Int.reduceLT,Int.reduceBEq,Int.reduceBNe,Int.reduceEq,ownA,nilA,Try.facts,s1,s4,s5,s30,s31,s32,dT,dF,qT,qF,nT,nF,Bool.false_and,Bool.and_false,hld,hle,hdl,kill_box hb1f,putCells_eq,v4]
          refine CallK.i ha ?_
          rintro v H2 ⟨rfl,t2,fr⟩
          have w4 : H2 k4 = some (tBox L G) := by rw [fr k4 (fun e => nh4 e.symm) (fun e => nm4 e.symm)]; exact v4
          have hs2 : Abs.Sub H H2 := fun y o hy => by rw [fr y (ne_live hy hh) (ne_live hy hm)]; exact hs _ _ hy
          simp (disch := omega) only [↓runPre,runPost,fieldO,ixA,cutA,lenA,aggA,rowA,appA,mkA,indA,bnd,srcA,sameOp,funcA,cvO,partA,aggD,↓PostP,resV,resAll,resOne,resVF,resAllF,resOneF,fitsAll,fitsR,fits,frz,Post,Nat.reduceBEq,Nat.reduceLT,reduceCtorEq,↓reduceIte,initS,AV.cellsOf,AV.fine,AV.one,repA,Nat.reduceMul,Nat.reduceAdd,Nat.reduceLeDiff,Nat.reduceEqDiff,Int.reduceToNat,Nat.reduceSub,Nat.reduceMod,Nat.reduceDiv,indexK.aggOf,Int.reducePow,Int.reduceLE,Int.reduceNeg,Int.reduceLT,Int.reduceBEq,Int.reduceBNe,Int.reduceEq,ownA,nilA,Try.facts,s1,s4,s5,s30,s31,s32,dT,dF,qT,qF,nT,nF,Bool.false_and,Bool.and_false,w4,putCells_eq]
          first | refine CallK.p (hra) ?_ | refine CallP.i (hra) ?_
          simp (disch := omega) only [↓runPre,runPost,fieldO,ixA,cutA,lenA,aggA,rowA,appA,mkA,indA,bnd,srcA,sameOp,funcA,cvO,partA,aggD,↓PostP,resV,resAll,resOne,resVF,resAllF,resOneF,fitsAll,fitsR,fits,frz,Post,Nat.reduceBEq,Nat.reduceLT,reduceCtorEq,↓reduceIte,initS,AV.cellsOf,AV.fine,AV.one,repA,Nat.reduceMul,Nat.reduceAdd,Nat.reduceLeDiff,Nat.reduceEqDiff,Int.reduceToNat,Nat.reduceSub,Nat.reduceMod,Nat.reduceDiv,indexK.aggOf,Int.reducePow,Int.reduceLE,Int.reduceNeg,Int.reduceLT,Int.reduceBEq,Int.reduceBNe,Int.reduceEq,ownA,nilA,Try.facts,s1,s4,s5,s30,s31,s32,dT,dF,qT,qF,nT,nF,Bool.false_and,Bool.and_false,w4,putCells_eq]
          exact ⟨mm - 1,by omega,j + 1,L,G2,by omega,hLi,hs2.set_free n4,t2.put nh4 nm4,rfl,rfl⟩
        · have hrn := rnodes_pure L G (by omega) (by omega) t.g
          simp (disch := omega) only [↓runPre,runPost,fieldO,ixA,cutA,lenA,aggA,rowA,appA,mkA,indA,bnd,srcA,sameOp,funcA,cvO,partA,aggD,↓PostP,resV,resAll,resOne,resVF,resAllF,resOneF,fitsAll,fitsR,fits,frz,Post,Nat.reduceBEq,Nat.reduceLT,reduceCtorEq,↓reduceIte,initS,AV.cellsOf,AV.fine,AV.one,repA,Nat.reduceMul,Nat.reduceAdd,Nat.reduceLeDiff,Nat.reduceEqDiff,Int.reduceToNat,Nat.reduceSub,Nat.reduceMod,Nat.reduceDiv,indexK.aggOf,Int.reducePow,Int.reduceLE,Int.reduceNeg,Int.reduceLT,Int.reduceBEq,Int.reduceBNe,Int.reduceEq,ownA,nilA,Try.facts,s1,s4,s5,s30,s31,s32,dT,dF,qT,qF,nT,nF,Bool.false_and,Bool.and_false,v4,putCells_eq]
          first | refine CallK.p (hrn) ?_ | refine CallP.i (hrn) ?_
          simp (disch := omega) only [↓runPre,runPost,fieldO,ixA,cutA,lenA,aggA,rowA,appA,mkA,indA,bnd,srcA,sameOp,funcA,cvO,partA,aggD,↓PostP,resV,resAll,resOne,resVF,resAllF,resOneF,fitsAll,fitsR,fits,frz,Post,Nat.reduceBEq,Nat.reduceLT,reduceCtorEq,↓reduceIte,initS,AV.cellsOf,AV.fine,AV.one,repA,Nat.reduceMul,Nat.reduceAdd,Nat.reduceLeDiff,Nat.reduceEqDiff,Int.reduceToNat,Nat.reduceSub,Nat.reduceMod,Nat.reduceDiv,indexK.aggOf,Int.reducePow,Int.reduceLE,Int.reduceNeg,Int.reduceLT,Int.reduceBEq,Int.reduceBNe,Int.reduceEq,ownA,nilA,Try.facts,s1,s4,s5,s30,s31,s32,dT,dF,qT,qF,nT,nF,Bool.false_and,Bool.and_false,v4,putCells_eq]
          exact ⟨_,rfl,_,Abs.Sub.refl _,h,m,L,G,rfl,hh,hm,hs,t,hLi⟩
/-- the book of a page's marks -/
def bookL (M : List Mk) : List Mk := M.foldl (fun l m => (addM l m).1) []
theorem filt_both {α : Type} (p : α → Bool) : ∀ l : List α,(l.filter p).length + (l.filter fun x => !p x).length = l.length
  | [] => rfl
  | x :: l => by
    have := filt_both p l
    cases h : p x <;> simp [List.filter_cons,h] <;> omega
theorem addM_le (l : List Mk) (m : Mk) : (addM l m).1.length ≤ l.length + 1 := by
  unfold addM
  split
  · simp
  · split
    · simp
    · split
      · simp
      · simp only [List.length_append,List.length_cons,List.length_nil]
        have h := filt_both (fun x => newM m x) l
        omega
theorem bookL_le (M : List Mk) : (bookL M).length ≤ M.length := by
  have h : ∀ (M l : List Mk),(M.foldl (fun l m => (addM l m).1) l).length ≤ l.length + M.length := by
    intro M
    induction M with
    | nil => intro l; simp
    | cons m M ih =>
      intro l
      rw [List.foldl_cons]
      have := ih (addM l m).1
      have := addM_le l m
      simp only [List.length_cons]
      omega
  have := h M []
  simpa [bookL] using this
theorem bookL_good (M : List Mk) : GoodM (bookL M) := by
  have h : ∀ (M l : List Mk),GoodM l → GoodM (M.foldl (fun l m => (addM l m).1) l) := by
    intro M
    induction M with
    | nil => intro l g; exact g
    | cons m M ih =>
      intro l g
      rw [List.foldl_cons]
      exact ih _ (g.add m)
  exact h M [] GoodM.nil
/-- a page's book -/
def PBook (H : AH) (M : List Mk) (v : AV) (H' : AH) : Prop := ∃ hb,v = .tup [.ptr hb 0,mksV (bookL M)] ∧ hb ≠ 0 ∧ H hb = none ∧ Abs.Sub H H' ∧ H' hb = some (bookO (bookL M))
theorem pbook_live (H : AH) (E : List Ins) (D : List EId) (M : List Mk) (hM : M.length ≤ 500) : ACalls Try.prog 23 [pageV E D M] H (PBook H M) := by
  have hml := mksC_length M
  unfold PBook
  obtain ⟨F,hF⟩ : ∃ F : Nat → List Mk,F = fun i => bookL (M.take i) := ⟨_,rfl⟩
  have hF0 : F 0 = [] := by rw [hF]; rfl
  have hFs : ∀ i (h : i < M.length),F (i + 1) = (addM (F i) M[i]).1 := fun i h => by
    rw [hF]
    simp only []
    unfold bookL
    rw [List.take_succ_eq_append_getElem h,List.foldl_append]
    rfl
  have hFe : bookL M = F M.length := by rw [hF]; simp only [List.take_length]
  have hFg : ∀ i,GoodM (F i) := fun i => by rw [hF]; exact bookL_good _
  rw [hFe]
  clear hF hFe
  refine acalls_of_cwp (c := ⟨Try.prog,28,[(1000000,[1]),(1000005,[7])],[],[]⟩) (rs := [ResultVar.tmp 2,ResultVar.tmp 3]) Try.mixed Try.func23 rfl rfl rfl (Nat.le_of_ble_eq_true rfl) (by kernel_rfl) ?_
  simp (disch := omega) only [↓runPre,runPost,fieldO,ixA,cutA,lenA,aggA,rowA,appA,mkA,indA,bnd,srcA,sameOp,funcA,cvO,partA,aggD,↓PostP,resV,resAll,resOne,resVF,resAllF,resOneF,fitsAll,fitsR,fits,frz,Post,Nat.reduceBEq,Nat.reduceLT,reduceCtorEq,↓reduceIte,initS,AV.cellsOf,AV.fine,AV.one,repA,Nat.reduceMul,Nat.reduceAdd,Nat.reduceLeDiff,Nat.reduceEqDiff,Int.reduceToNat,Nat.reduceSub,Nat.reduceMod,Nat.reduceDiv,indexK.aggOf,Int.reducePow,Int.reduceLE,Int.reduceNeg,Int.reduceLT,Int.reduceBEq,Int.reduceBNe,Int.reduceEq,ownA,nilA,Try.facts]
  intro k1 hk10 hk1
  simp (disch := omega) only [↓runPre,runPost,fieldO,ixA,cutA,lenA,aggA,rowA,appA,mkA,indA,bnd,srcA,sameOp,funcA,cvO,partA,aggD,↓PostP,resV,resAll,resOne,resVF,resAllF,resOneF,fitsAll,fitsR,fits,frz,Post,Nat.reduceBEq,Nat.reduceLT,reduceCtorEq,↓reduceIte,initS,AV.cellsOf,AV.fine,AV.one,repA,Nat.reduceMul,Nat.reduceAdd,Nat.reduceLeDiff,Nat.reduceEqDiff,Int.reduceToNat,Nat.reduceSub,Nat.reduceMod,Nat.reduceDiv,indexK.aggOf,Int.reducePow,Int.reduceLE,Int.reduceNeg,Int.reduceLT,Int.reduceBEq,Int.reduceBNe,Int.reduceEq,ownA,nilA,Try.facts,kill_box hk1,putCells_eq]
  refine CallK.i (mnew_live H) ?_
  rintro v H1 ⟨hb,rfl,hb0,hbf,rfl⟩
  simp (disch := omega) only [↓runPre,runPost,fieldO,ixA,cutA,lenA,aggA,rowA,appA,mkA,indA,bnd,srcA,sameOp,funcA,cvO,partA,aggD,↓PostP,resV,resAll,resOne,resVF,resAllF,resOneF,fitsAll,fitsR,fits,frz,Post,Nat.reduceBEq,Nat.reduceLT,reduceCtorEq,↓reduceIte,initS,AV.cellsOf,AV.fine,AV.one,repA,Nat.reduceMul,Nat.reduceAdd,Nat.reduceLeDiff,Nat.reduceEqDiff,Int.reduceToNat,Nat.reduceSub,Nat.reduceMod,Nat.reduceDiv,indexK.aggOf,Int.reducePow,Int.reduceLE,Int.reduceNeg,Int.reduceLT,Int.reduceBEq,Int.reduceBNe,Int.reduceEq,ownA,nilA,Try.facts]
  refine loop_t (c := ⟨Try.prog,28,[(1000000,[1]),(1000005,[7])],[],[]⟩) Try.mixed (by kernel_rfl) (fun mm σ H' => ∃ i : Nat,i + mm = M.length ∧ Abs.Sub H H' ∧ H' hb = some (bookO (F i)) ∧ ((F i = [] ∧ σ 5 = .sc (.slice none 0 0)) ∨ σ 5 = mksV (F i)) ∧
    σ 1 = .ip (pageC E D M) 0 ∧ σ 4 = .ptr hb 0 ∧ σ 10 = mksV M ∧ σ 11 = .sc (.int .i64 M.length) ∧ σ 12 = .sc (.int .i64 (i : Nat))) M.length ?_ ?_
  · refine ⟨0,by omega,Sub.set_new hbf,by rw [hF0]; exact set_get,.inl ⟨hF0,rfl⟩,?_⟩
    simp (disch := omega) only [↓runPre,runPost,fieldO,ixA,cutA,lenA,aggA,rowA,appA,mkA,indA,bnd,srcA,sameOp,funcA,cvO,partA,aggD,↓PostP,resV,resAll,resOne,resVF,resAllF,resOneF,fitsAll,fitsR,fits,frz,Post,Nat.reduceBEq,Nat.reduceLT,reduceCtorEq,↓reduceIte,initS,AV.cellsOf,AV.fine,AV.one,repA,Nat.reduceMul,Nat.reduceAdd,Nat.reduceLeDiff,Nat.reduceEqDiff,Int.reduceToNat,Nat.reduceSub,Nat.reduceMod,Nat.reduceDiv,indexK.aggOf,Int.reducePow,Int.reduceLE,Int.reduceNeg,Int.reduceLT,Int.reduceBEq,Int.reduceBNe,Int.reduceEq,ownA,nilA,Try.facts]
    try rfl
  · rintro mm σ H' ⟨i,him,hs,vb,s5,s1,s4,s10,s11,s12⟩
    by_cases hlt : i < M.length
    · have hld := mksC_load hlt
      have hle : i * 10 + 10 ≤ M.length * 10 := by omega
      have hst := hFs i hlt
      have hg := hFg i
      have ha := badd_live H' hb (F i) M[i] vb hg
      have hra := rmadd_pure (F i) M[i] hg.small
      rw [← hst] at ha hra
      generalize hl2 : F (i + 1) = l2 at *
      generalize F i = l at *
      generalize M[i] = q at *
      obtain ⟨mc,ma,⟨f1,f2⟩,fb,⟨t1,t2⟩,tb,nm,vl⟩ := q
      simp only [mkC] at hld ha hra
      rcases s5 with ⟨rfl,s5⟩ | s5
      all_goals
        simp (disch := omega) only [↓runPre,runPost,fieldO,ixA,cutA,lenA,aggA,rowA,appA,mkA,indA,bnd,srcA,sameOp,funcA,cvO,partA,aggD,↓PostP,resV,resAll,resOne,resVF,resAllF,resOneF,fitsAll,fitsR,fits,frz,Post,Nat.reduceBEq,Nat.reduceLT,reduceCtorEq,↓reduceIte,initS,AV.cellsOf,AV.fine,AV.one,repA,Nat.reduceMul,Nat.reduceAdd,Nat.reduceLeDiff,Nat.reduceEqDiff,Int.reduceToNat,Nat.reduceSub,Nat.reduceMod,Nat.reduceDiv,indexK.aggOf,Int.reducePow,Int.reduceLE,Int.reduceNeg,Int.reduceLT,Int.reduceBEq,Int.reduceBNe,Int.reduceEq,ownA,nilA,Try.facts,s1,s4,s5,s10,s11,s12,dT,dF,qT,qF,nT,nF,Bool.false_and,Bool.and_false,hld,hle,hml]
        intro b1 hb10 hb1f
        simp (disch := omega) only [↓runPre,runPost,fieldO,ixA,cutA,lenA,aggA,rowA,appA,mkA,indA,bnd,srcA,sameOp,funcA,cvO,partA,aggD,↓PostP,resV,resAll,resOne,resVF,resAllF,resOneF,fitsAll,fitsR,fits,frz,Post,Nat.reduceBEq,Nat.reduceLT,reduceCtorEq,↓reduceIte,initS,AV.cellsOf,AV.fine,AV.one,repA,Nat.reduceMul,Nat.reduceAdd,Nat.reduceLeDiff,Nat.reduceEqDiff,Int.reduceToNat,Nat.reduceSub,Nat.reduceMod,Nat.reduceDiv,indexK.aggOf,Int.reducePow,Int.reduceLE,Int.reduceNeg,Int.reduceLT,Int.reduceBEq,Int.reduceBNe,Int.reduceEq,ownA,nilA,Try.facts,s1,s4,s5,s10,s11,s12,dT,dF,qT,qF,nT,nF,Bool.false_and,Bool.and_false,hld,hle,hml,kill_box hb1f,putCells_eq]
        refine CallK.i ha ?_
        rintro v H2 ⟨rfl,vb2,fr⟩
        have hs2 : Abs.Sub H H2 := fun y o hy => fr y o (ne_live hy hbf) (hs _ _ hy)
        simp (disch := omega) only [↓runPre,runPost,fieldO,ixA,cutA,lenA,aggA,rowA,appA,mkA,indA,bnd,srcA,sameOp,funcA,cvO,partA,aggD,↓PostP,resV,resAll,resOne,resVF,resAllF,resOneF,fitsAll,fitsR,fits,frz,Post,Nat.reduceBEq,Nat.reduceLT,reduceCtorEq,↓reduceIte,initS,AV.cellsOf,AV.fine,AV.one,repA,Nat.reduceMul,Nat.reduceAdd,Nat.reduceLeDiff,Nat.reduceEqDiff,Int.reduceToNat,Nat.reduceSub,Nat.reduceMod,Nat.reduceDiv,indexK.aggOf,Int.reducePow,Int.reduceLE,Int.reduceNeg,Int.reduceLT,Int.reduceBEq,Int.reduceBNe,Int.reduceEq,ownA,nilA,Try.facts,s1,s4,s5,s10,s11,s12,dT,dF,qT,qF,nT,nF,Bool.false_and,Bool.and_false,putCells_eq]
        first | refine CallK.p (hra) ?_ | refine CallP.i (hra) ?_
        simp (disch := omega) only [↓runPre,runPost,fieldO,ixA,cutA,lenA,aggA,rowA,appA,mkA,indA,bnd,srcA,sameOp,funcA,cvO,partA,aggD,↓PostP,resV,resAll,resOne,resVF,resAllF,resOneF,fitsAll,fitsR,fits,frz,Post,Nat.reduceBEq,Nat.reduceLT,reduceCtorEq,↓reduceIte,initS,AV.cellsOf,AV.fine,AV.one,repA,Nat.reduceMul,Nat.reduceAdd,Nat.reduceLeDiff,Nat.reduceEqDiff,Int.reduceToNat,Nat.reduceSub,Nat.reduceMod,Nat.reduceDiv,indexK.aggOf,Int.reducePow,Int.reduceLE,Int.reduceNeg,Int.reduceLT,Int.reduceBEq,Int.reduceBNe,Int.reduceEq,ownA,nilA,Try.facts,s1,s4,s5,s10,s11,s12,dT,dF,qT,qF,nT,nF,Bool.false_and,Bool.and_false,putCells_eq]
        exact ⟨mm - 1,by omega,i + 1,by omega,hs2,by rw [hl2]; exact vb2,.inr (by rw [hl2]),rfl⟩
    · obtain rfl : i = M.length := by omega
      rcases s5 with ⟨he,s5⟩ | s5
      · simp (disch := omega) only [↓runPre,runPost,fieldO,ixA,cutA,lenA,aggA,rowA,appA,mkA,indA,bnd,srcA,sameOp,funcA,cvO,partA,aggD,↓PostP,resV,resAll,resOne,resVF,resAllF,resOneF,fitsAll,fitsR,fits,frz,Post,Nat.reduceBEq,Nat.reduceLT,reduceCtorEq,↓reduceIte,initS,AV.cellsOf,AV.fine,AV.one,repA,Nat.reduceMul,Nat.reduceAdd,Nat.reduceLeDiff,Nat.reduceEqDiff,Int.reduceToNat,Nat.reduceSub,Nat.reduceMod,Nat.reduceDiv,indexK.aggOf,Int.reducePow,Int.reduceLE,Int.reduceNeg,Int.reduceLT,Int.reduceBEq,Int.reduceBNe,Int.reduceEq,ownA,nilA,Try.facts,s1,s4,s5,s10,s11,s12,dT,dF,qT,qF,nT,nF,Bool.false_and,Bool.and_false]
        exact ⟨_,rfl,_,Abs.Sub.refl _,hb,by rw [he]; rfl,hb0,hbf,hs,vb⟩
      · simp (disch := omega) only [↓runPre,runPost,fieldO,ixA,cutA,lenA,aggA,rowA,appA,mkA,indA,bnd,srcA,sameOp,funcA,cvO,partA,aggD,↓PostP,resV,resAll,resOne,resVF,resAllF,resOneF,fitsAll,fitsR,fits,frz,Post,Nat.reduceBEq,Nat.reduceLT,reduceCtorEq,↓reduceIte,initS,AV.cellsOf,AV.fine,AV.one,repA,Nat.reduceMul,Nat.reduceAdd,Nat.reduceLeDiff,Nat.reduceEqDiff,Int.reduceToNat,Nat.reduceSub,Nat.reduceMod,Nat.reduceDiv,indexK.aggOf,Int.reducePow,Int.reduceLE,Int.reduceNeg,Int.reduceLT,Int.reduceBEq,Int.reduceBNe,Int.reduceEq,ownA,nilA,Try.facts,s1,s4,s5,s10,s11,s12,dT,dF,qT,qF,nT,nF,Bool.false_and,Bool.and_false]
        exact ⟨_,rfl,_,Abs.Sub.refl _,hb,rfl,hb0,hbf,hs,vb⟩
end Go.Proofs.Ytgkpidbeoccpnaa
end
