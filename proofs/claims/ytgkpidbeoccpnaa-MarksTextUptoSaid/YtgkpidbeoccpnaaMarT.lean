/-
  Runs and the text: plain law; the walk of the law of texts.
  Conditions: none. Lemmas only.
-/
import Derived.Test.YtgkpidbeoccpnaaMarS
set_option linter.all false
set_option linter.unusedSimpArgs false
set_option linter.unusedVariables false
set_option maxRecDepth 8000
set_option maxHeartbeats 4000000
namespace Go.Proofs.Ytgkpidbeoccpnaa
open Go Go.Abs Go.Proofs Go.Fug
def catN (l : List Rn) : List UInt8 := l.flatMap (·.txt)
theorem runeB_ne (r : Int) : runeB r ≠ [] := by
  unfold runeB Utf8.encode
  simp only []
  repeat' split
  all_goals (first | (simp; done) | (rename_i h; revert h; simp) | decide)
theorem runS_cat (sty : Nat → Sty) (R : List Rn) (q : Nat × Nd) : catN (runS sty R q).reverse = catN R.reverse ++ if q.2.gone = true then [] else runeB q.2.rune := by
  unfold runS
  split
  · simp
  · split
    · simp [catN]
    · split
      · simp [catN]
      · simp [catN]
theorem runsR_cat (sty : Nat → Sty) : ∀ (ns : List Nd) (a : Nat) (R : List Rn),catN ((ixd a ns).foldl (runS sty) R).reverse = catN R.reverse ++ runesB (live ns)
  | [],a,R => by simp [ixd,runesB,live]
  | n :: ns,a,R => by
    show catN ((ixd (a + 1) ns).foldl (runS sty) (runS sty R (a,n))).reverse = _
    rw [runsR_cat sty ns,runS_cat]
    cases h : n.gone <;> simp [runesB,live,h]
theorem runsN_cat (ns : List Nd) (l : List Mk) : catN (runsN ns l) = runesB (live ns) := by
  unfold runsN runsR
  rw [runsR_cat]
  rfl
/-- no text is empty, and no two beside one another have one style -/
def Fine (R : List Rn) : Prop := (∀ r ∈ R,r.txt ≠ []) ∧ ∀ i (h0 : i < R.length) (h : i + 1 < R.length),R[i].s ≠ R[i + 1].s
theorem runS_fine (sty : Nat → Sty) {R : List Rn} (f : Fine R) (q : Nat × Nd) : Fine (runS sty R q) := by
  have hne := runeB_ne q.2.rune
  obtain ⟨f1,f2⟩ := f
  unfold runS
  split
  · exact ⟨f1,f2⟩
  · split
    · exact ⟨by simp [hne],by simp⟩
    · rename_i r0 R'
      split
      · refine ⟨fun r hr => ?_,fun i h0 h => ?_⟩
        · simp only [List.mem_cons] at hr
          rcases hr with rfl | hr
          · simp [hne]
          · exact f1 r (by simp [hr])
        · have := f2 i (by simpa using h0) (by simpa using h)
          cases i with
          | zero => simpa using this
          | succ i => simpa using this
      · rename_i hs
        refine ⟨fun r hr => ?_,fun i h0 h => ?_⟩
        · simp only [List.mem_cons] at hr
          rcases hr with rfl | hr
          · exact hne
          · exact f1 r (by simpa using hr)
        · cases i with
          | zero => simpa using fun e => hs e.symm
          | succ i =>
            have := f2 i (by simpa using h0) (by simpa using h)
            simpa using this
theorem runsN_fine (ns : List Nd) (l : List Mk) : (∀ r ∈ runsN ns l,r.txt ≠ []) ∧ ∀ i (h0 : i < (runsN ns l).length) (h : i + 1 < (runsN ns l).length),(runsN ns l)[i].s ≠ (runsN ns l)[i + 1].s := by
  have key : ∀ (xs : List (Nat × Nd)) R,Fine R → Fine (xs.foldl (runS (styN ns l)) R) := by
    intro xs
    induction xs with
    | nil => intro R f; exact f
    | cons x xs ih => intro R f; exact ih _ (runS_fine _ f x)
  have := key (ixd 0 ns) [] ⟨by simp,by simp⟩
  unfold runsN runsR
  generalize (ixd 0 ns).foldl (runS (styN ns l)) [] = R at *
  obtain ⟨f1,f2⟩ := this
  refine ⟨fun r hr => f1 r (by simpa using hr),fun i h0 h => ?_⟩
  rw [List.length_reverse] at h
  rw [List.getElem_reverse,List.getElem_reverse]
  have := f2 (R.length - 1 - (i + 1)) (by omega) (by omega)
  intro e
  apply this
  have e2 : R.length - 1 - (i + 1) + 1 = R.length - 1 - i := by omega
  simp only [e2]
  exact e.symm
theorem mtext_walk (E : List Ins) (D : List EId) (M : List Mk) : APure Try.prog 7 [pageV E D M] (.sc (.bool true)) := by
  have haw := awake_pure
  have hf := few_pure E D M
  cases few : fewP E D M with
  | false =>
    rw [few] at hf
    refine apure_of_cwp (c := ⟨Try.prog,71,[(10,[0,1,0,0,0,0,1,0,0,0,0,0,0,0,0,0,0,0,1,0,1,0,0,0]),(1000000,[1]),(1000008,[10]),(4000013,[2]),(4000010,[3,7,8,28,29,30,62]),(4000009,[3,7,8,9,10,28,29,30]),(4000008,[3,7,8,9,10,28,29,30]),(4000005,[3,7,8]),(4000004,[3,5]),(4000003,[1,3])],[],[]⟩) (rs := [ResultVar.tmp 2]) Try.mixed Try.func7 rfl rfl rfl (Nat.le_of_ble_eq_true rfl) (by kernel_rfl) fun H => ?_
    simp (disch := omega) only [↓runPre,runPost,fieldO,ixA,cutA,lenA,aggA,rowA,appA,mkA,indA,bnd,srcA,sameOp,funcA,cvO,partA,aggD,↓PostP,resV,resAll,resOne,resVF,resAllF,resOneF,fitsAll,fitsR,fits,frz,Post,Nat.reduceBEq,Nat.reduceLT,reduceCtorEq,↓reduceIte,initS,AV.cellsOf,AV.fine,AV.one,repA,Nat.reduceMul,Nat.reduceAdd,Nat.reduceLeDiff,Nat.reduceEqDiff,Int.reduceToNat,Nat.reduceSub,Nat.reduceMod,Nat.reduceDiv,indexK.aggOf,Int.reducePow,Int.reduceLE,Int.reduceNeg,Int.reduceLT,Int.reduceBEq,Int.reduceBNe,Int.reduceEq,ownA,nilA,Try.facts]
    intro k1 hk10 hk1
    simp (disch := omega) only [↓runPre,runPost,fieldO,ixA,cutA,lenA,aggA,rowA,appA,mkA,indA,bnd,srcA,sameOp,funcA,cvO,partA,aggD,↓PostP,resV,resAll,resOne,resVF,resAllF,resOneF,fitsAll,fitsR,fits,frz,Post,Nat.reduceBEq,Nat.reduceLT,reduceCtorEq,↓reduceIte,initS,AV.cellsOf,AV.fine,AV.one,repA,Nat.reduceMul,Nat.reduceAdd,Nat.reduceLeDiff,Nat.reduceEqDiff,Int.reduceToNat,Nat.reduceSub,Nat.reduceMod,Nat.reduceDiv,indexK.aggOf,Int.reducePow,Int.reduceLE,Int.reduceNeg,Int.reduceLT,Int.reduceBEq,Int.reduceBNe,Int.reduceEq,ownA,nilA,Try.facts,kill_box hk1,putCells_eq]
    first | refine CallK.p (hf) ?_ | refine CallP.i (hf) ?_
    simp (disch := omega) only [↓runPre,runPost,fieldO,ixA,cutA,lenA,aggA,rowA,appA,mkA,indA,bnd,srcA,sameOp,funcA,cvO,partA,aggD,↓PostP,resV,resAll,resOne,resVF,resAllF,resOneF,fitsAll,fitsR,fits,frz,Post,Nat.reduceBEq,Nat.reduceLT,reduceCtorEq,↓reduceIte,initS,AV.cellsOf,AV.fine,AV.one,repA,Nat.reduceMul,Nat.reduceAdd,Nat.reduceLeDiff,Nat.reduceEqDiff,Int.reduceToNat,Nat.reduceSub,Nat.reduceMod,Nat.reduceDiv,indexK.aggOf,Int.reducePow,Int.reduceLE,Int.reduceNeg,Int.reduceLT,Int.reduceBEq,Int.reduceBNe,Int.reduceEq,ownA,nilA,Try.facts]
    first | refine CallK.p (haw) ?_ | refine CallP.i (haw) ?_
    simp (disch := omega) only [↓runPre,runPost,fieldO,ixA,cutA,lenA,aggA,rowA,appA,mkA,indA,bnd,srcA,sameOp,funcA,cvO,partA,aggD,↓PostP,resV,resAll,resOne,resVF,resAllF,resOneF,fitsAll,fitsR,fits,frz,Post,Nat.reduceBEq,Nat.reduceLT,reduceCtorEq,↓reduceIte,initS,AV.cellsOf,AV.fine,AV.one,repA,Nat.reduceMul,Nat.reduceAdd,Nat.reduceLeDiff,Nat.reduceEqDiff,Int.reduceToNat,Nat.reduceSub,Nat.reduceMod,Nat.reduceDiv,indexK.aggOf,Int.reducePow,Int.reduceLE,Int.reduceNeg,Int.reduceLT,Int.reduceBEq,Int.reduceBNe,Int.reduceEq,ownA,nilA,Try.facts]
    exact Abs.Sub.refl _
  | true =>
    rw [few] at hf
    obtain ⟨hE,hD,hM⟩ := fewP_iff few
    have hpt := fun H => ptext_live H E D M hE hD
    have hpb := fun H => pbook_live H E D M (by omega)
    have hbl := bookL_le M
    have hbg := bookL_good M
    unfold PText at hpt
    unfold PBook at hpb
    generalize bookL M = l at *
    refine apure_of_cwp (c := ⟨Try.prog,71,[(10,[0,1,0,0,0,0,1,0,0,0,0,0,0,0,0,0,0,0,1,0,1,0,0,0]),(1000000,[1]),(1000008,[10]),(4000013,[2]),(4000010,[3,7,8,28,29,30,62]),(4000009,[3,7,8,9,10,28,29,30]),(4000008,[3,7,8,9,10,28,29,30]),(4000005,[3,7,8]),(4000004,[3,5]),(4000003,[1,3])],[],[]⟩) (rs := [ResultVar.tmp 2]) Try.mixed Try.func7 rfl rfl rfl (Nat.le_of_ble_eq_true rfl) (by kernel_rfl) fun H => ?_
    simp (disch := omega) only [↓runPre,runPost,fieldO,ixA,cutA,lenA,aggA,rowA,appA,mkA,indA,bnd,srcA,sameOp,funcA,cvO,partA,aggD,↓PostP,resV,resAll,resOne,resVF,resAllF,resOneF,fitsAll,fitsR,fits,frz,Post,Nat.reduceBEq,Nat.reduceLT,reduceCtorEq,↓reduceIte,initS,AV.cellsOf,AV.fine,AV.one,repA,Nat.reduceMul,Nat.reduceAdd,Nat.reduceLeDiff,Nat.reduceEqDiff,Int.reduceToNat,Nat.reduceSub,Nat.reduceMod,Nat.reduceDiv,indexK.aggOf,Int.reducePow,Int.reduceLE,Int.reduceNeg,Int.reduceLT,Int.reduceBEq,Int.reduceBNe,Int.reduceEq,ownA,nilA,Try.facts]
    intro k1 hk10 hk1
    simp (disch := omega) only [↓runPre,runPost,fieldO,ixA,cutA,lenA,aggA,rowA,appA,mkA,indA,bnd,srcA,sameOp,funcA,cvO,partA,aggD,↓PostP,resV,resAll,resOne,resVF,resAllF,resOneF,fitsAll,fitsR,fits,frz,Post,Nat.reduceBEq,Nat.reduceLT,reduceCtorEq,↓reduceIte,initS,AV.cellsOf,AV.fine,AV.one,repA,Nat.reduceMul,Nat.reduceAdd,Nat.reduceLeDiff,Nat.reduceEqDiff,Int.reduceToNat,Nat.reduceSub,Nat.reduceMod,Nat.reduceDiv,indexK.aggOf,Int.reducePow,Int.reduceLE,Int.reduceNeg,Int.reduceLT,Int.reduceBEq,Int.reduceBNe,Int.reduceEq,ownA,nilA,Try.facts,kill_box hk1,putCells_eq]
    first | refine CallK.p (hf) ?_ | refine CallP.i (hf) ?_
    simp (disch := omega) only [↓runPre,runPost,fieldO,ixA,cutA,lenA,aggA,rowA,appA,mkA,indA,bnd,srcA,sameOp,funcA,cvO,partA,aggD,↓PostP,resV,resAll,resOne,resVF,resAllF,resOneF,fitsAll,fitsR,fits,frz,Post,Nat.reduceBEq,Nat.reduceLT,reduceCtorEq,↓reduceIte,initS,AV.cellsOf,AV.fine,AV.one,repA,Nat.reduceMul,Nat.reduceAdd,Nat.reduceLeDiff,Nat.reduceEqDiff,Int.reduceToNat,Nat.reduceSub,Nat.reduceMod,Nat.reduceDiv,indexK.aggOf,Int.reducePow,Int.reduceLE,Int.reduceNeg,Int.reduceLT,Int.reduceBEq,Int.reduceBNe,Int.reduceEq,ownA,nilA,Try.facts]
    refine CallK.i (hpt _) ?_
    rintro v H1 ⟨h,m,L,G,rfl,hh,hm,hs1,t,hLE⟩
    simp (disch := omega) only [↓runPre,runPost,fieldO,ixA,cutA,lenA,aggA,rowA,appA,mkA,indA,bnd,srcA,sameOp,funcA,cvO,partA,aggD,↓PostP,resV,resAll,resOne,resVF,resAllF,resOneF,fitsAll,fitsR,fits,frz,Post,Nat.reduceBEq,Nat.reduceLT,reduceCtorEq,↓reduceIte,initS,AV.cellsOf,AV.fine,AV.one,repA,Nat.reduceMul,Nat.reduceAdd,Nat.reduceLeDiff,Nat.reduceEqDiff,Int.reduceToNat,Nat.reduceSub,Nat.reduceMod,Nat.reduceDiv,indexK.aggOf,Int.reducePow,Int.reduceLE,Int.reduceNeg,Int.reduceLT,Int.reduceBEq,Int.reduceBNe,Int.reduceEq,ownA,nilA,Try.facts]
    refine CallK.i (hpb _) ?_
    rintro v H2 ⟨hb,rfl,hb0,hbf,hs2,vb⟩
    have t2 := t.mono hs2
    have hnl := nodes_len t.g G
    have hru := runs_own H2 hb l vb hbg h m L G t2
    have hrl := runsR_len (styN (nodes L G) l) (ixd 0 (nodes L G))
    have hrt := runsR_txt (styN (nodes L G) l) (ixd 0 (nodes L G))
    have hrn : (runsN (nodes L G) l).length ≤ 40 := by
      unfold runsN
      rw [List.length_reverse]
      rw [ixd_length] at hrl
      omega
    have hrt2 : TxtLe 160 (runsN (nodes L G) l) := fun r hr => by
      unfold runsN at hr
      have := hrt r (by simpa using hr)
      rw [ixd_length] at this
      omega
    have hcat := runsN_cat (nodes L G) l
    obtain ⟨hfi1,hfi2⟩ := runsN_fine (nodes L G) l
    have htx := text_live H2 h m L G t2
    rw [← hcat] at htx
    clear hcat hrl hrt
    generalize runsN (nodes L G) l = R at *
    have hRl := rnsC_length R
    obtain ⟨F,hF⟩ : ∃ F : Nat → List UInt8,F = fun i => catN (R.take i) := ⟨_,rfl⟩
    have hF0 : F 0 = [] := by rw [hF]; rfl
    have hFs : ∀ i (h : i < R.length),F (i + 1) = F i ++ R[i].txt := fun i h => by
      rw [hF]
      simp only []
      unfold catN
      rw [List.take_succ_eq_append_getElem h,List.flatMap_append,List.flatMap_cons,List.flatMap_nil,List.append_nil]
    have hFe : catN R = F R.length := by rw [hF]; simp only [List.take_length]
    have hFl : ∀ i,i ≤ R.length → (F i).length ≤ 160 * i := by
      intro i
      induction i with
      | zero => intro _; rw [hF0]; simp
      | succ i ih =>
        intro h
        have := ih (by omega)
        have := hrt2 R[i] (List.getElem_mem (by omega))
        rw [hFs i (by omega),List.length_append]
        omega
    rw [hFe] at htx
    clear hF hFe
    simp (disch := omega) only [↓runPre,runPost,fieldO,ixA,cutA,lenA,aggA,rowA,appA,mkA,indA,bnd,srcA,sameOp,funcA,cvO,partA,aggD,↓PostP,resV,resAll,resOne,resVF,resAllF,resOneF,fitsAll,fitsR,fits,frz,Post,Nat.reduceBEq,Nat.reduceLT,reduceCtorEq,↓reduceIte,initS,AV.cellsOf,AV.fine,AV.one,repA,Nat.reduceMul,Nat.reduceAdd,Nat.reduceLeDiff,Nat.reduceEqDiff,Int.reduceToNat,Nat.reduceSub,Nat.reduceMod,Nat.reduceDiv,indexK.aggOf,Int.reducePow,Int.reduceLE,Int.reduceNeg,Int.reduceLT,Int.reduceBEq,Int.reduceBNe,Int.reduceEq,ownA,nilA,Try.facts]
    refine CallK.i hru ?_
    rintro v H3 ⟨rfl,rfl⟩
    have hs3 := hs1.trans hs2
    clear hpt hpb t hru
    simp (disch := omega) only [↓runPre,runPost,fieldO,ixA,cutA,lenA,aggA,rowA,appA,mkA,indA,bnd,srcA,sameOp,funcA,cvO,partA,aggD,↓PostP,resV,resAll,resOne,resVF,resAllF,resOneF,fitsAll,fitsR,fits,frz,Post,Nat.reduceBEq,Nat.reduceLT,reduceCtorEq,↓reduceIte,initS,AV.cellsOf,AV.fine,AV.one,repA,Nat.reduceMul,Nat.reduceAdd,Nat.reduceLeDiff,Nat.reduceEqDiff,Int.reduceToNat,Nat.reduceSub,Nat.reduceMod,Nat.reduceDiv,indexK.aggOf,Int.reducePow,Int.reduceLE,Int.reduceNeg,Int.reduceLT,Int.reduceBEq,Int.reduceBNe,Int.reduceEq,ownA,nilA,Try.facts,dT,dF,qT,qF,nT,nF,Bool.false_and,Bool.and_false]
    refine loop_t (c := ⟨Try.prog,71,[(10,[0,1,0,0,0,0,1,0,0,0,0,0,0,0,0,0,0,0,1,0,1,0,0,0]),(1000000,[1]),(1000008,[10]),(4000013,[2]),(4000010,[3,7,8,28,29,30,62]),(4000009,[3,7,8,9,10,28,29,30]),(4000008,[3,7,8,9,10,28,29,30]),(4000005,[3,7,8]),(4000004,[3,5]),(4000003,[1,3])],[],[]⟩) Try.mixed (by kernel_rfl) (fun mm σ H' => H' = H3 ∧ ∃ i : Nat,i + mm = R.length ∧
      σ 3 = .ptr h 0 ∧ σ 7 = strR (F i) ∧ σ 8 = rnsV R ∧ σ 28 = rnsV R ∧ σ 29 = .sc (.int .i64 R.length) ∧ σ 30 = .sc (.int .i64 (i : Nat))) R.length ?_ ?_
    · refine ⟨rfl,0,by omega,?_⟩
      simp (disch := omega) only [↓runPre,runPost,fieldO,ixA,cutA,lenA,aggA,rowA,appA,mkA,indA,bnd,srcA,sameOp,funcA,cvO,partA,aggD,↓PostP,resV,resAll,resOne,resVF,resAllF,resOneF,fitsAll,fitsR,fits,frz,Post,Nat.reduceBEq,Nat.reduceLT,reduceCtorEq,↓reduceIte,initS,AV.cellsOf,AV.fine,AV.one,repA,Nat.reduceMul,Nat.reduceAdd,Nat.reduceLeDiff,Nat.reduceEqDiff,Int.reduceToNat,Nat.reduceSub,Nat.reduceMod,Nat.reduceDiv,indexK.aggOf,Int.reducePow,Int.reduceLE,Int.reduceNeg,Int.reduceLT,Int.reduceBEq,Int.reduceBNe,Int.reduceEq,ownA,nilA,Try.facts,hF0,strR]
      try rfl
    · rintro mm σ H' ⟨rfl,i,him,s3,s7,s8,s28,s29,s30⟩
      unfold strR at s7
      by_cases hlt : i < R.length
      · have hld := rnsC_load hlt
        have hle : i * 6 + 6 ≤ R.length * 6 := by omega
        have hne := hfi1 R[i] (List.getElem_mem hlt)
        have hst := hFs i hlt
        have hl1 := hFl i (by omega)
        have hl2 := hFl (i + 1) (by omega)
        have hc : (⟨(F i).toArray⟩ : ByteArray) ++ (⟨R[i].txt.toArray⟩ : ByteArray) = ⟨(F (i + 1)).toArray⟩ := by
          rw [hst]
          apply ByteArray.ext
          simp
        have hlen : (F i).length + R[i].txt.length ≤ 9223372036854775807 := by rw [← List.length_append,← hst]; omega
        have hq0 : ((⟨R[i].txt.toArray⟩ : ByteArray).toList == (⟨#[]⟩ : ByteArray).toList) = false := by rw [baToList,show (⟨#[]⟩ : ByteArray).toList = [] from baToList []]; exact beq_eq_false_iff_ne.2 hne
        rcases Nat.eq_zero_or_pos i with hi0 | hi0
        · generalize R[i] = r at *
          obtain ⟨rt,ra,rb,rc,rd⟩ := r
          simp only [rnC,strR] at hld hc hq0 hlen
          simp (disch := omega) only [↓runPre,runPost,fieldO,ixA,cutA,lenA,aggA,rowA,appA,mkA,indA,bnd,srcA,sameOp,funcA,cvO,partA,aggD,↓PostP,resV,resAll,resOne,resVF,resAllF,resOneF,fitsAll,fitsR,fits,frz,Post,Nat.reduceBEq,Nat.reduceLT,reduceCtorEq,↓reduceIte,initS,AV.cellsOf,AV.fine,AV.one,repA,Nat.reduceMul,Nat.reduceAdd,Nat.reduceLeDiff,Nat.reduceEqDiff,Int.reduceToNat,Nat.reduceSub,Nat.reduceMod,Nat.reduceDiv,indexK.aggOf,Int.reducePow,Int.reduceLE,Int.reduceNeg,Int.reduceLT,Int.reduceBEq,Int.reduceBNe,Int.reduceEq,ownA,nilA,Try.facts,s3,s7,s8,s28,s29,s30,dT,dF,qT,qF,nT,nF,Bool.false_and,Bool.and_false,hld,hle,hRl]
          intro k2 hk20 hk2
          simp (disch := omega) only [↓runPre,runPost,fieldO,ixA,cutA,lenA,aggA,rowA,appA,mkA,indA,bnd,srcA,sameOp,funcA,cvO,partA,aggD,↓PostP,resV,resAll,resOne,resVF,resAllF,resOneF,fitsAll,fitsR,fits,frz,Post,Nat.reduceBEq,Nat.reduceLT,reduceCtorEq,↓reduceIte,initS,AV.cellsOf,AV.fine,AV.one,repA,Nat.reduceMul,Nat.reduceAdd,Nat.reduceLeDiff,Nat.reduceEqDiff,Int.reduceToNat,Nat.reduceSub,Nat.reduceMod,Nat.reduceDiv,indexK.aggOf,Int.reducePow,Int.reduceLE,Int.reduceNeg,Int.reduceLT,Int.reduceBEq,Int.reduceBNe,Int.reduceEq,ownA,nilA,Try.facts,s3,s7,s8,s28,s29,s30,dT,dF,qT,qF,nT,nF,Bool.false_and,Bool.and_false,kill_box hk2,putCells_eq,hc,hq0]
          exact ⟨mm - 1,by omega,i + 1,by omega,rfl,rfl⟩
        · obtain ⟨j,rfl⟩ : ∃ j,i = j + 1 := ⟨i - 1,by omega⟩
          have hsne := hfi2 j (by omega) hlt
          have hgs : ((rnsC R).drop (j * 6 + 1)).take 5 = styC R[j].s.1 R[j].s.2.1 R[j].s.2.2.1 R[j].s.2.2.2 := by
            have h6 := rnsC_load (l := R) (i := j) (by omega)
            have h5 : (((rnsC R).drop (j * 6)).take 6).drop 1 = (rnC R[j]).drop 1 := by rw [h6]
            rw [List.drop_take,List.drop_drop] at h5
            exact h5
          have hle5 : j * 6 + 1 + 5 ≤ R.length * 6 := by omega
          have hz : j + 1 - 1 = j := rfl
          generalize R[j + 1] = r at *
          generalize R[j] = p at *
          obtain ⟨rt,ra,rb,rc,rd⟩ := r
          obtain ⟨pt,pa,pb,pc,pd⟩ := p
          simp only [rnC,strR] at hld hc hq0 hlen
          simp only [] at hsne hgs
          have hq : (pa == ra && (pb == rb && (pc == rc && pd == rd))) = false := by
            cases h : (pa == ra && (pb == rb && (pc == rc && pd == rd))) with
            | false => rfl
            | true => exact absurd (styEq_iff (x := (pa,pb,pc,pd)) (y := (ra,rb,rc,rd)).1 h) hsne
          simp (disch := omega) only [↓runPre,runPost,fieldO,ixA,cutA,lenA,aggA,rowA,appA,mkA,indA,bnd,srcA,sameOp,funcA,cvO,partA,aggD,↓PostP,resV,resAll,resOne,resVF,resAllF,resOneF,fitsAll,fitsR,fits,frz,Post,Nat.reduceBEq,Nat.reduceLT,reduceCtorEq,↓reduceIte,initS,AV.cellsOf,AV.fine,AV.one,repA,Nat.reduceMul,Nat.reduceAdd,Nat.reduceLeDiff,Nat.reduceEqDiff,Int.reduceToNat,Nat.reduceSub,Nat.reduceMod,Nat.reduceDiv,indexK.aggOf,Int.reducePow,Int.reduceLE,Int.reduceNeg,Int.reduceLT,Int.reduceBEq,Int.reduceBNe,Int.reduceEq,ownA,nilA,Try.facts,s3,s7,s8,s28,s29,s30,dT,dF,qT,qF,nT,nF,Bool.false_and,Bool.and_false,hld,hle,hRl]
          intro k2 hk20 hk2
          simp (disch := omega) only [↓runPre,runPost,fieldO,ixA,cutA,lenA,aggA,rowA,appA,mkA,indA,bnd,srcA,sameOp,funcA,cvO,partA,aggD,↓PostP,resV,resAll,resOne,resVF,resAllF,resOneF,fitsAll,fitsR,fits,frz,Post,Nat.reduceBEq,Nat.reduceLT,reduceCtorEq,↓reduceIte,initS,AV.cellsOf,AV.fine,AV.one,repA,Nat.reduceMul,Nat.reduceAdd,Nat.reduceLeDiff,Nat.reduceEqDiff,Int.reduceToNat,Nat.reduceSub,Nat.reduceMod,Nat.reduceDiv,indexK.aggOf,Int.reducePow,Int.reduceLE,Int.reduceNeg,Int.reduceLT,Int.reduceBEq,Int.reduceBNe,Int.reduceEq,ownA,nilA,Try.facts,s3,s7,s8,s28,s29,s30,dT,dF,qT,qF,nT,nF,Bool.false_and,Bool.and_false,kill_box hk2,putCells_eq,hc,hq0,hz,hgs,hle5,hRl,hq,beq_self_eq_true,Bool.true_and]
          exact ⟨mm - 1,by omega,j + 1 + 1,by omega,rfl,rfl⟩
      · obtain rfl : i = R.length := by omega
        simp (disch := omega) only [↓runPre,runPost,fieldO,ixA,cutA,lenA,aggA,rowA,appA,mkA,indA,bnd,srcA,sameOp,funcA,cvO,partA,aggD,↓PostP,resV,resAll,resOne,resVF,resAllF,resOneF,fitsAll,fitsR,fits,frz,Post,Nat.reduceBEq,Nat.reduceLT,reduceCtorEq,↓reduceIte,initS,AV.cellsOf,AV.fine,AV.one,repA,Nat.reduceMul,Nat.reduceAdd,Nat.reduceLeDiff,Nat.reduceEqDiff,Int.reduceToNat,Nat.reduceSub,Nat.reduceMod,Nat.reduceDiv,indexK.aggOf,Int.reducePow,Int.reduceLE,Int.reduceNeg,Int.reduceLT,Int.reduceBEq,Int.reduceBNe,Int.reduceEq,ownA,nilA,Try.facts,s3,s7,s8,s28,s29,s30,dT,dF,qT,qF,nT,nF,Bool.false_and,Bool.and_false]
        refine CallK.i htx ?_
        rintro v H4 ⟨rfl,rfl⟩
        have he : ((⟨(F R.length).toArray⟩ : ByteArray).toList == (⟨(F R.length).toArray⟩ : ByteArray).toList) = true := beq_self_eq_true _
        simp (disch := omega) only [↓runPre,runPost,fieldO,ixA,cutA,lenA,aggA,rowA,appA,mkA,indA,bnd,srcA,sameOp,funcA,cvO,partA,aggD,↓PostP,resV,resAll,resOne,resVF,resAllF,resOneF,fitsAll,fitsR,fits,frz,Post,Nat.reduceBEq,Nat.reduceLT,reduceCtorEq,↓reduceIte,initS,AV.cellsOf,AV.fine,AV.one,repA,Nat.reduceMul,Nat.reduceAdd,Nat.reduceLeDiff,Nat.reduceEqDiff,Int.reduceToNat,Nat.reduceSub,Nat.reduceMod,Nat.reduceDiv,indexK.aggOf,Int.reducePow,Int.reduceLE,Int.reduceNeg,Int.reduceLT,Int.reduceBEq,Int.reduceBNe,Int.reduceEq,ownA,nilA,Try.facts,s3,s7,s8,s28,s29,s30,dT,dF,qT,qF,nT,nF,Bool.false_and,Bool.and_false,he]
        first | refine CallK.p (haw) ?_ | refine CallP.i (haw) ?_
        simp (disch := omega) only [↓runPre,runPost,fieldO,ixA,cutA,lenA,aggA,rowA,appA,mkA,indA,bnd,srcA,sameOp,funcA,cvO,partA,aggD,↓PostP,resV,resAll,resOne,resVF,resAllF,resOneF,fitsAll,fitsR,fits,frz,Post,Nat.reduceBEq,Nat.reduceLT,reduceCtorEq,↓reduceIte,initS,AV.cellsOf,AV.fine,AV.one,repA,Nat.reduceMul,Nat.reduceAdd,Nat.reduceLeDiff,Nat.reduceEqDiff,Int.reduceToNat,Nat.reduceSub,Nat.reduceMod,Nat.reduceDiv,indexK.aggOf,Int.reducePow,Int.reduceLE,Int.reduceNeg,Int.reduceLT,Int.reduceBEq,Int.reduceBNe,Int.reduceEq,ownA,nilA,Try.facts,s3,s7,s8,s28,s29,s30,dT,dF,qT,qF,nT,nF,Bool.false_and,Bool.and_false,he]
        exact hs3
end Go.Proofs.Ytgkpidbeoccpnaa
