/-
  The walks of the marks layer: the law of growth.
  Conditions: none. Lemmas only.
-/
import Derived.Test.YtgkpidbeoccpnaaMarY
set_option linter.all false
set_option linter.unusedSimpArgs false
set_option linter.unusedVariables false
set_option maxRecDepth 8000
set_option maxHeartbeats 4000000
namespace Go.Proofs.Ytgkpidbeoccpnaa
open Go Go.Abs Go.Proofs Go.Fug
theorem atL_get {N : List Nd} {j : Nat} {x : Nd} (h : (live N)[j]? = some x) : atL N (j : Nat) = (x.id,0) := by
  have hj := (List.getElem?_eq_some_iff.1 h).1
  unfold atL
  rw [if_pos (by omega),Int.toNat_natCast,h]
  rfl
theorem okA_live {L : List Ins} {G : List EId} (g : Fug.Good L) {x : Nd} (h : x ∈ live (nodes L G)) : okA x.id = true := by
  have h1 := (List.mem_filter.1 h).1
  have h2 : x.id ∈ L.map (·.id) := (mem_nodes g G).1 (List.mem_map.2 ⟨x,h1,rfl⟩)
  obtain ⟨i,hi,e⟩ := List.mem_map.1 h2
  have := g.ok i hi
  rw [← e]
  unfold okI at this
  unfold okA
  simp only [Bool.and_eq_true,decide_eq_true_eq,Bool.or_eq_true] at this ⊢
  omega
theorem mgrow_walk (E : List Ins) (D : List EId) (M : List Mk) (i0 : Int) (id : EId) : APure Try.prog 9 [pageV E D M,.sc (.int .i64 i0),idV id] (.sc (.bool true)) := by
  have haw := awake_pure
  have hf := few_pure E D M
  obtain ⟨d1,d2⟩ := id
  cases few : fewP E D M with
  | false =>
    rw [few] at hf
    refine apure_of_cwp (c := ⟨Try.prog,144,[(1000000,[5,3]),(1000008,[12]),(1000009,[14]),(1000012,[16]),(1000018,[21]),(4000020,[6]),(4000018,[5,19,20,21,117,118,119]),(4000014,[6]),(4000013,[5,7,9,18,107]),(4000012,[5,7,9,16,17,18]),(4000010,[1,5,7,9,89]),(4000009,[1,5,7,9,11,12,13,14,15]),(4000008,[1,5,7,9,11,12,13]),(4000007,[6]),(4000006,[1,3,5,7,9,10,11,49]),(4000004,[1,3,5,7,9,10]),(4000003,[1,3,5,7])],[],[]⟩) (rs := [ResultVar.tmp 6]) Try.mixed Try.func9 rfl rfl rfl (Nat.le_of_ble_eq_true rfl) (by kernel_rfl) fun H => ?_
    simp (disch := omega) only [↓runPre,runPost,fieldO,ixA,cutA,lenA,aggA,rowA,appA,mkA,indA,bnd,srcA,sameOp,funcA,cvO,partA,aggD,↓PostP,resV,resAll,resOne,resVF,resAllF,resOneF,fitsAll,fitsR,fits,frz,Post,Nat.reduceBEq,Nat.reduceLT,reduceCtorEq,↓reduceIte,initS,AV.cellsOf,AV.fine,AV.one,repA,Nat.reduceMul,Nat.reduceAdd,Nat.reduceLeDiff,Nat.reduceEqDiff,Int.reduceToNat,Nat.reduceSub,Nat.reduceMod,Nat.reduceDiv,indexK.aggOf,Int.reducePow,Int.reduceLE,Int.reduceNeg,Int.reduceLT,Int.reduceBEq,Int.reduceBNe,Int.reduceEq,ownA,nilA,Try.facts]
    intro k1 hk10 hk1 k2 hk20 hk2
    have hk2H := subset_set hk2
    simp (disch := omega) only [↓runPre,runPost,fieldO,ixA,cutA,lenA,aggA,rowA,appA,mkA,indA,bnd,srcA,sameOp,funcA,cvO,partA,aggD,↓PostP,resV,resAll,resOne,resVF,resAllF,resOneF,fitsAll,fitsR,fits,frz,Post,Nat.reduceBEq,Nat.reduceLT,reduceCtorEq,↓reduceIte,initS,AV.cellsOf,AV.fine,AV.one,repA,Nat.reduceMul,Nat.reduceAdd,Nat.reduceLeDiff,Nat.reduceEqDiff,Int.reduceToNat,Nat.reduceSub,Nat.reduceMod,Nat.reduceDiv,indexK.aggOf,Int.reducePow,Int.reduceLE,Int.reduceNeg,Int.reduceLT,Int.reduceBEq,Int.reduceBNe,Int.reduceEq,ownA,nilA,Try.facts,kill_box hk1,kill_box hk2,putCells_eq]
    first | refine CallK.p (hf) ?_ | refine CallP.i (hf) ?_
    simp (disch := omega) only [↓runPre,runPost,fieldO,ixA,cutA,lenA,aggA,rowA,appA,mkA,indA,bnd,srcA,sameOp,funcA,cvO,partA,aggD,↓PostP,resV,resAll,resOne,resVF,resAllF,resOneF,fitsAll,fitsR,fits,frz,Post,Nat.reduceBEq,Nat.reduceLT,reduceCtorEq,↓reduceIte,initS,AV.cellsOf,AV.fine,AV.one,repA,Nat.reduceMul,Nat.reduceAdd,Nat.reduceLeDiff,Nat.reduceEqDiff,Int.reduceToNat,Nat.reduceSub,Nat.reduceMod,Nat.reduceDiv,indexK.aggOf,Int.reducePow,Int.reduceLE,Int.reduceNeg,Int.reduceLT,Int.reduceBEq,Int.reduceBNe,Int.reduceEq,ownA,nilA,Try.facts]
    first | refine CallK.p (haw) ?_ | refine CallP.i (haw) ?_
    simp (disch := omega) only [↓runPre,runPost,fieldO,ixA,cutA,lenA,aggA,rowA,appA,mkA,indA,bnd,srcA,sameOp,funcA,cvO,partA,aggD,↓PostP,resV,resAll,resOne,resVF,resAllF,resOneF,fitsAll,fitsR,fits,frz,Post,Nat.reduceBEq,Nat.reduceLT,reduceCtorEq,↓reduceIte,initS,AV.cellsOf,AV.fine,AV.one,repA,Nat.reduceMul,Nat.reduceAdd,Nat.reduceLeDiff,Nat.reduceEqDiff,Int.reduceToNat,Nat.reduceSub,Nat.reduceMod,Nat.reduceDiv,indexK.aggOf,Int.reducePow,Int.reduceLE,Int.reduceNeg,Int.reduceLT,Int.reduceBEq,Int.reduceBNe,Int.reduceEq,ownA,nilA,Try.facts]
    exact Abs.Sub.refl _
  | true =>
    rw [few] at hf
    obtain ⟨hE,hD,hM⟩ : E.length ≤ 40 ∧ D.length ≤ 40 ∧ M.length ≤ 20 := by unfold fewP at few; simpa using few
    have hpt := fun H => ptext_live H E D M hE hD
    have hpb := fun H => pbook_live H E D M (by omega)
    have hbl := bookL_le M
    have hbg := bookL_good M
    unfold PText at hpt
    unfold PBook at hpb
    generalize bookL M = l at *
    have hll := mksC_length l
    refine apure_of_cwp (c := ⟨Try.prog,144,[(1000000,[5,3]),(1000008,[12]),(1000009,[14]),(1000012,[16]),(1000018,[21]),(4000020,[6]),(4000018,[5,19,20,21,117,118,119]),(4000014,[6]),(4000013,[5,7,9,18,107]),(4000012,[5,7,9,16,17,18]),(4000010,[1,5,7,9,89]),(4000009,[1,5,7,9,11,12,13,14,15]),(4000008,[1,5,7,9,11,12,13]),(4000007,[6]),(4000006,[1,3,5,7,9,10,11,49]),(4000004,[1,3,5,7,9,10]),(4000003,[1,3,5,7])],[],[]⟩) (rs := [ResultVar.tmp 6]) Try.mixed Try.func9 rfl rfl rfl (Nat.le_of_ble_eq_true rfl) (by kernel_rfl) fun H => ?_
    simp (disch := omega) only [↓runPre,runPost,fieldO,ixA,cutA,lenA,aggA,rowA,appA,mkA,indA,bnd,srcA,sameOp,funcA,cvO,partA,aggD,↓PostP,resV,resAll,resOne,resVF,resAllF,resOneF,fitsAll,fitsR,fits,frz,Post,Nat.reduceBEq,Nat.reduceLT,reduceCtorEq,↓reduceIte,initS,AV.cellsOf,AV.fine,AV.one,repA,Nat.reduceMul,Nat.reduceAdd,Nat.reduceLeDiff,Nat.reduceEqDiff,Int.reduceToNat,Nat.reduceSub,Nat.reduceMod,Nat.reduceDiv,indexK.aggOf,Int.reducePow,Int.reduceLE,Int.reduceNeg,Int.reduceLT,Int.reduceBEq,Int.reduceBNe,Int.reduceEq,ownA,nilA,Try.facts]
    intro k1 hk10 hk1 k2 hk20 hk2
    have hk2H := subset_set hk2
    simp (disch := omega) only [↓runPre,runPost,fieldO,ixA,cutA,lenA,aggA,rowA,appA,mkA,indA,bnd,srcA,sameOp,funcA,cvO,partA,aggD,↓PostP,resV,resAll,resOne,resVF,resAllF,resOneF,fitsAll,fitsR,fits,frz,Post,Nat.reduceBEq,Nat.reduceLT,reduceCtorEq,↓reduceIte,initS,AV.cellsOf,AV.fine,AV.one,repA,Nat.reduceMul,Nat.reduceAdd,Nat.reduceLeDiff,Nat.reduceEqDiff,Int.reduceToNat,Nat.reduceSub,Nat.reduceMod,Nat.reduceDiv,indexK.aggOf,Int.reducePow,Int.reduceLE,Int.reduceNeg,Int.reduceLT,Int.reduceBEq,Int.reduceBNe,Int.reduceEq,ownA,nilA,Try.facts,kill_box hk1,kill_box hk2,putCells_eq]
    first | refine CallK.p (hf) ?_ | refine CallP.i (hf) ?_
    simp (disch := omega) only [↓runPre,runPost,fieldO,ixA,cutA,lenA,aggA,rowA,appA,mkA,indA,bnd,srcA,sameOp,funcA,cvO,partA,aggD,↓PostP,resV,resAll,resOne,resVF,resAllF,resOneF,fitsAll,fitsR,fits,frz,Post,Nat.reduceBEq,Nat.reduceLT,reduceCtorEq,↓reduceIte,initS,AV.cellsOf,AV.fine,AV.one,repA,Nat.reduceMul,Nat.reduceAdd,Nat.reduceLeDiff,Nat.reduceEqDiff,Int.reduceToNat,Nat.reduceSub,Nat.reduceMod,Nat.reduceDiv,indexK.aggOf,Int.reducePow,Int.reduceLE,Int.reduceNeg,Int.reduceLT,Int.reduceBEq,Int.reduceBNe,Int.reduceEq,ownA,nilA,Try.facts]
    refine CallK.i (hpt _) ?_
    rintro v H1 ⟨h,m,L,G,rfl,hh,hm,hsa,t,hLE⟩
    simp (disch := omega) only [↓runPre,runPost,fieldO,ixA,cutA,lenA,aggA,rowA,appA,mkA,indA,bnd,srcA,sameOp,funcA,cvO,partA,aggD,↓PostP,resV,resAll,resOne,resVF,resAllF,resOneF,fitsAll,fitsR,fits,frz,Post,Nat.reduceBEq,Nat.reduceLT,reduceCtorEq,↓reduceIte,initS,AV.cellsOf,AV.fine,AV.one,repA,Nat.reduceMul,Nat.reduceAdd,Nat.reduceLeDiff,Nat.reduceEqDiff,Int.reduceToNat,Nat.reduceSub,Nat.reduceMod,Nat.reduceDiv,indexK.aggOf,Int.reducePow,Int.reduceLE,Int.reduceNeg,Int.reduceLT,Int.reduceBEq,Int.reduceBNe,Int.reduceEq,ownA,nilA,Try.facts]
    refine CallK.i (hpb _) ?_
    rintro v H2 ⟨hb,rfl,hb0,hbf,hsb,vb⟩
    have t2 := t.mono hsb
    have hs2 := hsa.trans hsb
    have q1 := ne_live t.hi hbf
    have q2 := ne_live t.hm hbf
    clear t hpt hpb
    have hlast := last_live H2 hb l vb hbg.small
    have hlen := len_live H2 h m L G t2
    have hlv : (live (nodes L G)).length = L.length - G.length := live_len t2.g t2.gs t2.gn
    rw [← hlv] at hlen
    have hlp := lastM_pos hbg
    have hLN := nodes_len t2.g G
    have hl40 : (live (nodes L G)).length ≤ 40 := by rw [hlv]; omega
    simp (disch := omega) only [↓runPre,runPost,fieldO,ixA,cutA,lenA,aggA,rowA,appA,mkA,indA,bnd,srcA,sameOp,funcA,cvO,partA,aggD,↓PostP,resV,resAll,resOne,resVF,resAllF,resOneF,fitsAll,fitsR,fits,frz,Post,Nat.reduceBEq,Nat.reduceLT,reduceCtorEq,↓reduceIte,initS,AV.cellsOf,AV.fine,AV.one,repA,Nat.reduceMul,Nat.reduceAdd,Nat.reduceLeDiff,Nat.reduceEqDiff,Int.reduceToNat,Nat.reduceSub,Nat.reduceMod,Nat.reduceDiv,indexK.aggOf,Int.reducePow,Int.reduceLE,Int.reduceNeg,Int.reduceLT,Int.reduceBEq,Int.reduceBNe,Int.reduceEq,ownA,nilA,Try.facts]
    refine CallK.i hlast ?_
    rintro v H3 ⟨rfl,rfl⟩
    by_cases hc : lastM l < 1099511627776 ∧ 1 ≤ i0 ∧ i0 < ((live (nodes L G)).length : Nat)
    · obtain ⟨k,rfl⟩ : ∃ k : Nat,i0 = k := ⟨i0.toNat,by omega⟩
      obtain ⟨hc1,hc2,hc3⟩ := hc
      have hk1 : k - 1 < (live (nodes L G)).length := by omega
      have hk2 : k < (live (nodes L G)).length := by omega
      obtain ⟨x,hx⟩ : ∃ x,(live (nodes L G))[k - 1]? = some x := ⟨_,List.getElem?_eq_getElem hk1⟩
      obtain ⟨y,hy⟩ : ∃ y,(live (nodes L G))[k]? = some y := ⟨_,List.getElem?_eq_getElem hk2⟩
      have hxA := okA_live t2.g (List.mem_of_getElem? hx)
      have hyA := okA_live t2.g (List.mem_of_getElem? hy)
      have had := add_last hbg (by omega) hxA hyA hc1
      have ha1 := at_live H3 h m L G ((k - 1 : Nat) : Int) t2
      have ha2 := at_live H3 h m L G (k : Int) t2
      have hkk : (k : Int) - 1 = ((k - 1 : Nat) : Int) := by omega
      rw [atL_get hx] at ha1
      rw [atL_get hy] at ha2
      have hbd := badd_live H3 hb l (lastMk (lastM l + 1) x.id y.id) vb hbg
      have hgw := hbg.add (lastMk (lastM l + 1) x.id y.id)
      obtain ⟨l2,hl2⟩ : ∃ l2,l ++ [lastMk (lastM l + 1) x.id y.id] = l2 := ⟨_,rfl⟩
      rw [hl2] at had
      rw [had] at hbd hgw
      clear had
      simp only [lastMk,mkC] at hbd hgw
      generalize hz0 : lastM l = z at *
      generalize hxi : x.id = xi at *
      generalize hyi : y.id = yi at *
      obtain ⟨x1,x2⟩ := xi
      obtain ⟨y1,y2⟩ := yi
      simp (disch := omega) only [↓runPre,runPost,fieldO,ixA,cutA,lenA,aggA,rowA,appA,mkA,indA,bnd,srcA,sameOp,funcA,cvO,partA,aggD,↓PostP,resV,resAll,resOne,resVF,resAllF,resOneF,fitsAll,fitsR,fits,frz,Post,Nat.reduceBEq,Nat.reduceLT,reduceCtorEq,↓reduceIte,initS,AV.cellsOf,AV.fine,AV.one,repA,Nat.reduceMul,Nat.reduceAdd,Nat.reduceLeDiff,Nat.reduceEqDiff,Int.reduceToNat,Nat.reduceSub,Nat.reduceMod,Nat.reduceDiv,indexK.aggOf,Int.reducePow,Int.reduceLE,Int.reduceNeg,Int.reduceLT,Int.reduceBEq,Int.reduceBNe,Int.reduceEq,ownA,nilA,Try.facts,dT,dF,qT,qF,nT,nF,Bool.false_and,Bool.and_false]
      refine CallK.i hlen ?_
      rintro v E1 ⟨rfl,rfl⟩
      simp (disch := omega) only [↓runPre,runPost,fieldO,ixA,cutA,lenA,aggA,rowA,appA,mkA,indA,bnd,srcA,sameOp,funcA,cvO,partA,aggD,↓PostP,resV,resAll,resOne,resVF,resAllF,resOneF,fitsAll,fitsR,fits,frz,Post,Nat.reduceBEq,Nat.reduceLT,reduceCtorEq,↓reduceIte,initS,AV.cellsOf,AV.fine,AV.one,repA,Nat.reduceMul,Nat.reduceAdd,Nat.reduceLeDiff,Nat.reduceEqDiff,Int.reduceToNat,Nat.reduceSub,Nat.reduceMod,Nat.reduceDiv,indexK.aggOf,Int.reducePow,Int.reduceLE,Int.reduceNeg,Int.reduceLT,Int.reduceBEq,Int.reduceBNe,Int.reduceEq,ownA,nilA,Try.facts,dT,dF,qT,qF,nT,nF,Bool.false_and,Bool.and_false]
      refine CallK.i ha1 ?_
      rintro v E1 ⟨rfl,rfl⟩
      simp (disch := omega) only [↓runPre,runPost,fieldO,ixA,cutA,lenA,aggA,rowA,appA,mkA,indA,bnd,srcA,sameOp,funcA,cvO,partA,aggD,↓PostP,resV,resAll,resOne,resVF,resAllF,resOneF,fitsAll,fitsR,fits,frz,Post,Nat.reduceBEq,Nat.reduceLT,reduceCtorEq,↓reduceIte,initS,AV.cellsOf,AV.fine,AV.one,repA,Nat.reduceMul,Nat.reduceAdd,Nat.reduceLeDiff,Nat.reduceEqDiff,Int.reduceToNat,Nat.reduceSub,Nat.reduceMod,Nat.reduceDiv,indexK.aggOf,Int.reducePow,Int.reduceLE,Int.reduceNeg,Int.reduceLT,Int.reduceBEq,Int.reduceBNe,Int.reduceEq,ownA,nilA,Try.facts,dT,dF,qT,qF,nT,nF,Bool.false_and,Bool.and_false]
      intro b12 hb120 hb12
      simp (disch := omega) only [↓runPre,runPost,fieldO,ixA,cutA,lenA,aggA,rowA,appA,mkA,indA,bnd,srcA,sameOp,funcA,cvO,partA,aggD,↓PostP,resV,resAll,resOne,resVF,resAllF,resOneF,fitsAll,fitsR,fits,frz,Post,Nat.reduceBEq,Nat.reduceLT,reduceCtorEq,↓reduceIte,initS,AV.cellsOf,AV.fine,AV.one,repA,Nat.reduceMul,Nat.reduceAdd,Nat.reduceLeDiff,Nat.reduceEqDiff,Int.reduceToNat,Nat.reduceSub,Nat.reduceMod,Nat.reduceDiv,indexK.aggOf,Int.reducePow,Int.reduceLE,Int.reduceNeg,Int.reduceLT,Int.reduceBEq,Int.reduceBNe,Int.reduceEq,ownA,nilA,Try.facts,dT,dF,qT,qF,nT,nF,Bool.false_and,Bool.and_false,kill_box hb12,putCells_eq]
      refine CallK.i ha2 ?_
      rintro v E1 ⟨rfl,rfl⟩
      simp (disch := omega) only [↓runPre,runPost,fieldO,ixA,cutA,lenA,aggA,rowA,appA,mkA,indA,bnd,srcA,sameOp,funcA,cvO,partA,aggD,↓PostP,resV,resAll,resOne,resVF,resAllF,resOneF,fitsAll,fitsR,fits,frz,Post,Nat.reduceBEq,Nat.reduceLT,reduceCtorEq,↓reduceIte,initS,AV.cellsOf,AV.fine,AV.one,repA,Nat.reduceMul,Nat.reduceAdd,Nat.reduceLeDiff,Nat.reduceEqDiff,Int.reduceToNat,Nat.reduceSub,Nat.reduceMod,Nat.reduceDiv,indexK.aggOf,Int.reducePow,Int.reduceLE,Int.reduceNeg,Int.reduceLT,Int.reduceBEq,Int.reduceBNe,Int.reduceEq,ownA,nilA,Try.facts,dT,dF,qT,qF,nT,nF,Bool.false_and,Bool.and_false]
      intro b14 hb140 hb14
      simp (disch := omega) only [↓runPre,runPost,fieldO,ixA,cutA,lenA,aggA,rowA,appA,mkA,indA,bnd,srcA,sameOp,funcA,cvO,partA,aggD,↓PostP,resV,resAll,resOne,resVF,resAllF,resOneF,fitsAll,fitsR,fits,frz,Post,Nat.reduceBEq,Nat.reduceLT,reduceCtorEq,↓reduceIte,initS,AV.cellsOf,AV.fine,AV.one,repA,Nat.reduceMul,Nat.reduceAdd,Nat.reduceLeDiff,Nat.reduceEqDiff,Int.reduceToNat,Nat.reduceSub,Nat.reduceMod,Nat.reduceDiv,indexK.aggOf,Int.reducePow,Int.reduceLE,Int.reduceNeg,Int.reduceLT,Int.reduceBEq,Int.reduceBNe,Int.reduceEq,ownA,nilA,Try.facts,dT,dF,qT,qF,nT,nF,Bool.false_and,Bool.and_false,kill_box hb14,putCells_eq]
      refine CallK.i hbd ?_
      rintro v H4 ⟨rfl,vb4,fr⟩
      have t4 : IsT H4 h m L G := ⟨fr _ _ q1 t2.hi,⟨t2.ord,t2.perm,fr _ _ q2 t2.hm⟩,t2.g,t2.gs,t2.gn,t2.small⟩
      have hbH := hsa.free hbf
      have hs4 : Abs.Sub H H4 := fun y o hy => fr y o (ne_live hy hbH) (hs2 _ _ hy)
      obtain ⟨ha,hka⟩ := planA_ok (G := G) t4.g (Nat.le_of_lt hk2)
      have hp := plan_live H4 h m L G (k : Int) t4
      have hpl : ∃ p r,planL L G (k : Int) = (p,r,0) ∧ ((kids L (planA (nodes L G) k) true = [] ∧ p = planA (nodes L G) k ∧ r = true) ∨ (kids L (planA (nodes L G) k) true ≠ [] ∧ p = planZ L G (planA (nodes L G) k) ∧ r = false)) := by
        unfold planL
        rw [if_pos (by omega),Int.toNat_natCast]
        by_cases e : kids L (planA (nodes L G) k) true = []
        · rw [if_pos e]; exact ⟨_,_,rfl,.inl ⟨e,rfl,rfl⟩⟩
        · rw [if_neg e]; exact ⟨_,_,rfl,.inr ⟨e,rfl,rfl⟩⟩
      obtain ⟨⟨p1,p2⟩,r,hpe,hpr⟩ := hpl
      rw [hpe] at hp
      have hadd := add_live H4 h m L G ⟨(d1,d2),(p1,p2),r,110⟩ t4
      unfold AddR at hadd
      have hL2 : (addL L ⟨(d1,d2),(p1,p2),r,110⟩).2 = 0 → (addL L ⟨(d1,d2),(p1,p2),r,110⟩).1 = L ++ [⟨(d1,d2),(p1,p2),r,110⟩] := by
        unfold addL
        split
        · intro h; cases h
        · split
          · intro h; cases h
          · split
            · intro h; cases h
            · split
              · intro h; cases h
              · intro _; rfl
      simp only [insC] at hadd
      generalize hA : addL L ⟨(d1,d2),(p1,p2),r,110⟩ = A at *
      obtain ⟨L2,e⟩ := A
      simp only [] at hadd hL2
      simp (disch := omega) only [↓runPre,runPost,fieldO,ixA,cutA,lenA,aggA,rowA,appA,mkA,indA,bnd,srcA,sameOp,funcA,cvO,partA,aggD,↓PostP,resV,resAll,resOne,resVF,resAllF,resOneF,fitsAll,fitsR,fits,frz,Post,Nat.reduceBEq,Nat.reduceLT,reduceCtorEq,↓reduceIte,initS,AV.cellsOf,AV.fine,AV.one,repA,Nat.reduceMul,Nat.reduceAdd,Nat.reduceLeDiff,Nat.reduceEqDiff,Int.reduceToNat,Nat.reduceSub,Nat.reduceMod,Nat.reduceDiv,indexK.aggOf,Int.reducePow,Int.reduceLE,Int.reduceNeg,Int.reduceLT,Int.reduceBEq,Int.reduceBNe,Int.reduceEq,ownA,nilA,Try.facts,dT,dF,qT,qF,nT,nF,Bool.false_and,Bool.and_false,bne_self_eq_false]
      refine CallK.i hp ?_
      rintro v E1 ⟨rfl,rfl⟩
      simp (disch := omega) only [↓runPre,runPost,fieldO,ixA,cutA,lenA,aggA,rowA,appA,mkA,indA,bnd,srcA,sameOp,funcA,cvO,partA,aggD,↓PostP,resV,resAll,resOne,resVF,resAllF,resOneF,fitsAll,fitsR,fits,frz,Post,Nat.reduceBEq,Nat.reduceLT,reduceCtorEq,↓reduceIte,initS,AV.cellsOf,AV.fine,AV.one,repA,Nat.reduceMul,Nat.reduceAdd,Nat.reduceLeDiff,Nat.reduceEqDiff,Int.reduceToNat,Nat.reduceSub,Nat.reduceMod,Nat.reduceDiv,indexK.aggOf,Int.reducePow,Int.reduceLE,Int.reduceNeg,Int.reduceLT,Int.reduceBEq,Int.reduceBNe,Int.reduceEq,ownA,nilA,Try.facts,dT,dF,qT,qF,nT,nF,Bool.false_and,Bool.and_false]
      intro b16 hb160 hb16
      simp (disch := omega) only [↓runPre,runPost,fieldO,ixA,cutA,lenA,aggA,rowA,appA,mkA,indA,bnd,srcA,sameOp,funcA,cvO,partA,aggD,↓PostP,resV,resAll,resOne,resVF,resAllF,resOneF,fitsAll,fitsR,fits,frz,Post,Nat.reduceBEq,Nat.reduceLT,reduceCtorEq,↓reduceIte,initS,AV.cellsOf,AV.fine,AV.one,repA,Nat.reduceMul,Nat.reduceAdd,Nat.reduceLeDiff,Nat.reduceEqDiff,Int.reduceToNat,Nat.reduceSub,Nat.reduceMod,Nat.reduceDiv,indexK.aggOf,Int.reducePow,Int.reduceLE,Int.reduceNeg,Int.reduceLT,Int.reduceBEq,Int.reduceBNe,Int.reduceEq,ownA,nilA,Try.facts,dT,dF,qT,qF,nT,nF,Bool.false_and,Bool.and_false,kill_box hb16,putCells_eq]
      refine CallK.i hadd ?_
      rintro v H5 ⟨rfl,t5,fr5⟩
      have hs5 : Abs.Sub H H5 := fun y o hy => by rw [fr5 y (ne_live hy hm)]; exact hs4 _ _ hy
      by_cases he : e = 0
      · subst he
        obtain rfl := hL2 rfl
        have vb5 : H5 hb = _ := (fr5 hb (fun e => q2 e.symm)).trans vb4
        have hst := styles_live H5 hb _ vb5 hgw h m _ G t5
        have hno := nodes_live H5 h m _ G t5
        obtain ⟨j,hj,hjid,hjno,hj9⟩ := grow_style hbg t4.g t5.g (by omega) hx hy hpr
        rw [hz0,hxi,hyi,hl2] at hj9
        have hN5 := nodes_len t5.g G
        have hsm5 := t5.small
        generalize nodes (L ++ [(⟨(d1,d2),(p1,p2),r,110⟩ : Ins)]) G = ns at *
        have hTl := tabC_length ns.length (styF (idsNd ns) l2)
        have hTj : (tabC ns.length (styF (idsNd ns) l2))[j * 5 + 2]? = some (.sc (.int .i64 9)) := by
          rw [tabC_get (by omega),show (j * 5 + 2) / 5 = j by omega,show (j * 5 + 2) % 5 = 2 by omega,sty_best ns l2 hgw j 2 hj]
          have e9 : (bestN ns l2 j ((2 : Nat) : Int)).value = 9 := hj9
          rw [e9]
        generalize tabC ns.length (styF (idsNd ns) l2) = T at *
        have hnl := ndsC_length ns
        have hle2 : j * 5 + 2 < ns.length * 5 := by omega
        simp (disch := omega) only [↓runPre,runPost,fieldO,ixA,cutA,lenA,aggA,rowA,appA,mkA,indA,bnd,srcA,sameOp,funcA,cvO,partA,aggD,↓PostP,resV,resAll,resOne,resVF,resAllF,resOneF,fitsAll,fitsR,fits,frz,Post,Nat.reduceBEq,Nat.reduceLT,reduceCtorEq,↓reduceIte,initS,AV.cellsOf,AV.fine,AV.one,repA,Nat.reduceMul,Nat.reduceAdd,Nat.reduceLeDiff,Nat.reduceEqDiff,Int.reduceToNat,Nat.reduceSub,Nat.reduceMod,Nat.reduceDiv,indexK.aggOf,Int.reducePow,Int.reduceLE,Int.reduceNeg,Int.reduceLT,Int.reduceBEq,Int.reduceBNe,Int.reduceEq,ownA,nilA,Try.facts,dT,dF,qT,qF,nT,nF,Bool.false_and,Bool.and_false,bne_self_eq_false]
        refine CallK.i hst ?_
        rintro v E2 ⟨rfl,rfl⟩
        simp (disch := omega) only [↓runPre,runPost,fieldO,ixA,cutA,lenA,aggA,rowA,appA,mkA,indA,bnd,srcA,sameOp,funcA,cvO,partA,aggD,↓PostP,resV,resAll,resOne,resVF,resAllF,resOneF,fitsAll,fitsR,fits,frz,Post,Nat.reduceBEq,Nat.reduceLT,reduceCtorEq,↓reduceIte,initS,AV.cellsOf,AV.fine,AV.one,repA,Nat.reduceMul,Nat.reduceAdd,Nat.reduceLeDiff,Nat.reduceEqDiff,Int.reduceToNat,Nat.reduceSub,Nat.reduceMod,Nat.reduceDiv,indexK.aggOf,Int.reducePow,Int.reduceLE,Int.reduceNeg,Int.reduceLT,Int.reduceBEq,Int.reduceBNe,Int.reduceEq,ownA,nilA,Try.facts,dT,dF,qT,qF,nT,nF,Bool.false_and,Bool.and_false]
        refine CallK.i hno ?_
        rintro v E2 ⟨rfl,rfl⟩
        simp (disch := omega) only [↓runPre,runPost,fieldO,ixA,cutA,lenA,aggA,rowA,appA,mkA,indA,bnd,srcA,sameOp,funcA,cvO,partA,aggD,↓PostP,resV,resAll,resOne,resVF,resAllF,resOneF,fitsAll,fitsR,fits,frz,Post,Nat.reduceBEq,Nat.reduceLT,reduceCtorEq,↓reduceIte,initS,AV.cellsOf,AV.fine,AV.one,repA,Nat.reduceMul,Nat.reduceAdd,Nat.reduceLeDiff,Nat.reduceEqDiff,Int.reduceToNat,Nat.reduceSub,Nat.reduceMod,Nat.reduceDiv,indexK.aggOf,Int.reducePow,Int.reduceLE,Int.reduceNeg,Int.reduceLT,Int.reduceBEq,Int.reduceBNe,Int.reduceEq,ownA,nilA,Try.facts,dT,dF,qT,qF,nT,nF,Bool.false_and,Bool.and_false]
        refine loop_t (c := ⟨Try.prog,144,[(1000000,[5,3]),(1000008,[12]),(1000009,[14]),(1000012,[16]),(1000018,[21]),(4000020,[6]),(4000018,[5,19,20,21,117,118,119]),(4000014,[6]),(4000013,[5,7,9,18,107]),(4000012,[5,7,9,16,17,18]),(4000010,[1,5,7,9,89]),(4000009,[1,5,7,9,11,12,13,14,15]),(4000008,[1,5,7,9,11,12,13]),(4000007,[6]),(4000006,[1,3,5,7,9,10,11,49]),(4000004,[1,3,5,7,9,10]),(4000003,[1,3,5,7])],[],[]⟩) Try.mixed (by kernel_rfl) (fun mm σ H' => H' = E2 ∧ ∃ i : Nat,i + mm = ns.length ∧ i ≤ j ∧
          σ 5 = .ip [.sc (.int .i64 d1),.sc (.int .i64 d2)] 0 ∧ σ 19 = .imm 0 T ns.length ∧ σ 117 = ndsV ns ∧ σ 118 = .sc (.int .i64 ns.length) ∧ σ 119 = .sc (.int .i64 (i : Nat))) ns.length ?_ ?_
        · refine ⟨rfl,0,by omega,by omega,?_⟩
          simp (disch := omega) only [↓runPre,runPost,fieldO,ixA,cutA,lenA,aggA,rowA,appA,mkA,indA,bnd,srcA,sameOp,funcA,cvO,partA,aggD,↓PostP,resV,resAll,resOne,resVF,resAllF,resOneF,fitsAll,fitsR,fits,frz,Post,Nat.reduceBEq,Nat.reduceLT,reduceCtorEq,↓reduceIte,initS,AV.cellsOf,AV.fine,AV.one,repA,Nat.reduceMul,Nat.reduceAdd,Nat.reduceLeDiff,Nat.reduceEqDiff,Int.reduceToNat,Nat.reduceSub,Nat.reduceMod,Nat.reduceDiv,indexK.aggOf,Int.reducePow,Int.reduceLE,Int.reduceNeg,Int.reduceLT,Int.reduceBEq,Int.reduceBNe,Int.reduceEq,ownA,nilA,Try.facts]
          try rfl
        · rintro mm σ H' ⟨rfl,i,him,hij,s5,s19,s117,s118,s119⟩
          have hlt : i < ns.length := by omega
          have hld := ndsC_load hlt
          have hle : i * 4 + 4 ≤ ns.length * 4 := by omega
          by_cases e : i = j
          · subst e
            generalize ns[i] = nd at *
            obtain ⟨⟨n1,n2⟩,nu,ng⟩ := nd
            simp only [Prod.mk.injEq] at hjid
            obtain ⟨rfl,rfl⟩ := hjid
            simp only [ndC] at hld
            simp (disch := omega) only [↓runPre,runPost,fieldO,ixA,cutA,lenA,aggA,rowA,appA,mkA,indA,bnd,srcA,sameOp,funcA,cvO,partA,aggD,↓PostP,resV,resAll,resOne,resVF,resAllF,resOneF,fitsAll,fitsR,fits,frz,Post,Nat.reduceBEq,Nat.reduceLT,reduceCtorEq,↓reduceIte,initS,AV.cellsOf,AV.fine,AV.one,repA,Nat.reduceMul,Nat.reduceAdd,Nat.reduceLeDiff,Nat.reduceEqDiff,Int.reduceToNat,Nat.reduceSub,Nat.reduceMod,Nat.reduceDiv,indexK.aggOf,Int.reducePow,Int.reduceLE,Int.reduceNeg,Int.reduceLT,Int.reduceBEq,Int.reduceBNe,Int.reduceEq,ownA,nilA,Try.facts,s5,s19,s117,s118,s119,dT,dF,qT,qF,nT,nF,Bool.false_and,Bool.and_false,hld,hle,hnl]
            intro b21 hb210 hb21
            simp (disch := omega) only [↓runPre,runPost,fieldO,ixA,cutA,lenA,aggA,rowA,appA,mkA,indA,bnd,srcA,sameOp,funcA,cvO,partA,aggD,↓PostP,resV,resAll,resOne,resVF,resAllF,resOneF,fitsAll,fitsR,fits,frz,Post,Nat.reduceBEq,Nat.reduceLT,reduceCtorEq,↓reduceIte,initS,AV.cellsOf,AV.fine,AV.one,repA,Nat.reduceMul,Nat.reduceAdd,Nat.reduceLeDiff,Nat.reduceEqDiff,Int.reduceToNat,Nat.reduceSub,Nat.reduceMod,Nat.reduceDiv,indexK.aggOf,Int.reducePow,Int.reduceLE,Int.reduceNeg,Int.reduceLT,Int.reduceBEq,Int.reduceBNe,Int.reduceEq,ownA,nilA,Try.facts,s5,s19,s117,s118,s119,dT,dF,qT,qF,nT,nF,Bool.false_and,Bool.and_false,kill_box hb21,putCells_eq,beq_self_eq_true,hTj,hle2,hTl]
            first | refine CallK.p (haw) ?_ | refine CallP.i (haw) ?_
            simp (disch := omega) only [↓runPre,runPost,fieldO,ixA,cutA,lenA,aggA,rowA,appA,mkA,indA,bnd,srcA,sameOp,funcA,cvO,partA,aggD,↓PostP,resV,resAll,resOne,resVF,resAllF,resOneF,fitsAll,fitsR,fits,frz,Post,Nat.reduceBEq,Nat.reduceLT,reduceCtorEq,↓reduceIte,initS,AV.cellsOf,AV.fine,AV.one,repA,Nat.reduceMul,Nat.reduceAdd,Nat.reduceLeDiff,Nat.reduceEqDiff,Int.reduceToNat,Nat.reduceSub,Nat.reduceMod,Nat.reduceDiv,indexK.aggOf,Int.reducePow,Int.reduceLE,Int.reduceNeg,Int.reduceLT,Int.reduceBEq,Int.reduceBNe,Int.reduceEq,ownA,nilA,Try.facts,s5,s19,s117,s118,s119,dT,dF,qT,qF,nT,nF,Bool.false_and,Bool.and_false]
            exact hs5
          · have hne := hjno i hlt (by omega)
            generalize ns[i] = nd at *
            obtain ⟨⟨n1,n2⟩,nu,ng⟩ := nd
            simp only [ndC] at hld
            have hq : (n1 == d1 && n2 == d2) = false := by
              cases h : (n1 == d1 && n2 == d2) with
              | false => rfl
              | true =>
                simp only [Bool.and_eq_true,beq_iff_eq] at h
                exact absurd (Prod.ext h.1 h.2) hne
            simp (disch := omega) only [↓runPre,runPost,fieldO,ixA,cutA,lenA,aggA,rowA,appA,mkA,indA,bnd,srcA,sameOp,funcA,cvO,partA,aggD,↓PostP,resV,resAll,resOne,resVF,resAllF,resOneF,fitsAll,fitsR,fits,frz,Post,Nat.reduceBEq,Nat.reduceLT,reduceCtorEq,↓reduceIte,initS,AV.cellsOf,AV.fine,AV.one,repA,Nat.reduceMul,Nat.reduceAdd,Nat.reduceLeDiff,Nat.reduceEqDiff,Int.reduceToNat,Nat.reduceSub,Nat.reduceMod,Nat.reduceDiv,indexK.aggOf,Int.reducePow,Int.reduceLE,Int.reduceNeg,Int.reduceLT,Int.reduceBEq,Int.reduceBNe,Int.reduceEq,ownA,nilA,Try.facts,s5,s19,s117,s118,s119,dT,dF,qT,qF,nT,nF,Bool.false_and,Bool.and_false,hld,hle,hnl]
            intro b21 hb210 hb21
            simp (disch := omega) only [↓runPre,runPost,fieldO,ixA,cutA,lenA,aggA,rowA,appA,mkA,indA,bnd,srcA,sameOp,funcA,cvO,partA,aggD,↓PostP,resV,resAll,resOne,resVF,resAllF,resOneF,fitsAll,fitsR,fits,frz,Post,Nat.reduceBEq,Nat.reduceLT,reduceCtorEq,↓reduceIte,initS,AV.cellsOf,AV.fine,AV.one,repA,Nat.reduceMul,Nat.reduceAdd,Nat.reduceLeDiff,Nat.reduceEqDiff,Int.reduceToNat,Nat.reduceSub,Nat.reduceMod,Nat.reduceDiv,indexK.aggOf,Int.reducePow,Int.reduceLE,Int.reduceNeg,Int.reduceLT,Int.reduceBEq,Int.reduceBNe,Int.reduceEq,ownA,nilA,Try.facts,s5,s19,s117,s118,s119,dT,dF,nT,nF,kill_box hb21,putCells_eq,hq]
            exact ⟨mm - 1,by omega,i + 1,by omega,by omega,rfl⟩
      · simp (disch := omega) only [↓runPre,runPost,fieldO,ixA,cutA,lenA,aggA,rowA,appA,mkA,indA,bnd,srcA,sameOp,funcA,cvO,partA,aggD,↓PostP,resV,resAll,resOne,resVF,resAllF,resOneF,fitsAll,fitsR,fits,frz,Post,Nat.reduceBEq,Nat.reduceLT,reduceCtorEq,↓reduceIte,initS,AV.cellsOf,AV.fine,AV.one,repA,Nat.reduceMul,Nat.reduceAdd,Nat.reduceLeDiff,Nat.reduceEqDiff,Int.reduceToNat,Nat.reduceSub,Nat.reduceMod,Nat.reduceDiv,indexK.aggOf,Int.reducePow,Int.reduceLE,Int.reduceNeg,Int.reduceLT,Int.reduceBEq,Int.reduceBNe,Int.reduceEq,ownA,nilA,Try.facts,dT,dF,qT,qF,nT,nF,Bool.false_and,Bool.and_false]
        first | refine CallK.p (haw) ?_ | refine CallP.i (haw) ?_
        simp (disch := omega) only [↓runPre,runPost,fieldO,ixA,cutA,lenA,aggA,rowA,appA,mkA,indA,bnd,srcA,sameOp,funcA,cvO,partA,aggD,↓PostP,resV,resAll,resOne,resVF,resAllF,resOneF,fitsAll,fitsR,fits,frz,Post,Nat.reduceBEq,Nat.reduceLT,reduceCtorEq,↓reduceIte,initS,AV.cellsOf,AV.fine,AV.one,repA,Nat.reduceMul,Nat.reduceAdd,Nat.reduceLeDiff,Nat.reduceEqDiff,Int.reduceToNat,Nat.reduceSub,Nat.reduceMod,Nat.reduceDiv,indexK.aggOf,Int.reducePow,Int.reduceLE,Int.reduceNeg,Int.reduceLT,Int.reduceBEq,Int.reduceBNe,Int.reduceEq,ownA,nilA,Try.facts,dT,dF,qT,qF,nT,nF,Bool.false_and,Bool.and_false]
        exact hs5
    · have hfew : l.length ≤ M.length := hbl
      by_cases c1 : 1099511627776 ≤ lastM l
      · simp (disch := omega) only [↓runPre,runPost,fieldO,ixA,cutA,lenA,aggA,rowA,appA,mkA,indA,bnd,srcA,sameOp,funcA,cvO,partA,aggD,↓PostP,resV,resAll,resOne,resVF,resAllF,resOneF,fitsAll,fitsR,fits,frz,Post,Nat.reduceBEq,Nat.reduceLT,reduceCtorEq,↓reduceIte,initS,AV.cellsOf,AV.fine,AV.one,repA,Nat.reduceMul,Nat.reduceAdd,Nat.reduceLeDiff,Nat.reduceEqDiff,Int.reduceToNat,Nat.reduceSub,Nat.reduceMod,Nat.reduceDiv,indexK.aggOf,Int.reducePow,Int.reduceLE,Int.reduceNeg,Int.reduceLT,Int.reduceBEq,Int.reduceBNe,Int.reduceEq,ownA,nilA,Try.facts,dT,dF,qT,qF,nT,nF,Bool.false_and,Bool.and_false,hll]
        first | refine CallK.p (haw) ?_ | refine CallP.i (haw) ?_
        simp (disch := omega) only [↓runPre,runPost,fieldO,ixA,cutA,lenA,aggA,rowA,appA,mkA,indA,bnd,srcA,sameOp,funcA,cvO,partA,aggD,↓PostP,resV,resAll,resOne,resVF,resAllF,resOneF,fitsAll,fitsR,fits,frz,Post,Nat.reduceBEq,Nat.reduceLT,reduceCtorEq,↓reduceIte,initS,AV.cellsOf,AV.fine,AV.one,repA,Nat.reduceMul,Nat.reduceAdd,Nat.reduceLeDiff,Nat.reduceEqDiff,Int.reduceToNat,Nat.reduceSub,Nat.reduceMod,Nat.reduceDiv,indexK.aggOf,Int.reducePow,Int.reduceLE,Int.reduceNeg,Int.reduceLT,Int.reduceBEq,Int.reduceBNe,Int.reduceEq,ownA,nilA,Try.facts,dT,dF,qT,qF,nT,nF,Bool.false_and,Bool.and_false]
        exact hs2
      · by_cases c2 : i0 < 1
        · simp (disch := omega) only [↓runPre,runPost,fieldO,ixA,cutA,lenA,aggA,rowA,appA,mkA,indA,bnd,srcA,sameOp,funcA,cvO,partA,aggD,↓PostP,resV,resAll,resOne,resVF,resAllF,resOneF,fitsAll,fitsR,fits,frz,Post,Nat.reduceBEq,Nat.reduceLT,reduceCtorEq,↓reduceIte,initS,AV.cellsOf,AV.fine,AV.one,repA,Nat.reduceMul,Nat.reduceAdd,Nat.reduceLeDiff,Nat.reduceEqDiff,Int.reduceToNat,Nat.reduceSub,Nat.reduceMod,Nat.reduceDiv,indexK.aggOf,Int.reducePow,Int.reduceLE,Int.reduceNeg,Int.reduceLT,Int.reduceBEq,Int.reduceBNe,Int.reduceEq,ownA,nilA,Try.facts,dT,dF,qT,qF,nT,nF,Bool.false_and,Bool.and_false,hll]
          first | refine CallK.p (haw) ?_ | refine CallP.i (haw) ?_
          simp (disch := omega) only [↓runPre,runPost,fieldO,ixA,cutA,lenA,aggA,rowA,appA,mkA,indA,bnd,srcA,sameOp,funcA,cvO,partA,aggD,↓PostP,resV,resAll,resOne,resVF,resAllF,resOneF,fitsAll,fitsR,fits,frz,Post,Nat.reduceBEq,Nat.reduceLT,reduceCtorEq,↓reduceIte,initS,AV.cellsOf,AV.fine,AV.one,repA,Nat.reduceMul,Nat.reduceAdd,Nat.reduceLeDiff,Nat.reduceEqDiff,Int.reduceToNat,Nat.reduceSub,Nat.reduceMod,Nat.reduceDiv,indexK.aggOf,Int.reducePow,Int.reduceLE,Int.reduceNeg,Int.reduceLT,Int.reduceBEq,Int.reduceBNe,Int.reduceEq,ownA,nilA,Try.facts,dT,dF,qT,qF,nT,nF,Bool.false_and,Bool.and_false]
          exact hs2
        · simp (disch := omega) only [↓runPre,runPost,fieldO,ixA,cutA,lenA,aggA,rowA,appA,mkA,indA,bnd,srcA,sameOp,funcA,cvO,partA,aggD,↓PostP,resV,resAll,resOne,resVF,resAllF,resOneF,fitsAll,fitsR,fits,frz,Post,Nat.reduceBEq,Nat.reduceLT,reduceCtorEq,↓reduceIte,initS,AV.cellsOf,AV.fine,AV.one,repA,Nat.reduceMul,Nat.reduceAdd,Nat.reduceLeDiff,Nat.reduceEqDiff,Int.reduceToNat,Nat.reduceSub,Nat.reduceMod,Nat.reduceDiv,indexK.aggOf,Int.reducePow,Int.reduceLE,Int.reduceNeg,Int.reduceLT,Int.reduceBEq,Int.reduceBNe,Int.reduceEq,ownA,nilA,Try.facts,dT,dF,qT,qF,nT,nF,Bool.false_and,Bool.and_false,hll]
          refine CallK.i hlen ?_
          rintro v E1 ⟨rfl,rfl⟩
          simp (disch := omega) only [↓runPre,runPost,fieldO,ixA,cutA,lenA,aggA,rowA,appA,mkA,indA,bnd,srcA,sameOp,funcA,cvO,partA,aggD,↓PostP,resV,resAll,resOne,resVF,resAllF,resOneF,fitsAll,fitsR,fits,frz,Post,Nat.reduceBEq,Nat.reduceLT,reduceCtorEq,↓reduceIte,initS,AV.cellsOf,AV.fine,AV.one,repA,Nat.reduceMul,Nat.reduceAdd,Nat.reduceLeDiff,Nat.reduceEqDiff,Int.reduceToNat,Nat.reduceSub,Nat.reduceMod,Nat.reduceDiv,indexK.aggOf,Int.reducePow,Int.reduceLE,Int.reduceNeg,Int.reduceLT,Int.reduceBEq,Int.reduceBNe,Int.reduceEq,ownA,nilA,Try.facts,dT,dF,qT,qF,nT,nF,Bool.false_and,Bool.and_false,hll]
          first | refine CallK.p (haw) ?_ | refine CallP.i (haw) ?_
          simp (disch := omega) only [↓runPre,runPost,fieldO,ixA,cutA,lenA,aggA,rowA,appA,mkA,indA,bnd,srcA,sameOp,funcA,cvO,partA,aggD,↓PostP,resV,resAll,resOne,resVF,resAllF,resOneF,fitsAll,fitsR,fits,frz,Post,Nat.reduceBEq,Nat.reduceLT,reduceCtorEq,↓reduceIte,initS,AV.cellsOf,AV.fine,AV.one,repA,Nat.reduceMul,Nat.reduceAdd,Nat.reduceLeDiff,Nat.reduceEqDiff,Int.reduceToNat,Nat.reduceSub,Nat.reduceMod,Nat.reduceDiv,indexK.aggOf,Int.reducePow,Int.reduceLE,Int.reduceNeg,Int.reduceLT,Int.reduceBEq,Int.reduceBNe,Int.reduceEq,ownA,nilA,Try.facts,dT,dF,qT,qF,nT,nF,Bool.false_and,Bool.and_false]
          exact hs2
end Go.Proofs.Ytgkpidbeoccpnaa
