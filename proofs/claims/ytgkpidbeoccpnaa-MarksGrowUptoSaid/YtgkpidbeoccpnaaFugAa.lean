/-
  The walks of the fugue layer: the element at a place.
  Conditions: none. Lemmas only.
-/
import Derived.Test.YtgkpidbeoccpnaaFugG5
set_option linter.all false
set_option linter.unusedSimpArgs false
set_option linter.unusedVariables false
set_option maxRecDepth 8000
set_option maxHeartbeats 4000000
namespace Go.Proofs.Ytgkpidbeoccpnaa
open Go Go.Abs Go.Proofs Go.Fug
theorem frame_gen {Hc H1 Hc2 H2 : AH} (K : Nat → Prop) (hs : Abs.Sub Hc H1) (h1 : ∀ x,K x → Hc x ≠ none) (h2 : ∀ x,¬ K x → Hc2 x = Hc x ∧ H2 x = H1 x) (h3 : ∀ x,K x → H2 x = Hc2 x) : FrameStep Hc H1 Hc2 H2 := by
  refine ⟨fun x o hx => ?_,fun x o hx hc => ?_⟩
  · by_cases hk : K x
    · rw [h3 x hk]; exact hx
    · rw [(h2 x hk).2]; exact hs x o (by rw [← (h2 x hk).1]; exact hx)
  · have hk : ¬ K x := fun hk => h1 x hk hc
    exact ⟨by rw [(h2 x hk).2]; exact hx,by rw [(h2 x hk).1]; exact hc⟩
/-- the element at a place, of those that are live -/
def atL (N : List Nd) (i : Int) : EId × Int := if 0 ≤ i ∧ i < ((live N).length : Nat) then ((((live N)[i.toNat]?).map (·.id)).getD root,0) else (root,6)
abbrev atV (p : EId × Int) : AV := .tup [idV p.1,.sc (.int .i64 p.2)]
theorem live_append (l r : List Nd) : live (l ++ r) = live l ++ live r := by simp [live]
abbrev atH (H : AH) (b3 b4 b5 : Nat) (i : Int) (x : EId) (e : Int) : AH := ((H.set b3 (.cells [.sc (.int .i64 i)] 3 1)).set b4 (.cells [.sc (.int .i64 x.1),.sc (.int .i64 x.2)] 27 2)).set b5 (.cells [.sc (.int .i64 e)] 32 1)
theorem at_live (H : AH) (h m : Nat) (L : List Ins) (G : List EId) (i : Int) (t : IsT H h m L G) : ACalls Try.prog 32 [.ptr h 0,.sc (.int .i64 i)] H fun v H' => v = atV (atL (nodes L G) i) ∧ H' = H := by
  have hit := all_iter h m L G t.g t.small
  have hnl := nodes_le G t.g.nd (by have := t.small; omega)
  have hal := fun H' => all_live H' h
  have hln := fun H' (t : IsT H' h m L G) => len_live H' h m L G t
  have hll : (live (nodes L G)).length = L.length - G.length := live_len t.g t.gs t.gn
  have hi := t.hi
  have hm := t.hm
  have hsm := t.small
  unfold atL
  refine acalls_of_cwp (c := ⟨Try.prog,30,[(1,[1,0,0,0,0,2,0,0]),(1000004,[7])],[],[(1,(.op 0 2 (.op 1 0 (.op 2 0 (.op 4 0 (.or (.op 3 2 (.op 5 2 (.op 6 0 (.op 7 0 .nil)))) (.op 5 2 (.op 3 2 (.op 6 0 (.op 7 0 .nil))))))))))]⟩) (rs := [ResultVar.cell 4 27,ResultVar.cell 5 32]) Try.mixed Try.func32 rfl rfl rfl (Nat.le_of_ble_eq_true rfl) (by kernel_rfl) ?_
  simp (disch := omega) only [↓runPre,runPost,fieldO,ixA,cutA,lenA,aggA,rowA,appA,mkA,indA,bnd,srcA,sameOp,funcA,cvO,partA,aggD,↓PostP,resV,resAll,resOne,resVF,resAllF,resOneF,fitsAll,fitsR,fits,frz,Post,Nat.reduceBEq,Nat.reduceLT,reduceCtorEq,↓reduceIte,initS,AV.cellsOf,AV.fine,AV.one,repA,Nat.reduceMul,Nat.reduceAdd,Nat.reduceLeDiff,Nat.reduceEqDiff,Int.reduceToNat,Nat.reduceSub,Nat.reduceMod,Nat.reduceDiv,indexK.aggOf,Int.reducePow,Int.reduceLE,Int.reduceNeg,Int.reduceLT,Int.reduceBEq,Int.reduceBNe,Int.reduceEq,ownA,nilA,Try.facts]
  intro b3 hb30 hb3 b4 hb40 hb4 b5 hb50 hb5
  have n34 := set_ne hb4
  have n35 := set_ne (subset_set hb5)
  have n45 := set_ne hb5
  have n43 := fun e : b4 = b3 => n34 e.symm
  have n53 := fun e : b5 = b3 => n35 e.symm
  have n54 := fun e : b5 = b4 => n45 e.symm
  have f4 := subset_set hb4
  have f5 := subset_set (subset_set hb5)
  have tH : ∀ i x e,IsT (atH H b3 b4 b5 i x e) h m L G := fun i x e => ((t.put (ne_live hi hb3) (ne_live hm hb3)).put (ne_live hi f4) (ne_live hm f4)).put (ne_live hi f5) (ne_live hm f5)
  refine draw_t (fun σ F => F = atH H b3 b4 b5 i (0,0) 0 ∧ σ 0 = .ptr h 0 ∧ σ 3 = .ptr b3 0 ∧ σ 4 = .ptr b4 0 ∧ σ 5 = .ptr b5 0 ∧ σ 15 = .sc (.bool (decide (¬ (0 ≤ i ∧ i < ((live (nodes L G)).length : Nat)))))) ?_ ?_
  · by_cases h0 : i < 0
    · rw [dT (show ¬ (0 ≤ i ∧ i < ((live (nodes L G)).length : Nat)) by omega)]
      simp (disch := omega) only [↓runPre,runPost,fieldO,ixA,cutA,lenA,aggA,rowA,appA,mkA,indA,bnd,srcA,sameOp,funcA,cvO,partA,aggD,↓PostP,resV,resAll,resOne,resVF,resAllF,resOneF,fitsAll,fitsR,fits,frz,Post,Nat.reduceBEq,Nat.reduceLT,reduceCtorEq,↓reduceIte,initS,AV.cellsOf,AV.fine,AV.one,repA,Nat.reduceMul,Nat.reduceAdd,Nat.reduceLeDiff,Nat.reduceEqDiff,Int.reduceToNat,Nat.reduceSub,Nat.reduceMod,Nat.reduceDiv,indexK.aggOf,Int.reducePow,Int.reduceLE,Int.reduceNeg,Int.reduceLT,Int.reduceBEq,Int.reduceBNe,Int.reduceEq,ownA,nilA,Try.facts,set_other,n34,n35,n45,n43,n53,n54,dT,dF,qT,qF,nT,nF,Bool.false_and,Bool.and_false,putCells_eq]
    · have hd : decide (¬ (0 ≤ i ∧ i < ((live (nodes L G)).length : Nat))) = decide (((L.length - G.length : Nat) : Int) ≤ i) := by
        rw [← hll]
        exact decide_eq_decide.2 (by omega)
      rw [hd]
      simp (disch := omega) only [↓runPre,runPost,fieldO,ixA,cutA,lenA,aggA,rowA,appA,mkA,indA,bnd,srcA,sameOp,funcA,cvO,partA,aggD,↓PostP,resV,resAll,resOne,resVF,resAllF,resOneF,fitsAll,fitsR,fits,frz,Post,Nat.reduceBEq,Nat.reduceLT,reduceCtorEq,↓reduceIte,initS,AV.cellsOf,AV.fine,AV.one,repA,Nat.reduceMul,Nat.reduceAdd,Nat.reduceLeDiff,Nat.reduceEqDiff,Int.reduceToNat,Nat.reduceSub,Nat.reduceMod,Nat.reduceDiv,indexK.aggOf,Int.reducePow,Int.reduceLE,Int.reduceNeg,Int.reduceLT,Int.reduceBEq,Int.reduceBNe,Int.reduceEq,ownA,nilA,Try.facts,set_other,n34,n35,n45,n43,n53,n54,dT,dF,qT,qF,nT,nF,Bool.false_and,Bool.and_false,putCells_eq]
      refine ⟨?_,?_⟩
      all_goals
        refine CallK.i (hln _ (tH i (0,0) 0)) ?_
        rintro v E ⟨rfl,rfl⟩
        simp (disch := omega) only [↓runPre,runPost,fieldO,ixA,cutA,lenA,aggA,rowA,appA,mkA,indA,bnd,srcA,sameOp,funcA,cvO,partA,aggD,↓PostP,resV,resAll,resOne,resVF,resAllF,resOneF,fitsAll,fitsR,fits,frz,Post,Nat.reduceBEq,Nat.reduceLT,reduceCtorEq,↓reduceIte,initS,AV.cellsOf,AV.fine,AV.one,repA,Nat.reduceMul,Nat.reduceAdd,Nat.reduceLeDiff,Nat.reduceEqDiff,Int.reduceToNat,Nat.reduceSub,Nat.reduceMod,Nat.reduceDiv,indexK.aggOf,Int.reducePow,Int.reduceLE,Int.reduceNeg,Int.reduceLT,Int.reduceBEq,Int.reduceBNe,Int.reduceEq,ownA,nilA,Try.facts,set_other,n34,n35,n45,n43,n53,n54,dT,dF,qT,qF,nT,nF,Bool.false_and,Bool.and_false,putCells_eq]
  · rintro σ F ⟨rfl,s0,s3,s4,s5,s15⟩
    have hsb : ∀ i x e,Abs.Sub H (atH H b3 b4 b5 i x e) := fun i x e => (((Abs.Sub.refl H).set_free hb3).set_free f4).set_free f5
    by_cases hin : 0 ≤ i ∧ i < ((live (nodes L G)).length : Nat)
    · rw [if_pos hin]
      rw [dF (not_not_intro hin)] at s15
      obtain ⟨k,rfl⟩ : ∃ k : Nat,i = k := ⟨i.toNat,by omega⟩
      have hk : k < (live (nodes L G)).length := by omega
      rw [Int.toNat_natCast]
      simp (disch := omega) only [↓runPre,runPost,fieldO,ixA,cutA,lenA,aggA,rowA,appA,mkA,indA,bnd,srcA,sameOp,funcA,cvO,partA,aggD,↓PostP,resV,resAll,resOne,resVF,resAllF,resOneF,fitsAll,fitsR,fits,frz,Post,Nat.reduceBEq,Nat.reduceLT,reduceCtorEq,↓reduceIte,initS,AV.cellsOf,AV.fine,AV.one,repA,Nat.reduceMul,Nat.reduceAdd,Nat.reduceLeDiff,Nat.reduceEqDiff,Int.reduceToNat,Nat.reduceSub,Nat.reduceMod,Nat.reduceDiv,indexK.aggOf,Int.reducePow,Int.reduceLE,Int.reduceNeg,Int.reduceLT,Int.reduceBEq,Int.reduceBNe,Int.reduceEq,ownA,nilA,Try.facts,s0,s3,s4,s5,s15]
      refine CallK.i (hal _) ?_
      rintro v E ⟨rfl,rfl⟩
      try simp (disch := omega) only [↓runPre,runPost,fieldO,ixA,cutA,lenA,aggA,rowA,appA,mkA,indA,bnd,srcA,sameOp,funcA,cvO,partA,aggD,↓PostP,resV,resAll,resOne,resVF,resAllF,resOneF,fitsAll,fitsR,fits,frz,Post,Nat.reduceBEq,Nat.reduceLT,reduceCtorEq,↓reduceIte,initS,AV.cellsOf,AV.fine,AV.one,repA,Nat.reduceMul,Nat.reduceAdd,Nat.reduceLeDiff,Nat.reduceEqDiff,Int.reduceToNat,Nat.reduceSub,Nat.reduceMod,Nat.reduceDiv,indexK.aggOf,Int.reducePow,Int.reduceLE,Int.reduceNeg,Int.reduceLT,Int.reduceBEq,Int.reduceBNe,Int.reduceEq,ownA,nilA,Try.facts,s0,s3,s4,s5,s15]
      refine range_t Try.mixed (by simp (disch := omega) only [↓runPre,runPost,fieldO,ixA,cutA,lenA,aggA,rowA,appA,mkA,indA,bnd,srcA,sameOp,funcA,cvO,partA,aggD,↓PostP,resV,resAll,resOne,resVF,resAllF,resOneF,fitsAll,fitsR,fits,frz,Post,Nat.reduceBEq,Nat.reduceLT,reduceCtorEq,↓reduceIte,initS,AV.cellsOf,AV.fine,AV.one,repA,Nat.reduceMul,Nat.reduceAdd,Nat.reduceLeDiff,Nat.reduceEqDiff,Int.reduceToNat,Nat.reduceSub,Nat.reduceMod,Nat.reduceDiv,indexK.aggOf,Int.reducePow,Int.reduceLE,Int.reduceNeg,Int.reduceLT,Int.reduceBEq,Int.reduceBNe,Int.reduceEq,ownA,nilA,Try.facts]) (by kernel_rfl) (fun _ => rfl) hit
        (fun pre Hu => ∃ c : Nat,c = (live (pre.map (·.2))).length ∧ c ≤ k ∧ Hu = atH H b3 b4 b5 ((k - c : Nat) : Int) (0,0) 0)
        (fun code pre Hu => code = .ret ∧ ∃ P x,live (pre.map (·.2)) = P ++ [x] ∧ P.length = k ∧ Hu = atH H b3 b4 b5 0 x.id 0) ?_ ?_ ?_ ?_ ?_
      · rintro pre Hu H' ⟨c,-,-,rfl⟩ hs
        exact (tH _ _ _).mono hs
      · exact ⟨0,rfl,by omega,by rw [Nat.sub_zero]⟩
      · rintro pre ⟨q,x⟩ Hu H1 ⟨c,hc,hck,rfl⟩ hs hpl
        have hfr : ∀ i' x' e' H2, (∀ y, y ≠ b3 → y ≠ b4 → y ≠ b5 → H2 y = H1 y) → H2 b3 = some (.cells [.sc (.int .i64 i')] 3 1) → H2 b4 = some (.cells [.sc (.int .i64 x'.1), .sc (.int .i64 x'.2)] 27 2) → H2 b5 = some (.cells [.sc (.int .i64 e')] 32 1) →
            FrameStep (atH H b3 b4 b5 ((k - c : Nat) : Int) (0,0) 0) H1 (atH H b3 b4 b5 i' x' e') H2 := fun i' x' e' H2 h0 h3 h4 h5 => by
          refine frame_gen (fun y => y = b3 ∨ y = b4 ∨ y = b5) hs ?_ ?_ ?_
          · rintro y (rfl | rfl | rfl)
            · unfold atH; rw [set_other n35,set_other n34,set_get]; exact fun h => by cases h
            · unfold atH; rw [set_other n45,set_get]; exact fun h => by cases h
            · unfold atH; rw [set_get]; exact fun h => by cases h
          · intro y hy
            have h3 : ¬ y = b3 := fun e => hy (.inl e)
            have h4 : ¬ y = b4 := fun e => hy (.inr (.inl e))
            have h5 : ¬ y = b5 := fun e => hy (.inr (.inr e))
            refine ⟨?_,h0 y h3 h4 h5⟩
            unfold atH
            rw [set_other h5,set_other h4,set_other h3,set_other h5,set_other h4,set_other h3]
          · rintro y (rfl | rfl | rfl)
            · rw [h3]; unfold atH; rw [set_other n35,set_other n34,set_get]
            · rw [h4]; unfold atH; rw [set_other n45,set_get]
            · rw [h5]; unfold atH; rw [set_get]
        have l3 : H1 b3 = some (.cells [.sc (.int .i64 ((k - c : Nat) : Int))] 3 1) := hs b3 _ (by unfold atH; rw [set_other n35,set_other n34,set_get])
        have l4 : H1 b4 = some (.cells [.sc (.int .i64 0),.sc (.int .i64 0)] 27 2) := hs b4 _ (by unfold atH; rw [set_other n45,set_get])
        have l5 : H1 b5 = some (.cells [.sc (.int .i64 0)] 32 1) := hs b5 _ (by unfold atH; rw [set_get])
        have hmap : live ((pre ++ [(q,x)]).map (·.2)) = live (pre.map (·.2)) ++ if x.gone then [] else [x] := by
          unfold live
          rw [List.map_append,List.filter_append]
          cases hx : x.gone <;> simp [List.filter_cons,hx]
        generalize live (pre.map (·.2)) = P at *
        obtain ⟨⟨x1,x2⟩,xu,xg⟩ := x
        change cwp _ _ _ (Sg.put (Sg.put _ (some 19) (.sc (.int .i64 (q : Nat)))) (some 20) (.agg [.sc (.int .i64 x1),.sc (.int .i64 x2),.sc (.int .i32 xu),.sc (.bool xg)])) _
        cases xg with
        | true =>
          simp only [if_true,List.append_nil] at hmap
          simp (disch := omega) only [↓runPre,runPost,fieldO,ixA,cutA,lenA,aggA,rowA,appA,mkA,indA,bnd,srcA,sameOp,funcA,cvO,partA,aggD,↓PostP,resV,resAll,resOne,resVF,resAllF,resOneF,fitsAll,fitsR,fits,frz,Post,Nat.reduceBEq,Nat.reduceLT,reduceCtorEq,↓reduceIte,initS,AV.cellsOf,AV.fine,AV.one,repA,Nat.reduceMul,Nat.reduceAdd,Nat.reduceLeDiff,Nat.reduceEqDiff,Int.reduceToNat,Nat.reduceSub,Nat.reduceMod,Nat.reduceDiv,indexK.aggOf,Int.reducePow,Int.reduceLE,Int.reduceNeg,Int.reduceLT,Int.reduceBEq,Int.reduceBNe,Int.reduceEq,ownA,nilA,Try.facts]
          intro b7 hb70 hb7
          simp (disch := omega) only [↓runPre,runPost,fieldO,ixA,cutA,lenA,aggA,rowA,appA,mkA,indA,bnd,srcA,sameOp,funcA,cvO,partA,aggD,↓PostP,resV,resAll,resOne,resVF,resAllF,resOneF,fitsAll,fitsR,fits,frz,Post,Nat.reduceBEq,Nat.reduceLT,reduceCtorEq,↓reduceIte,initS,AV.cellsOf,AV.fine,AV.one,repA,Nat.reduceMul,Nat.reduceAdd,Nat.reduceLeDiff,Nat.reduceEqDiff,Int.reduceToNat,Nat.reduceSub,Nat.reduceMod,Nat.reduceDiv,indexK.aggOf,Int.reducePow,Int.reduceLE,Int.reduceNeg,Int.reduceLT,Int.reduceBEq,Int.reduceBNe,Int.reduceEq,ownA,nilA,Try.facts,s3,s4,s5,kill_box hb7,putCells_eq,RPost_normal]
          refine ⟨_,⟨hs,fun q o h1 h2 => ⟨h1,h2⟩⟩,c,?_,hck,rfl⟩
          rw [hmap]; exact hc
        | false =>
          simp only [Bool.false_eq_true,if_false] at hmap
          by_cases hz : c = k
          · have hz1 : ((k - c : Nat) : Int) = 0 := by omega
            rw [hz1] at l3
            simp (disch := omega) only [↓runPre,runPost,fieldO,ixA,cutA,lenA,aggA,rowA,appA,mkA,indA,bnd,srcA,sameOp,funcA,cvO,partA,aggD,↓PostP,resV,resAll,resOne,resVF,resAllF,resOneF,fitsAll,fitsR,fits,frz,Post,Nat.reduceBEq,Nat.reduceLT,reduceCtorEq,↓reduceIte,initS,AV.cellsOf,AV.fine,AV.one,repA,Nat.reduceMul,Nat.reduceAdd,Nat.reduceLeDiff,Nat.reduceEqDiff,Int.reduceToNat,Nat.reduceSub,Nat.reduceMod,Nat.reduceDiv,indexK.aggOf,Int.reducePow,Int.reduceLE,Int.reduceNeg,Int.reduceLT,Int.reduceBEq,Int.reduceBNe,Int.reduceEq,ownA,nilA,Try.facts]
            intro b7 hb70 hb7
            simp (disch := omega) only [↓runPre,runPost,fieldO,ixA,cutA,lenA,aggA,rowA,appA,mkA,indA,bnd,srcA,sameOp,funcA,cvO,partA,aggD,↓PostP,resV,resAll,resOne,resVF,resAllF,resOneF,fitsAll,fitsR,fits,frz,Post,Nat.reduceBEq,Nat.reduceLT,reduceCtorEq,↓reduceIte,initS,AV.cellsOf,AV.fine,AV.one,repA,Nat.reduceMul,Nat.reduceAdd,Nat.reduceLeDiff,Nat.reduceEqDiff,Int.reduceToNat,Nat.reduceSub,Nat.reduceMod,Nat.reduceDiv,indexK.aggOf,Int.reducePow,Int.reduceLE,Int.reduceNeg,Int.reduceLT,Int.reduceBEq,Int.reduceBNe,Int.reduceEq,ownA,nilA,Try.facts,s3,s4,s5,kill_box hb7,putCells_eq,set_other,l3,l4,l5,n34,n35,n45,n43,n53,n54,dT,dF,qT,qF,nT,nF,Bool.false_and,Bool.and_false,RPost_ret]
            refine ⟨_,hfr 0 (x1,x2) 0 _ (fun y h3 h4 h5 => ?_) ?_ ?_ ?_,P,_,hmap,by omega,rfl⟩
            · rw [set_other h5,set_other h4]
            · rw [set_other n35,set_other n34]; exact l3
            · rw [set_other n45,set_get]
            · rw [set_get]
          · have hz1 : ((k - c : Nat) : Int) - 1 = ((k - (c + 1) : Nat) : Int) := by omega
            have hz2 : ¬ ((k - c : Nat) : Int) = 0 := by omega
            have hz3 : (((k - c : Nat) : Int) == 0) = false := by simpa using hz2
            simp (disch := omega) only [↓runPre,runPost,fieldO,ixA,cutA,lenA,aggA,rowA,appA,mkA,indA,bnd,srcA,sameOp,funcA,cvO,partA,aggD,↓PostP,resV,resAll,resOne,resVF,resAllF,resOneF,fitsAll,fitsR,fits,frz,Post,Nat.reduceBEq,Nat.reduceLT,reduceCtorEq,↓reduceIte,initS,AV.cellsOf,AV.fine,AV.one,repA,Nat.reduceMul,Nat.reduceAdd,Nat.reduceLeDiff,Nat.reduceEqDiff,Int.reduceToNat,Nat.reduceSub,Nat.reduceMod,Nat.reduceDiv,indexK.aggOf,Int.reducePow,Int.reduceLE,Int.reduceNeg,Int.reduceLT,Int.reduceBEq,Int.reduceBNe,Int.reduceEq,ownA,nilA,Try.facts]
            intro b7 hb70 hb7
            simp (disch := omega) only [↓runPre,runPost,fieldO,ixA,cutA,lenA,aggA,rowA,appA,mkA,indA,bnd,srcA,sameOp,funcA,cvO,partA,aggD,↓PostP,resV,resAll,resOne,resVF,resAllF,resOneF,fitsAll,fitsR,fits,frz,Post,Nat.reduceBEq,Nat.reduceLT,reduceCtorEq,↓reduceIte,initS,AV.cellsOf,AV.fine,AV.one,repA,Nat.reduceMul,Nat.reduceAdd,Nat.reduceLeDiff,Nat.reduceEqDiff,Int.reduceToNat,Nat.reduceSub,Nat.reduceMod,Nat.reduceDiv,indexK.aggOf,Int.reducePow,Int.reduceLE,Int.reduceNeg,Int.reduceLT,Int.reduceBEq,Int.reduceBNe,Int.reduceEq,ownA,nilA,Try.facts,s3,s4,s5,kill_box hb7,putCells_eq,set_other,l3,l4,l5,n34,n35,n45,n43,n53,n54,hz3,RPost_normal]
            refine ⟨_,hfr ((k - (c + 1) : Nat) : Int) (0,0) 0 _ (fun y h3 h4 h5 => ?_) ?_ ?_ ?_,c + 1,?_,by omega,rfl⟩
            · rw [set_other h3]
            · rw [set_get,Nat.sub_sub]
            · rw [set_other n43]; exact l4
            · rw [set_other n53]; exact l5
            · rw [hmap,hc,List.length_append]; rfl
      · rintro xs Hu rfl ⟨c,hc,hck,rfl⟩
        rw [ixd_map] at hc
        omega
      · rintro code pre Hu ⟨n,hn0,hnl,rfl⟩ ⟨rfl,P,x,hP,hPk,rfl⟩
        refine ⟨fun _ => ?_,fun id e => by cases e⟩
        have hlv : (live (nodes L G))[k]? = some x := by
          have e1 : ((ixd 0 (nodes L G)).take n).map (·.2) = (nodes L G).take n := by rw [List.map_take,ixd_map]
          rw [e1] at hP
          have e2 := live_append ((nodes L G).take n) ((nodes L G).drop n)
          rw [List.take_append_drop,hP] at e2
          rw [e2,List.append_assoc,List.getElem?_append_right (by omega),hPk,Nat.sub_self]
          rfl
        rw [hlv]
        simp (disch := omega) only [↓runPre,runPost,fieldO,ixA,cutA,lenA,aggA,rowA,appA,mkA,indA,bnd,srcA,sameOp,funcA,cvO,partA,aggD,↓PostP,resV,resAll,resOne,resVF,resAllF,resOneF,fitsAll,fitsR,fits,frz,Post,Nat.reduceBEq,Nat.reduceLT,reduceCtorEq,↓reduceIte,initS,AV.cellsOf,AV.fine,AV.one,repA,Nat.reduceMul,Nat.reduceAdd,Nat.reduceLeDiff,Nat.reduceEqDiff,Int.reduceToNat,Nat.reduceSub,Nat.reduceMod,Nat.reduceDiv,indexK.aggOf,Int.reducePow,Int.reduceLE,Int.reduceNeg,Int.reduceLT,Int.reduceBEq,Int.reduceBNe,Int.reduceEq,ownA,nilA,Try.facts,s3,s4,s5,set_other,n34,n35,n45,n43,n53,n54]
        exact ⟨_,rfl,H,hsb _ _ _,rfl,rfl⟩
    · rw [if_neg hin]
      rw [dT hin] at s15
      simp (disch := omega) only [↓runPre,runPost,fieldO,ixA,cutA,lenA,aggA,rowA,appA,mkA,indA,bnd,srcA,sameOp,funcA,cvO,partA,aggD,↓PostP,resV,resAll,resOne,resVF,resAllF,resOneF,fitsAll,fitsR,fits,frz,Post,Nat.reduceBEq,Nat.reduceLT,reduceCtorEq,↓reduceIte,initS,AV.cellsOf,AV.fine,AV.one,repA,Nat.reduceMul,Nat.reduceAdd,Nat.reduceLeDiff,Nat.reduceEqDiff,Int.reduceToNat,Nat.reduceSub,Nat.reduceMod,Nat.reduceDiv,indexK.aggOf,Int.reducePow,Int.reduceLE,Int.reduceNeg,Int.reduceLT,Int.reduceBEq,Int.reduceBNe,Int.reduceEq,ownA,nilA,Try.facts,s0,s3,s4,s5,s15,set_other,n34,n35,n45,n43,n53,n54,putCells_eq]
      exact ⟨_,rfl,H,((hsb _ _ _).set_free f4).set_free f5,rfl,rfl⟩
end Go.Proofs.Ytgkpidbeoccpnaa
