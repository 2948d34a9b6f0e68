/-
  The walks of the fugue layer: where one is to hang.
  Conditions: none. Lemmas only.
-/
import Derived.Test.YtgkpidbeoccpnaaFugAb
set_option linter.all false
set_option linter.unusedSimpArgs false
set_option linter.unusedVariables false
set_option maxRecDepth 8000
set_option maxHeartbeats 4000000
namespace Go.Proofs.Ytgkpidbeoccpnaa
open Go Go.Abs Go.Proofs Go.Fug
theorem atL_in {N : List Nd} {k : Nat} (h0 : 0 < k) (hk : k ≤ (live N).length) : atL N ((k - 1 : Nat) : Int) = (planA N k,0) := by
  unfold atL planA
  rw [if_pos (by omega),Int.toNat_natCast,if_neg (by omega)]
theorem plan_live (H : AH) (h m : Nat) (L : List Ins) (G : List EId) (i : Int) (t : IsT H h m L G) : ACalls Try.prog 33 [.ptr h 0,.sc (.int .i64 i)] H fun v H' => v = planV (planL L G i) ∧ H' = H := by
  have hln := fun H' (t : IsT H' h m L G) => len_live H' h m L G t
  have hat := fun H' i (t : IsT H' h m L G) => at_live H' h m L G i t
  have hll : (live (nodes L G)).length = L.length - G.length := live_len t.g t.gs t.gn
  have hi := t.hi
  have hm := t.hm
  have hsm := t.small
  unfold planL
  refine acalls_of_cwp (c := ⟨Try.prog,68,[(6,[0,0,0,1,1,1,0,0,0]),(10,[0,0,0,1,1,1,0,0,1,0]),(11,[0,0,0,1,1,1,0,0,0,1,2]),(4000011,[0,4,9]),(4000010,[0,4,9,56]),(4000009,[0,4,9]),(4000006,[0,4,7,8]),(4000005,[0,4,7]),(4000001,[0,1,4,21])],[],[]⟩) (rs := [ResultVar.cell 4 27,ResultVar.tmp 5,ResultVar.tmp 6]) Try.mixed Try.func33 rfl rfl rfl (Nat.le_of_ble_eq_true rfl) (by kernel_rfl) ?_
  simp (disch := omega) only [↓runPre,runPost,fieldO,ixA,cutA,lenA,aggA,rowA,appA,mkA,indA,bnd,srcA,sameOp,funcA,cvO,partA,aggD,↓PostP,resV,resAll,resOne,resVF,resAllF,resOneF,fitsAll,fitsR,fits,frz,Post,Nat.reduceBEq,Nat.reduceLT,reduceCtorEq,↓reduceIte,initS,AV.cellsOf,AV.fine,AV.one,repA,Nat.reduceMul,Nat.reduceAdd,Nat.reduceLeDiff,Nat.reduceEqDiff,Int.reduceToNat,Nat.reduceSub,Nat.reduceMod,Nat.reduceDiv,indexK.aggOf,Int.reducePow,Int.reduceLE,Int.reduceNeg,Int.reduceLT,Int.reduceBEq,Int.reduceBNe,Int.reduceEq,ownA,nilA,Try.facts]
  intro b4 hb40 hb4
  have n1 := ne_live hi hb4
  have n2 := ne_live hm hb4
  have t4 := fun o => t.put (b := b4) (o := o) n1 n2
  by_cases h0 : i < 0
  · rw [if_neg (by omega)]
    simp (disch := omega) only [↓runPre,runPost,fieldO,ixA,cutA,lenA,aggA,rowA,appA,mkA,indA,bnd,srcA,sameOp,funcA,cvO,partA,aggD,↓PostP,resV,resAll,resOne,resVF,resAllF,resOneF,fitsAll,fitsR,fits,frz,Post,Nat.reduceBEq,Nat.reduceLT,reduceCtorEq,↓reduceIte,initS,AV.cellsOf,AV.fine,AV.one,repA,Nat.reduceMul,Nat.reduceAdd,Nat.reduceLeDiff,Nat.reduceEqDiff,Int.reduceToNat,Nat.reduceSub,Nat.reduceMod,Nat.reduceDiv,indexK.aggOf,Int.reducePow,Int.reduceLE,Int.reduceNeg,Int.reduceLT,Int.reduceBEq,Int.reduceBNe,Int.reduceEq,ownA,nilA,Try.facts,dT,dF,qT,qF,nT,nF,Bool.false_and,Bool.and_false,putCells_eq]
    exact ⟨_,rfl,H,(Abs.Sub.refl H).set_free hb4,rfl,rfl⟩
  · obtain ⟨k,rfl⟩ : ∃ k : Nat,i = k := ⟨i.toNat,by omega⟩
    rw [Int.toNat_natCast]
    simp (disch := omega) only [↓runPre,runPost,fieldO,ixA,cutA,lenA,aggA,rowA,appA,mkA,indA,bnd,srcA,sameOp,funcA,cvO,partA,aggD,↓PostP,resV,resAll,resOne,resVF,resAllF,resOneF,fitsAll,fitsR,fits,frz,Post,Nat.reduceBEq,Nat.reduceLT,reduceCtorEq,↓reduceIte,initS,AV.cellsOf,AV.fine,AV.one,repA,Nat.reduceMul,Nat.reduceAdd,Nat.reduceLeDiff,Nat.reduceEqDiff,Int.reduceToNat,Nat.reduceSub,Nat.reduceMod,Nat.reduceDiv,indexK.aggOf,Int.reducePow,Int.reduceLE,Int.reduceNeg,Int.reduceLT,Int.reduceBEq,Int.reduceBNe,Int.reduceEq,ownA,nilA,Try.facts,dT,dF,qT,qF,nT,nF,Bool.false_and,Bool.and_false,putCells_eq]
    refine CallK.i (hln _ (t4 _)) ?_
    rintro v E ⟨rfl,rfl⟩
    by_cases h1 : k ≤ (live (nodes L G)).length
    · rw [if_pos (by omega)]
      obtain ⟨ha,-⟩ := planA_ok (G := G) t.g h1
      have hai : planA (nodes L G) k ∈ idsOf L := by
        rcases ha with e | e
        · rw [e]; exact List.mem_cons_self
        · exact List.mem_cons_of_mem _ e
      have hnr : k = 0 → planA (nodes L G) k = (0,0) := fun e => by subst e; rfl
      have hatk := fun (h0 : 0 < k) => atL_in (N := nodes L G) h0 h1
      generalize planA (nodes L G) k = a at *
      have hf := find_ids (nodeA L G) a t.ord 0
      rw [if_pos (t.ord_mem.2 hai)] at hf
      clear ha
      have hm' := hm
      generalize hE : entsOf t.ord (nodeA L G) = E at *
      obtain ⟨a1,a2⟩ := a
      simp (disch := omega) only [↓runPre,runPost,fieldO,ixA,cutA,lenA,aggA,rowA,appA,mkA,indA,bnd,srcA,sameOp,funcA,cvO,partA,aggD,↓PostP,resV,resAll,resOne,resVF,resAllF,resOneF,fitsAll,fitsR,fits,frz,Post,Nat.reduceBEq,Nat.reduceLT,reduceCtorEq,↓reduceIte,initS,AV.cellsOf,AV.fine,AV.one,repA,Nat.reduceMul,Nat.reduceAdd,Nat.reduceLeDiff,Nat.reduceEqDiff,Int.reduceToNat,Nat.reduceSub,Nat.reduceMod,Nat.reduceDiv,indexK.aggOf,Int.reducePow,Int.reduceLE,Int.reduceNeg,Int.reduceLT,Int.reduceBEq,Int.reduceBNe,Int.reduceEq,ownA,nilA,Try.facts,dT,dF,qT,qF,nT,nF,Bool.false_and,Bool.and_false,putCells_eq]
      intro b7 hb70 hb7
      have n47 := set_ne hb7
      have n74 := fun e : b7 = b4 => n47 e.symm
      have hb7H := subset_set hb7
      have m1 := ne_live hi hb7H
      have m2 := ne_live hm hb7H
      have t7 := fun o o' => (t4 o).put (b := b7) (o := o') m1 m2
      rcases Nat.eq_zero_or_pos k with hk | hk
      · obtain ⟨rfl,rfl⟩ : a1 = 0 ∧ a2 = 0 := by have := hnr hk; simpa using this
        simp (disch := omega) only [↓runPre,runPost,fieldO,ixA,cutA,lenA,aggA,rowA,appA,mkA,indA,bnd,srcA,sameOp,funcA,cvO,partA,aggD,↓PostP,resV,resAll,resOne,resVF,resAllF,resOneF,fitsAll,fitsR,fits,frz,Post,Nat.reduceBEq,Nat.reduceLT,reduceCtorEq,↓reduceIte,initS,AV.cellsOf,AV.fine,AV.one,repA,Nat.reduceMul,Nat.reduceAdd,Nat.reduceLeDiff,Nat.reduceEqDiff,Int.reduceToNat,Nat.reduceSub,Nat.reduceMod,Nat.reduceDiv,indexK.aggOf,Int.reducePow,Int.reduceLE,Int.reduceNeg,Int.reduceLT,Int.reduceBEq,Int.reduceBNe,Int.reduceEq,ownA,nilA,Try.facts,dT,dF,qT,qF,nT,nF,Bool.false_and,Bool.and_false,putCells_eq,set_other,n47,n74,n1,n2,m1,m2,hi,hm',hf]
        clear hatk hat hln hnr
        have hsub : ∀ o o',Abs.Sub H ((H.set b4 o).set b7 o') := fun o o' => ((Abs.Sub.refl H).set_free hb4).set_free hb7H
        have hall := t.g.all_eq (G := G) (0,0) true
        have hkid : ∀ y ∈ kids L (0,0) true,y ∈ idsOf L := fun y hy => by
          obtain ⟨i,hi,e,-⟩ := mem_kids.1 hy
          exact List.mem_cons_of_mem _ (List.mem_map.2 ⟨i,hi,e⟩)
        have hkl := kids_length L (0,0) true
        have hKi := idsC_length (kids L (0,0) true)
        have hpz := fun z W => @planZ_eq L G (0,0) z W
        generalize kids L (0,0) true = K at *
        cases K with
        | nil =>
          rw [if_pos rfl]
          have hz0 : (([] : List EId).length : Nat) = 0 := rfl
          simp (disch := omega) only [↓runPre,runPost,fieldO,ixA,cutA,lenA,aggA,rowA,appA,mkA,indA,bnd,srcA,sameOp,funcA,cvO,partA,aggD,↓PostP,resV,resAll,resOne,resVF,resAllF,resOneF,fitsAll,fitsR,fits,frz,Post,Nat.reduceBEq,Nat.reduceLT,reduceCtorEq,↓reduceIte,initS,AV.cellsOf,AV.fine,AV.one,repA,Nat.reduceMul,Nat.reduceAdd,Nat.reduceLeDiff,Nat.reduceEqDiff,Int.reduceToNat,Nat.reduceSub,Nat.reduceMod,Nat.reduceDiv,indexK.aggOf,Int.reducePow,Int.reduceLE,Int.reduceNeg,Int.reduceLT,Int.reduceBEq,Int.reduceBNe,Int.reduceEq,ownA,nilA,Try.facts,dT,dF,qT,qF,nT,nF,Bool.false_and,Bool.and_false,putCells_eq,set_other,n47,n74,hz0]
          exact ⟨_,rfl,H,(hsub _ _).set_free hb4,rfl,rfl⟩
        | cons y K =>
          rw [if_neg (by simp)]
          have hK2 : (idsC (y :: K)).take 2 = [.sc (.int .i64 y.1),.sc (.int .i64 y.2)] := rfl
          have hKpos : 0 < (y :: K).length := by simp
          have hyi := hkid y (by simp)
          have hz : ∃ W,all L G (0,0) true = all L G y false ++ ndOf L G y :: W := by
            rw [hall,List.flatMap_cons]
            exact ⟨_,by simp only [List.append_assoc,List.cons_append,List.nil_append]; rfl⟩
          clear hall hkid
          generalize (y :: K) = KK at *
          have hK22 : 2 ≤ KK.length * 2 := by omega
          simp (disch := omega) only [↓runPre,runPost,fieldO,ixA,cutA,lenA,aggA,rowA,appA,mkA,indA,bnd,srcA,sameOp,funcA,cvO,partA,aggD,↓PostP,resV,resAll,resOne,resVF,resAllF,resOneF,fitsAll,fitsR,fits,frz,Post,Nat.reduceBEq,Nat.reduceLT,reduceCtorEq,↓reduceIte,initS,AV.cellsOf,AV.fine,AV.one,repA,Nat.reduceMul,Nat.reduceAdd,Nat.reduceLeDiff,Nat.reduceEqDiff,Int.reduceToNat,Nat.reduceSub,Nat.reduceMod,Nat.reduceDiv,indexK.aggOf,Int.reducePow,Int.reduceLE,Int.reduceNeg,Int.reduceLT,Int.reduceBEq,Int.reduceBNe,Int.reduceEq,ownA,nilA,Try.facts,dT,dF,qT,qF,nT,nF,Bool.false_and,Bool.and_false,putCells_eq,set_other,n47,n74,hKi,hK2,hK22,Nat.zero_mul,Nat.le_refl]
          intro b9 hb90 hb9
          have n49 := set_ne (subset_set hb9)
          have n79 := set_ne hb9
          have n94 := fun e : b9 = b4 => n49 e.symm
          have n97 := fun e : b9 = b7 => n79 e.symm
          have hb9H := subset_set (subset_set hb9)
          have p1 := ne_live hi hb9H
          have p2 := ne_live hm hb9H
          try simp (disch := omega) only [↓runPre,runPost,fieldO,ixA,cutA,lenA,aggA,rowA,appA,mkA,indA,bnd,srcA,sameOp,funcA,cvO,partA,aggD,↓PostP,resV,resAll,resOne,resVF,resAllF,resOneF,fitsAll,fitsR,fits,frz,Post,Nat.reduceBEq,Nat.reduceLT,reduceCtorEq,↓reduceIte,initS,AV.cellsOf,AV.fine,AV.one,repA,Nat.reduceMul,Nat.reduceAdd,Nat.reduceLeDiff,Nat.reduceEqDiff,Int.reduceToNat,Nat.reduceSub,Nat.reduceMod,Nat.reduceDiv,indexK.aggOf,Int.reducePow,Int.reduceLE,Int.reduceNeg,Int.reduceLT,Int.reduceBEq,Int.reduceBNe,Int.reduceEq,ownA,nilA,Try.facts,dT,dF,qT,qF,nT,nF,Bool.false_and,Bool.and_false,putCells_eq,set_other,n47,n74,n49,n79,n94,n97]
          refine loop_t (c := ⟨Try.prog,68,[(6,[0,0,0,1,1,1,0,0,0]),(10,[0,0,0,1,1,1,0,0,1,0]),(11,[0,0,0,1,1,1,0,0,0,1,2]),(4000011,[0,4,9]),(4000010,[0,4,9,56]),(4000009,[0,4,9]),(4000006,[0,4,7,8]),(4000005,[0,4,7]),(4000001,[0,1,4,21])],[],[]⟩) Try.mixed (by kernel_rfl) (fun mm σ H' => ∃ (z : EId) (W : List Nd),Deep L mm z ∧ z ∈ idsOf L ∧ all L G (0,0) true = all L G z false ++ ndOf L G z :: W ∧
            H' = ((H.set b4 (.cells [.sc (.int .i64 0),.sc (.int .i64 0)] 27 2)).set b7 (.cells [.sc (.int .i64 0),.sc (.int .i64 0)] 27 2)).set b9 (.cells [.sc (.int .i64 z.1),.sc (.int .i64 z.2)] 27 2) ∧ σ 0 = .ptr h 0 ∧ σ 4 = .ptr b4 0 ∧ σ 9 = .ptr b9 0) (L.length + 1) ?_ ?_
          · obtain ⟨W,hW⟩ := hz
            refine ⟨y,W,t.g.deep y,hyi,hW,?_⟩
            simp (disch := omega) only [↓runPre,runPost,fieldO,ixA,cutA,lenA,aggA,rowA,appA,mkA,indA,bnd,srcA,sameOp,funcA,cvO,partA,aggD,↓PostP,resV,resAll,resOne,resVF,resAllF,resOneF,fitsAll,fitsR,fits,frz,Post,Nat.reduceBEq,Nat.reduceLT,reduceCtorEq,↓reduceIte,initS,AV.cellsOf,AV.fine,AV.one,repA,Nat.reduceMul,Nat.reduceAdd,Nat.reduceLeDiff,Nat.reduceEqDiff,Int.reduceToNat,Nat.reduceSub,Nat.reduceMod,Nat.reduceDiv,indexK.aggOf,Int.reducePow,Int.reduceLE,Int.reduceNeg,Int.reduceLT,Int.reduceBEq,Int.reduceBNe,Int.reduceEq,ownA,nilA,Try.facts]
            try rfl
          · clear hz hK2 hKi hyi hKpos hkl hf
            rintro mm σ H' ⟨z,W,hd,hzi,hW,rfl,s0,s4,s9⟩
            have hf := find_ids (nodeA L G) z t.ord 0
            rw [if_pos (t.ord_mem.2 hzi),hE] at hf
            have hkl := kids_length L z false
            have hKi := idsC_length (kids L z false)
            have hallz := t.g.all_eq (G := G) z false
            have hkid : ∀ y ∈ kids L z false,y ∈ idsOf L := fun y hy => by
              obtain ⟨i,hi,e,-⟩ := mem_kids.1 hy
              exact List.mem_cons_of_mem _ (List.mem_map.2 ⟨i,hi,e⟩)
            have hdk := fun y (h : y ∈ kids L z false) => hd.kid h
            obtain ⟨K1,hK1⟩ : ∃ K1,K1 = kids L z true := ⟨_,rfl⟩
            obtain ⟨K0,hK0⟩ : ∃ K0,K0 = kids L z false := ⟨_,rfl⟩
            unfold nodeA nodeC at hf
            rw [← hK1,← hK0] at hf
            rw [← hK0] at hkl hKi hallz hkid hdk
            obtain ⟨z1,z2⟩ := z
            simp only [] at hf
            cases K0 with
            | nil =>
              have hz0 : (([] : List EId).length : Nat) = 0 := rfl
              rw [hallz] at hW
              simp only [List.flatMap_nil,List.nil_append] at hW
              rw [hpz _ _ hW]
              simp (disch := omega) only [↓runPre,runPost,fieldO,ixA,cutA,lenA,aggA,rowA,appA,mkA,indA,bnd,srcA,sameOp,funcA,cvO,partA,aggD,↓PostP,resV,resAll,resOne,resVF,resAllF,resOneF,fitsAll,fitsR,fits,frz,Post,Nat.reduceBEq,Nat.reduceLT,reduceCtorEq,↓reduceIte,initS,AV.cellsOf,AV.fine,AV.one,repA,Nat.reduceMul,Nat.reduceAdd,Nat.reduceLeDiff,Nat.reduceEqDiff,Int.reduceToNat,Nat.reduceSub,Nat.reduceMod,Nat.reduceDiv,indexK.aggOf,Int.reducePow,Int.reduceLE,Int.reduceNeg,Int.reduceLT,Int.reduceBEq,Int.reduceBNe,Int.reduceEq,ownA,nilA,Try.facts,s0,s4,s9,dT,dF,qT,qF,nT,nF,Bool.false_and,Bool.and_false,putCells_eq,set_other,n47,n74,n49,n79,n94,n97,n1,n2,m1,m2,p1,p2,hi,hm',hf,hz0]
              exact ⟨_,rfl,H,(((hsub _ _).set_free hb9H).set_free hb4),rfl,rfl⟩
            | cons v K =>
              have hK2 : (idsC (v :: K)).take 2 = [.sc (.int .i64 v.1),.sc (.int .i64 v.2)] := rfl
              have hKpos : 0 < (v :: K).length := by simp
              obtain ⟨mq,hmq,hdv⟩ := hdk v (by simp)
              have hvi := hkid v (by simp)
              have hW2 : ∃ W,all L G (0,0) true = all L G v false ++ ndOf L G v :: W := by
                rw [hW,hallz,List.flatMap_cons]
                exact ⟨_,by simp only [List.append_assoc,List.cons_append,List.nil_append]; rfl⟩
              clear hallz hkid hdk hW hK0
              generalize (v :: K) = KK at *
              have hK22 : 2 ≤ KK.length * 2 := by omega
              simp (disch := omega) only [↓runPre,runPost,fieldO,ixA,cutA,lenA,aggA,rowA,appA,mkA,indA,bnd,srcA,sameOp,funcA,cvO,partA,aggD,↓PostP,resV,resAll,resOne,resVF,resAllF,resOneF,fitsAll,fitsR,fits,frz,Post,Nat.reduceBEq,Nat.reduceLT,reduceCtorEq,↓reduceIte,initS,AV.cellsOf,AV.fine,AV.one,repA,Nat.reduceMul,Nat.reduceAdd,Nat.reduceLeDiff,Nat.reduceEqDiff,Int.reduceToNat,Nat.reduceSub,Nat.reduceMod,Nat.reduceDiv,indexK.aggOf,Int.reducePow,Int.reduceLE,Int.reduceNeg,Int.reduceLT,Int.reduceBEq,Int.reduceBNe,Int.reduceEq,ownA,nilA,Try.facts,s0,s4,s9,dT,dF,qT,qF,nT,nF,Bool.false_and,Bool.and_false,putCells_eq,set_other,n47,n74,n49,n79,n94,n97,n1,n2,m1,m2,p1,p2,hi,hm',hf,hKi,hK2,hK22,Nat.zero_mul,Nat.le_refl]
              obtain ⟨W2,hW2⟩ := hW2
              exact ⟨mq,by omega,v,W2,hdv,hvi,hW2,rfl⟩
      · have hkw : ((k : Nat) : Int) - 1 = ((k - 1 : Nat) : Int) := by omega
        have hatk := hatk hk
        simp (disch := omega) only [↓runPre,runPost,fieldO,ixA,cutA,lenA,aggA,rowA,appA,mkA,indA,bnd,srcA,sameOp,funcA,cvO,partA,aggD,↓PostP,resV,resAll,resOne,resVF,resAllF,resOneF,fitsAll,fitsR,fits,frz,Post,Nat.reduceBEq,Nat.reduceLT,reduceCtorEq,↓reduceIte,initS,AV.cellsOf,AV.fine,AV.one,repA,Nat.reduceMul,Nat.reduceAdd,Nat.reduceLeDiff,Nat.reduceEqDiff,Int.reduceToNat,Nat.reduceSub,Nat.reduceMod,Nat.reduceDiv,indexK.aggOf,Int.reducePow,Int.reduceLE,Int.reduceNeg,Int.reduceLT,Int.reduceBEq,Int.reduceBNe,Int.reduceEq,ownA,nilA,Try.facts,dT,dF,qT,qF,nT,nF,Bool.false_and,Bool.and_false,putCells_eq,hkw]
        refine CallK.i (hat _ _ (t7 _ _)) ?_
        rintro v E ⟨rfl,rfl⟩
        rw [hatk]
        simp (disch := omega) only [↓runPre,runPost,fieldO,ixA,cutA,lenA,aggA,rowA,appA,mkA,indA,bnd,srcA,sameOp,funcA,cvO,partA,aggD,↓PostP,resV,resAll,resOne,resVF,resAllF,resOneF,fitsAll,fitsR,fits,frz,Post,Nat.reduceBEq,Nat.reduceLT,reduceCtorEq,↓reduceIte,initS,AV.cellsOf,AV.fine,AV.one,repA,Nat.reduceMul,Nat.reduceAdd,Nat.reduceLeDiff,Nat.reduceEqDiff,Int.reduceToNat,Nat.reduceSub,Nat.reduceMod,Nat.reduceDiv,indexK.aggOf,Int.reducePow,Int.reduceLE,Int.reduceNeg,Int.reduceLT,Int.reduceBEq,Int.reduceBNe,Int.reduceEq,ownA,nilA,Try.facts,dT,dF,qT,qF,nT,nF,Bool.false_and,Bool.and_false,putCells_eq,set_other,n47,n74,n1,n2,m1,m2,hi,hm',hf]
        clear hatk hat hln hnr
        have hsub : ∀ o o',Abs.Sub H ((H.set b4 o).set b7 o') := fun o o' => ((Abs.Sub.refl H).set_free hb4).set_free hb7H
        have hall := t.g.all_eq (G := G) (a1,a2) true
        have hkid : ∀ y ∈ kids L (a1,a2) true,y ∈ idsOf L := fun y hy => by
          obtain ⟨i,hi,e,-⟩ := mem_kids.1 hy
          exact List.mem_cons_of_mem _ (List.mem_map.2 ⟨i,hi,e⟩)
        have hkl := kids_length L (a1,a2) true
        have hKi := idsC_length (kids L (a1,a2) true)
        have hpz := fun z W => @planZ_eq L G (a1,a2) z W
        generalize kids L (a1,a2) true = K at *
        cases K with
        | nil =>
          rw [if_pos rfl]
          have hz0 : (([] : List EId).length : Nat) = 0 := rfl
          simp (disch := omega) only [↓runPre,runPost,fieldO,ixA,cutA,lenA,aggA,rowA,appA,mkA,indA,bnd,srcA,sameOp,funcA,cvO,partA,aggD,↓PostP,resV,resAll,resOne,resVF,resAllF,resOneF,fitsAll,fitsR,fits,frz,Post,Nat.reduceBEq,Nat.reduceLT,reduceCtorEq,↓reduceIte,initS,AV.cellsOf,AV.fine,AV.one,repA,Nat.reduceMul,Nat.reduceAdd,Nat.reduceLeDiff,Nat.reduceEqDiff,Int.reduceToNat,Nat.reduceSub,Nat.reduceMod,Nat.reduceDiv,indexK.aggOf,Int.reducePow,Int.reduceLE,Int.reduceNeg,Int.reduceLT,Int.reduceBEq,Int.reduceBNe,Int.reduceEq,ownA,nilA,Try.facts,dT,dF,qT,qF,nT,nF,Bool.false_and,Bool.and_false,putCells_eq,set_other,n47,n74,hz0]
          exact ⟨_,rfl,H,(hsub _ _).set_free hb4,rfl,rfl⟩
        | cons y K =>
          rw [if_neg (by simp)]
          have hK2 : (idsC (y :: K)).take 2 = [.sc (.int .i64 y.1),.sc (.int .i64 y.2)] := rfl
          have hKpos : 0 < (y :: K).length := by simp
          have hyi := hkid y (by simp)
          have hz : ∃ W,all L G (a1,a2) true = all L G y false ++ ndOf L G y :: W := by
            rw [hall,List.flatMap_cons]
            exact ⟨_,by simp only [List.append_assoc,List.cons_append,List.nil_append]; rfl⟩
          clear hall hkid
          generalize (y :: K) = KK at *
          have hK22 : 2 ≤ KK.length * 2 := by omega
          simp (disch := omega) only [↓runPre,runPost,fieldO,ixA,cutA,lenA,aggA,rowA,appA,mkA,indA,bnd,srcA,sameOp,funcA,cvO,partA,aggD,↓PostP,resV,resAll,resOne,resVF,resAllF,resOneF,fitsAll,fitsR,fits,frz,Post,Nat.reduceBEq,Nat.reduceLT,reduceCtorEq,↓reduceIte,initS,AV.cellsOf,AV.fine,AV.one,repA,Nat.reduceMul,Nat.reduceAdd,Nat.reduceLeDiff,Nat.reduceEqDiff,Int.reduceToNat,Nat.reduceSub,Nat.reduceMod,Nat.reduceDiv,indexK.aggOf,Int.reducePow,Int.reduceLE,Int.reduceNeg,Int.reduceLT,Int.reduceBEq,Int.reduceBNe,Int.reduceEq,ownA,nilA,Try.facts,dT,dF,qT,qF,nT,nF,Bool.false_and,Bool.and_false,putCells_eq,set_other,n47,n74,hKi,hK2,hK22,Nat.zero_mul,Nat.le_refl]
          intro b9 hb90 hb9
          have n49 := set_ne (subset_set hb9)
          have n79 := set_ne hb9
          have n94 := fun e : b9 = b4 => n49 e.symm
          have n97 := fun e : b9 = b7 => n79 e.symm
          have hb9H := subset_set (subset_set hb9)
          have p1 := ne_live hi hb9H
          have p2 := ne_live hm hb9H
          try simp (disch := omega) only [↓runPre,runPost,fieldO,ixA,cutA,lenA,aggA,rowA,appA,mkA,indA,bnd,srcA,sameOp,funcA,cvO,partA,aggD,↓PostP,resV,resAll,resOne,resVF,resAllF,resOneF,fitsAll,fitsR,fits,frz,Post,Nat.reduceBEq,Nat.reduceLT,reduceCtorEq,↓reduceIte,initS,AV.cellsOf,AV.fine,AV.one,repA,Nat.reduceMul,Nat.reduceAdd,Nat.reduceLeDiff,Nat.reduceEqDiff,Int.reduceToNat,Nat.reduceSub,Nat.reduceMod,Nat.reduceDiv,indexK.aggOf,Int.reducePow,Int.reduceLE,Int.reduceNeg,Int.reduceLT,Int.reduceBEq,Int.reduceBNe,Int.reduceEq,ownA,nilA,Try.facts,dT,dF,qT,qF,nT,nF,Bool.false_and,Bool.and_false,putCells_eq,set_other,n47,n74,n49,n79,n94,n97]
          refine loop_t (c := ⟨Try.prog,68,[(6,[0,0,0,1,1,1,0,0,0]),(10,[0,0,0,1,1,1,0,0,1,0]),(11,[0,0,0,1,1,1,0,0,0,1,2]),(4000011,[0,4,9]),(4000010,[0,4,9,56]),(4000009,[0,4,9]),(4000006,[0,4,7,8]),(4000005,[0,4,7]),(4000001,[0,1,4,21])],[],[]⟩) Try.mixed (by kernel_rfl) (fun mm σ H' => ∃ (z : EId) (W : List Nd),Deep L mm z ∧ z ∈ idsOf L ∧ all L G (a1,a2) true = all L G z false ++ ndOf L G z :: W ∧
            H' = ((H.set b4 (.cells [.sc (.int .i64 0),.sc (.int .i64 0)] 27 2)).set b7 (.cells [.sc (.int .i64 a1),.sc (.int .i64 a2)] 27 2)).set b9 (.cells [.sc (.int .i64 z.1),.sc (.int .i64 z.2)] 27 2) ∧ σ 0 = .ptr h 0 ∧ σ 4 = .ptr b4 0 ∧ σ 9 = .ptr b9 0) (L.length + 1) ?_ ?_
          · obtain ⟨W,hW⟩ := hz
            refine ⟨y,W,t.g.deep y,hyi,hW,?_⟩
            simp (disch := omega) only [↓runPre,runPost,fieldO,ixA,cutA,lenA,aggA,rowA,appA,mkA,indA,bnd,srcA,sameOp,funcA,cvO,partA,aggD,↓PostP,resV,resAll,resOne,resVF,resAllF,resOneF,fitsAll,fitsR,fits,frz,Post,Nat.reduceBEq,Nat.reduceLT,reduceCtorEq,↓reduceIte,initS,AV.cellsOf,AV.fine,AV.one,repA,Nat.reduceMul,Nat.reduceAdd,Nat.reduceLeDiff,Nat.reduceEqDiff,Int.reduceToNat,Nat.reduceSub,Nat.reduceMod,Nat.reduceDiv,indexK.aggOf,Int.reducePow,Int.reduceLE,Int.reduceNeg,Int.reduceLT,Int.reduceBEq,Int.reduceBNe,Int.reduceEq,ownA,nilA,Try.facts]
            try rfl
          · clear hz hK2 hKi hyi hKpos hkl hf
            rintro mm σ H' ⟨z,W,hd,hzi,hW,rfl,s0,s4,s9⟩
            have hf := find_ids (nodeA L G) z t.ord 0
            rw [if_pos (t.ord_mem.2 hzi),hE] at hf
            have hkl := kids_length L z false
            have hKi := idsC_length (kids L z false)
            have hallz := t.g.all_eq (G := G) z false
            have hkid : ∀ y ∈ kids L z false,y ∈ idsOf L := fun y hy => by
              obtain ⟨i,hi,e,-⟩ := mem_kids.1 hy
              exact List.mem_cons_of_mem _ (List.mem_map.2 ⟨i,hi,e⟩)
            have hdk := fun y (h : y ∈ kids L z false) => hd.kid h
            obtain ⟨K1,hK1⟩ : ∃ K1,K1 = kids L z true := ⟨_,rfl⟩
            obtain ⟨K0,hK0⟩ : ∃ K0,K0 = kids L z false := ⟨_,rfl⟩
            unfold nodeA nodeC at hf
            rw [← hK1,← hK0] at hf
            rw [← hK0] at hkl hKi hallz hkid hdk
            obtain ⟨z1,z2⟩ := z
            simp only [] at hf
            cases K0 with
            | nil =>
              have hz0 : (([] : List EId).length : Nat) = 0 := rfl
              rw [hallz] at hW
              simp only [List.flatMap_nil,List.nil_append] at hW
              rw [hpz _ _ hW]
              simp (disch := omega) only [↓runPre,runPost,fieldO,ixA,cutA,lenA,aggA,rowA,appA,mkA,indA,bnd,srcA,sameOp,funcA,cvO,partA,aggD,↓PostP,resV,resAll,resOne,resVF,resAllF,resOneF,fitsAll,fitsR,fits,frz,Post,Nat.reduceBEq,Nat.reduceLT,reduceCtorEq,↓reduceIte,initS,AV.cellsOf,AV.fine,AV.one,repA,Nat.reduceMul,Nat.reduceAdd,Nat.reduceLeDiff,Nat.reduceEqDiff,Int.reduceToNat,Nat.reduceSub,Nat.reduceMod,Nat.reduceDiv,indexK.aggOf,Int.reducePow,Int.reduceLE,Int.reduceNeg,Int.reduceLT,Int.reduceBEq,Int.reduceBNe,Int.reduceEq,ownA,nilA,Try.facts,s0,s4,s9,dT,dF,qT,qF,nT,nF,Bool.false_and,Bool.and_false,putCells_eq,set_other,n47,n74,n49,n79,n94,n97,n1,n2,m1,m2,p1,p2,hi,hm',hf,hz0]
              exact ⟨_,rfl,H,(((hsub _ _).set_free hb9H).set_free hb4),rfl,rfl⟩
            | cons v K =>
              have hK2 : (idsC (v :: K)).take 2 = [.sc (.int .i64 v.1),.sc (.int .i64 v.2)] := rfl
              have hKpos : 0 < (v :: K).length := by simp
              obtain ⟨mq,hmq,hdv⟩ := hdk v (by simp)
              have hvi := hkid v (by simp)
              have hW2 : ∃ W,all L G (a1,a2) true = all L G v false ++ ndOf L G v :: W := by
                rw [hW,hallz,List.flatMap_cons]
                exact ⟨_,by simp only [List.append_assoc,List.cons_append,List.nil_append]; rfl⟩
              clear hallz hkid hdk hW hK0
              generalize (v :: K) = KK at *
              have hK22 : 2 ≤ KK.length * 2 := by omega
              simp (disch := omega) only [↓runPre,runPost,fieldO,ixA,cutA,lenA,aggA,rowA,appA,mkA,indA,bnd,srcA,sameOp,funcA,cvO,partA,aggD,↓PostP,resV,resAll,resOne,resVF,resAllF,resOneF,fitsAll,fitsR,fits,frz,Post,Nat.reduceBEq,Nat.reduceLT,reduceCtorEq,↓reduceIte,initS,AV.cellsOf,AV.fine,AV.one,repA,Nat.reduceMul,Nat.reduceAdd,Nat.reduceLeDiff,Nat.reduceEqDiff,Int.reduceToNat,Nat.reduceSub,Nat.reduceMod,Nat.reduceDiv,indexK.aggOf,Int.reducePow,Int.reduceLE,Int.reduceNeg,Int.reduceLT,Int.reduceBEq,Int.reduceBNe,Int.reduceEq,ownA,nilA,Try.facts,s0,s4,s9,dT,dF,qT,qF,nT,nF,Bool.false_and,Bool.and_false,putCells_eq,set_other,n47,n74,n49,n79,n94,n97,n1,n2,m1,m2,p1,p2,hi,hm',hf,hKi,hK2,hK22,Nat.zero_mul,Nat.le_refl]
              obtain ⟨W2,hW2⟩ := hW2
              exact ⟨mq,by omega,v,W2,hdv,hvi,hW2,rfl⟩
    · rw [if_neg (by omega)]
      simp (disch := omega) only [↓runPre,runPost,fieldO,ixA,cutA,lenA,aggA,rowA,appA,mkA,indA,bnd,srcA,sameOp,funcA,cvO,partA,aggD,↓PostP,resV,resAll,resOne,resVF,resAllF,resOneF,fitsAll,fitsR,fits,frz,Post,Nat.reduceBEq,Nat.reduceLT,reduceCtorEq,↓reduceIte,initS,AV.cellsOf,AV.fine,AV.one,repA,Nat.reduceMul,Nat.reduceAdd,Nat.reduceLeDiff,Nat.reduceEqDiff,Int.reduceToNat,Nat.reduceSub,Nat.reduceMod,Nat.reduceDiv,indexK.aggOf,Int.reducePow,Int.reduceLE,Int.reduceNeg,Int.reduceLT,Int.reduceBEq,Int.reduceBNe,Int.reduceEq,ownA,nilA,Try.facts,dT,dF,qT,qF,nT,nF,Bool.false_and,Bool.and_false,putCells_eq]
      exact ⟨_,rfl,H,(Abs.Sub.refl H).set_free hb4,rfl,rfl⟩
end Go.Proofs.Ytgkpidbeoccpnaa
