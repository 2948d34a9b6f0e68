/-
  Several texts in one: each says what it proves.
  Conditions: none. Lemmas only.
-/
import Derived.Test.YtcgjlmopeblapaaGreatFugG1
import Derived.Test.YtcgjlmopeblapaaGreatAbsG6
set_option linter.all false
section
set_option linter.unusedSimpArgs false
set_option linter.unusedVariables false
set_option maxRecDepth 8000
set_option maxHeartbeats 4000000
namespace Go.Proofs.YtcgjlmopeblapaaGreat
open Go Go.Abs Go.Proofs Go.Fug
structure Mk where
  clock : Int
  author : Int
  fid : EId
  fb : Bool
  tid : EId
  tb : Bool
  name : Int
  value : Int
deriving DecidableEq
def mkC (m : Mk) : List AV := [.sc (.int .i64 m.clock),.sc (.int .i64 m.author),.sc (.int .i64 m.fid.1),.sc (.int .i64 m.fid.2),.sc (.bool m.fb),.sc (.int .i64 m.tid.1),.sc (.int .i64 m.tid.2),.sc (.bool m.tb),.sc (.int .i64 m.name),.sc (.int .i64 m.value)]
def bE (l : List Mk) : List AV := l.flatMap mkC
abbrev eM (l : List Mk) : AV := .imm 0 (bE l) l.length
theorem mkC_len (m : Mk) : (mkC m).length = 10 := rfl
theorem bM (l : List Mk) : (bE l).length = l.length * 10 := by
  induction l with
  | nil => rfl
  | cons t r ih => simp only [bE,List.flatMap_cons,List.length_append,List.length_cons] at *; rw [ih,mkC_len]; omega
theorem mksC_append (l r : List Mk) : bE (l ++ r) = bE l ++ bE r := by simp [bE]
theorem mksC_cut (l : List Mk) (i : Nat) (h : i ≤ l.length) : (bE l).take (i * 10) = bE (l.take i) ∧ (bE l).drop (i * 10) = bE (l.drop i) := by
  have e : bE l = bE (l.take i) ++ bE (l.drop i) := by rw [← mksC_append,List.take_append_drop]
  have e2 : (bE (l.take i)).length = i * 10 := by rw [bM,List.length_take]; congr 1; omega
  rw [e]
  exact ⟨List.take_left' e2,List.drop_left' e2⟩
theorem mksC_load {l : List Mk} {i : Nat} (h : i < l.length) : ((bE l).drop (i * 10)).take 10 = mkC l[i] := by
  rw [(mksC_cut l i (by omega)).2,List.drop_eq_getElem_cons h]
  show (mkC l[i] ++ bE _).take 10 = _
  exact List.take_left' rfl
theorem mksC_snoc (l : List Mk) (m : Mk) : bE l ++ mkC m = bE (l ++ [m]) := by simp [bE]
def du (l : List Mk) (i : Nat) (m : Mk) : List Mk := l.take i ++ m :: l.drop i
theorem insM_length (l : List Mk) (i : Nat) (m : Mk) (h : i ≤ l.length) : (du l i m).length = l.length + 1 := by simp [du]; omega
theorem insM_cells (l : List Mk) (i : Nat) (m : Mk) : bE (du l i m) = bE (l.take i) ++ (mkC m ++ bE (l.drop i)) := by
  unfold du
  rw [mksC_append]
  rfl
theorem insert_own (H : AH) (k kv : Nat) (l : List Mk) (i : Nat) (m : Mk) (hl : l.length ≤ 100000) (hi : i ≤ l.length) (hk : H k = some (.cells (bE l) 56 10)) (hv : H kv = some (.cells (mkC m) 56 10)) (hne : kv ≠ k) (hk0 : k ≠ 0) :
    ACalls Tryz.prog 99 [.own k 0 l.length,.sc (.int .i64 (i : Nat)),.own kv 0 1] H fun v H' =>
      ∃ k',v = .own k' 0 (l.length + 1) ∧ k' ≠ 0 ∧ (k' = k ∨ H k' = none) ∧ H' k' = some (.cells (bE (du l i m)) 56 10) ∧ ∀ y o,y ≠ k → H y = some o → H' y = some o := by
  have hll := bM l
  have hml := mkC_len m
  have htk : (mkC m).take 10 = mkC m := rfl
  have htl : (bE l).take (l.length * 10) = bE l := List.take_of_length_le (by omega)
  have hi1 : ((l.length : Nat) : Int) + 1 = ((l.length + 1 : Nat) : Int) := rfl
  by_cases hin : i = l.length
  · subst hin
    have hfin : bE (du l l.length m) = bE l ++ mkC m := by rw [insM_cells,List.take_length,List.drop_length]; simp [bE]
    rcases Nat.eq_zero_or_pos l.length with h0 | h0
    all_goals
      refine ao (c := ⟨Tryz.prog,95,[(11,[0,0,0,0,0,0,0,0,2]),(15,[0,0,0,0,0,0,0,0,2]),(4000019,[0]),(4000018,[0,1,7]),(4000016,[0]),(4000015,[0,1,2]),(4000014,[0,1,2,7,8,68]),(4000013,[0,1,2,7,8]),(4000011,[9]),(4000010,[0,1,7,9]),(4000009,[0,1,2,7,9]),(4000008,[0,1,2,7,8,31])],[1000025,2000060,3000040],[]⟩) (rs := [ResultVar.tmp 6]) Tryz.mixed Tryz.func99 rfl rfl rfl (Nat.le_of_ble_eq_true rfl) (by kernel_rfl) ?_
      simp (disch := omega) only [↓aI,↓zP,aD,zD,aS,Nat.reduceBEq,Nat.reduceLT,reduceCtorEq,↓reduceIte,Nat.reduceMul,Nat.reduceAdd,Nat.reduceLeDiff,Nat.reduceEqDiff,Int.reduceToNat,Nat.reduceSub,Nat.reduceMod,Nat.reduceDiv,Int.reducePow,Int.reduceLE,Int.reduceNeg,Int.reduceLT,Int.reduceBEq,Int.reduceBNe,Int.reduceEq,Tryz.facts,zA,hll,hml,hk,hv,Int.reduceToNat,htk,htl,Nat.le_refl]
      intro k' hk'
      have hk'0 : k' ≠ 0 := by
        rcases hk' with rfl | ⟨h1,-⟩
        · exact hk0
        · exact h1
      refine ⟨_,rfl,_,Abs.Sub.refl _,k',rfl,hk'0,hk'.imp id fun h => h.2,by rw [set_get,hfin],fun y o hy ho => ?_⟩
      have hyk : ¬ y = k' := fun e => by
        rcases hk' with e2 | ⟨-,h2⟩
        · exact hy (e.trans e2)
        · rw [e,h2] at ho; cases ho
      rw [aP hyk,bZ hy]
      exact ho
  · have hlt : i < l.length := by omega
    obtain ⟨ht1,ht2⟩ := mksC_cut l i hi
    have hsz : ai Tryz.prog 56 = 10 := Tryz.sz56
    have hT : ax Tryz.prog 56 = true := Tryz.ha56
    have hby : ay Tryz.prog 56 = 80 := Tryz.by56
    have hdl : (bE (l.drop i)).length = (l.length - i) * 10 := by rw [bM,List.length_drop]
    have htl1 : (bE (l.take i)).length = i * 10 := by rw [bM,List.length_take]; congr 1; omega
    have P1 : bG (bE (l.take i)) (i * 10) (mkC m) = bE (l.take i) ++ mkC m := by
      unfold bG
      rw [List.take_of_length_le (by omega),List.drop_of_length_le (by omega),List.append_nil]
    have P2 : bG (bE (l.take i) ++ mkC m) ((i + 1) * 10) (bE (l.drop i)) = bE (du l i m) := by
      unfold bG
      have : (bE (l.take i) ++ mkC m).length = (i + 1) * 10 := by rw [List.length_append,htl1,hml]; omega
      have e9 : (bE (l.take i) ++ mkC m).drop ((i + 1) * 10 + (bE (l.drop i)).length) = [] := List.drop_of_length_le (by omega)
      rw [List.take_of_length_le (by omega),e9,List.append_nil,insM_cells,List.append_assoc]
    have Q1 : bG (bE l) ((i + 1) * 10) (bE (l.drop i)) = bE (l.take (i + 1)) ++ bE (l.drop i) := by
      unfold bG
      have e9 : (bE l).drop ((i + 1) * 10 + (bE (l.drop i)).length) = [] := List.drop_of_length_le (by omega)
      rw [(mksC_cut l (i + 1) (by omega)).1,e9,List.append_nil]
    have Q2 : bG (bE (l.take (i + 1)) ++ bE (l.drop i)) (i * 10) (mkC m) = bE (du l i m) := by
      have e1 : bE (l.take (i + 1)) = bE (l.take i) ++ mkC l[i] := by rw [List.take_add_one,List.getElem?_eq_getElem hlt,mksC_append]; rfl
      have t1 : (bE (l.take i) ++ mkC l[i] ++ bE (l.drop i)).take (i * 10) = bE (l.take i) := by rw [List.append_assoc]; exact List.take_left' htl1
      have t2 : (bE (l.take i) ++ mkC l[i] ++ bE (l.drop i)).drop (i * 10 + (mkC m).length) = bE (l.drop i) := List.drop_left' (by rw [List.length_append,htl1,mkC_len,hml])
      unfold bG
      rw [e1,t1,t2,insM_cells,List.append_assoc]
    have hls : l.length * 10 = (bE l).length := hll.symm
    rcases Nat.eq_zero_or_pos i with h0 | h0
    · have z0 : i * 10 = 0 := by omega
      have ht20 := ht2
      have P10 := P1
      have Q20 := Q2
      rw [z0] at ht20 P10 Q20
      refine ao (c := ⟨Tryz.prog,95,[(11,[0,0,0,0,0,0,0,0,2]),(15,[0,0,0,0,0,0,0,0,2]),(4000019,[0]),(4000018,[0,1,7]),(4000016,[0]),(4000015,[0,1,2]),(4000014,[0,1,2,7,8,68]),(4000013,[0,1,2,7,8]),(4000011,[9]),(4000010,[0,1,7,9]),(4000009,[0,1,2,7,9]),(4000008,[0,1,2,7,8,31])],[1000025,2000060,3000040],[]⟩) (rs := [ResultVar.tmp 6]) Tryz.mixed Tryz.func99 rfl rfl rfl (Nat.le_of_ble_eq_true rfl) (by kernel_rfl) ?_
      simp (disch := omega) only [↓aI,↓zP,aD,zD,aS,Nat.reduceBEq,Nat.reduceLT,reduceCtorEq,↓reduceIte,Nat.reduceMul,Nat.reduceAdd,Nat.reduceLeDiff,Nat.reduceEqDiff,Int.reduceToNat,Nat.reduceSub,Nat.reduceMod,Nat.reduceDiv,Int.reducePow,Int.reduceLE,Int.reduceNeg,Int.reduceLT,Int.reduceBEq,Int.reduceBNe,Int.reduceEq,Tryz.facts,zA,hll,hml,hk,hv,Int.reduceToNat,htk,htl,Nat.le_refl]
      refine cap_m (e := 56) (by kernel_rfl) fun g c hg0 hg hnc hcm => ?_
      have hgk := bA hk hg
      have hgv := bA hv hg
      have hk1 : (H.set g (.note k c)) k = some (.cells (bE l) 56 10) := by rw [aP hgk]; exact hk
      have hv1 : (H.set g (.note k c)) kv = some (.cells (mkC m) 56 10) := by rw [aP hgv]; exact hv
      have hg1 : (H.set g (.note k c)) g = some (.note k c) := set_get
      have hfr1 : ∀ y o,H y = some o → (H.set g (.note k c)) y = some o := fun y o ho => by rw [aP (bA ho hg)]; exact ho
      generalize H.set g (.note k c) = H1 at *
      by_cases hgr : c < l.length + 1
      · simp (disch := omega) only [↓aI,↓zP,aD,zD,aS,Nat.reduceBEq,Nat.reduceLT,reduceCtorEq,↓reduceIte,Nat.reduceMul,Nat.reduceAdd,Nat.reduceLeDiff,Nat.reduceEqDiff,Int.reduceToNat,Nat.reduceSub,Nat.reduceMod,Nat.reduceDiv,Int.reducePow,Int.reduceLE,Int.reduceNeg,Int.reduceLT,Int.reduceBEq,Int.reduceBNe,Int.reduceEq,Tryz.facts,zA,hll,hml,hk1,hv1,Int.reduceToNat]
        refine grow_m (e := 56) (kn := .i64) (g := g) (c := c) (cs := bE l) (by kernel_rfl) (by kernel_rfl) (by rw [hsz]; exact hk1) hg1 hT (by omega) (by rw [hsz]; omega) (by omega) (by omega) (by unfold maxLen; omega) (by rw [hby]; omega) fun k2 g2 c2 hk20 hk2 hg20 hg2 hgk2 hc2 => ?_
        have f2 : ∀ y o,H1 y = some o → ¬ y = k2 := fun y o ho => bA ho hk2
        have f3 : ∀ y o,H1 y = some o → ¬ y = g2 := fun y o ho => bA ho hg2
        rw [hsz,ht1]
        have v2 : ((H1.set k2 (.cells (bE (l.take i)) 56 10)).set g2 (.note k2 c2)) k2 = some (.cells (bE (l.take i)) 56 10) := by rw [aP (fun e => hgk2 e.symm),set_get]
        have vk : ((H1.set k2 (.cells (bE (l.take i)) 56 10)).set g2 (.note k2 c2)) k = some (.cells (bE l) 56 10) := by rw [aP (f3 _ _ hk1),aP (f2 _ _ hk1)]; exact hk1
        have vv : ((H1.set k2 (.cells (bE (l.take i)) 56 10)).set g2 (.note k2 c2)) kv = some (.cells (mkC m) 56 10) := by rw [aP (f3 _ _ hv1),aP (f2 _ _ hv1)]; exact hv1
        have vg : ((H1.set k2 (.cells (bE (l.take i)) 56 10)).set g2 (.note k2 c2)) g2 = some (.note k2 c2) := set_get
        have hfr2 : ∀ y o,H1 y = some o → ((H1.set k2 (.cells (bE (l.take i)) 56 10)).set g2 (.note k2 c2)) y = some o := fun y o ho => by rw [aP (f3 _ _ ho),aP (f2 _ _ ho)]; exact ho
        have hkk2 : ¬ k = k2 := f2 _ _ hk1
        have hvk2 : ¬ kv = k2 := f2 _ _ hv1
        generalize (H1.set k2 (.cells (bE (l.take i)) 56 10)).set g2 (.note k2 c2) = H2 at *
        have hik : i + (l.length + 1 - i) = l.length + 1 := by omega
        simp (disch := omega) only [↓aI,↓zP,aD,zD,aS,Nat.reduceBEq,Nat.reduceLT,reduceCtorEq,↓reduceIte,Nat.reduceMul,Nat.reduceAdd,Nat.reduceLeDiff,Nat.reduceEqDiff,Int.reduceToNat,Nat.reduceSub,Nat.reduceMod,Nat.reduceDiv,Int.reducePow,Int.reduceLE,Int.reduceNeg,Int.reduceLT,Int.reduceBEq,Int.reduceBNe,Int.reduceEq,Tryz.facts,zA,hll,hml,hik]
        have hm1 : min 1 (l.length + 1) = 1 := by omega
        refine copy_m (e := 56) (ns := 1) (cs := bE (l.take i)) (news := mkC m) (by kernel_rfl) rfl (by rw [hsz]; exact v2) ⟨mkC m,_,by rw [hsz]; exact vv,by omega,by rw [hm1,hsz,hml]; omega,by rw [hm1,hsz]; rfl⟩ (by rw [hm1,hsz]; rfl) hT (by omega) (by omega) (.inr ⟨c2,⟨g2,c2,vg,Nat.le_refl _⟩,by rw [hsz,hml]; omega⟩) ?_
        rw [hsz,P10]
        have w2 : (H2.set k2 (.cells (bE (l.take i) ++ mkC m) 56 10)) k2 = some (.cells (bE (l.take i) ++ mkC m) 56 10) := set_get
        have wk : (H2.set k2 (.cells (bE (l.take i) ++ mkC m) 56 10)) k = some (.cells (bE l) 56 10) := by rw [aP hkk2]; exact vk
        have wg : (H2.set k2 (.cells (bE (l.take i) ++ mkC m) 56 10)) g2 = some (.note k2 c2) := by rw [aP hgk2]; exact vg
        have hfr3 : ∀ y o,y ≠ k2 → H2 y = some o → (H2.set k2 (.cells (bE (l.take i) ++ mkC m) 56 10)) y = some o := fun y o hy ho => by rw [aP hy]; exact ho
        generalize H2.set k2 (.cells (bE (l.take i) ++ mkC m) 56 10) = H3 at *
        have hm2 : min l.length (l.length + 1 - (i + 1)) = l.length - i := by omega
        have hl2 : (bE (l.take i) ++ mkC m).length = (i + 1) * 10 := by rw [List.length_append,htl1,hml]; omega
        simp (disch := omega) only [↓aI,↓zP,aD,zD,aS,Nat.reduceBEq,Nat.reduceLT,reduceCtorEq,↓reduceIte,Nat.reduceMul,Nat.reduceAdd,Nat.reduceLeDiff,Nat.reduceEqDiff,Int.reduceToNat,Nat.reduceSub,Nat.reduceMod,Nat.reduceDiv,Int.reducePow,Int.reduceLE,Int.reduceNeg,Int.reduceLT,Int.reduceBEq,Int.reduceBNe,Int.reduceEq,Tryz.facts,zA,hll,hml]
        refine copy_m (e := 56) (ns := l.length) (cs := bE (l.take i) ++ mkC m) (news := bE (l.drop i)) (by kernel_rfl) rfl (by rw [hsz]; exact w2) ⟨bE l,_,by rw [hsz]; exact wk,by omega,by rw [hm2,hsz,hll]; omega,by rw [hm2,hsz,ht20]; exact (List.take_of_length_le (by omega)).symm⟩ (by rw [hm2,hsz]; exact hdl) hT (by omega) (by omega) (.inr ⟨c2,⟨g2,c2,wg,Nat.le_refl _⟩,by rw [hsz,hdl]; omega⟩) ?_
        rw [hsz,P2]
        simp (disch := omega) only [↓aI,↓zP,aD,zD,aS,Nat.reduceBEq,Nat.reduceLT,reduceCtorEq,↓reduceIte,Nat.reduceMul,Nat.reduceAdd,Nat.reduceLeDiff,Nat.reduceEqDiff,Int.reduceToNat,Nat.reduceSub,Nat.reduceMod,Nat.reduceDiv,Int.reducePow,Int.reduceLE,Int.reduceNeg,Int.reduceLT,Int.reduceBEq,Int.reduceBNe,Int.reduceEq,Tryz.facts,zA]
        refine ⟨_,rfl,_,Abs.Sub.refl _,k2,rfl,hk20,.inr ?_,set_get,fun y o hy ho => ?_⟩
        · cases hz : H k2 with
          | none => rfl
          | some o => exact absurd rfl (f2 _ _ (hfr1 _ _ hz))
        · have h1 := hfr1 _ _ ho
          have h2 := f2 _ _ h1
          rw [aP h2]
          exact hfr3 _ _ h2 (hfr2 _ _ h1)
      · simp (disch := omega) only [↓aI,↓zP,aD,zD,aS,Nat.reduceBEq,Nat.reduceLT,reduceCtorEq,↓reduceIte,Nat.reduceMul,Nat.reduceAdd,Nat.reduceLeDiff,Nat.reduceEqDiff,Int.reduceToNat,Nat.reduceSub,Nat.reduceMod,Nat.reduceDiv,Int.reducePow,Int.reduceLE,Int.reduceNeg,Int.reduceLT,Int.reduceBEq,Int.reduceBNe,Int.reduceEq,Tryz.facts,zA,hll,hml,hk1,hv1,Int.reduceToNat]
        refine slice_m (e := 56) (l := 0) (u := l.length + 1) (by kernel_rfl) rfl rfl (by omega) (.inr ⟨rfl,g,c,hg1,by omega⟩) hT (by omega) ?_
        rw [hsz]
        have hov := ext_overlaps (P := Tryz.prog) (f := 112) (t := 84) (rt := 4) (e := 56) Tryz.func112 (by kernel_rfl) (by kernel_rfl) (by kernel_rfl) (by kernel_rfl) (by kernel_rfl) hT (nv := 1) (off := (i + 1) * 10) (n := l.length + 1 - (i + 1)) hv1 hk1 hne (by omega)
        simp (disch := omega) only [↓aI,↓zP,aD,zD,aS,Nat.reduceBEq,Nat.reduceLT,reduceCtorEq,↓reduceIte,Nat.reduceMul,Nat.reduceAdd,Nat.reduceLeDiff,Nat.reduceEqDiff,Int.reduceToNat,Nat.reduceSub,Nat.reduceMod,Nat.reduceDiv,Int.reducePow,Int.reduceLE,Int.reduceNeg,Int.reduceLT,Int.reduceBEq,Int.reduceBNe,Int.reduceEq,Tryz.facts,zA,hll,hml,Nat.sub_zero]
        refine CallK.i hov ?_
        rintro v E ⟨rfl,rfl⟩
        simp (disch := omega) only [↓aI,↓zP,aD,zD,aS,Nat.reduceBEq,Nat.reduceLT,reduceCtorEq,↓reduceIte,Nat.reduceMul,Nat.reduceAdd,Nat.reduceLeDiff,Nat.reduceEqDiff,Int.reduceToNat,Nat.reduceSub,Nat.reduceMod,Nat.reduceDiv,Int.reducePow,Int.reduceLE,Int.reduceNeg,Int.reduceLT,Int.reduceBEq,Int.reduceBNe,Int.reduceEq,Tryz.facts,zA,hll,hml]
        have hm2 : min (l.length + 1) (l.length + 1 - (i + 1)) = l.length - i := by omega
        refine copy_m (e := 56) (ns := l.length + 1) (cs := bE l) (news := bE (l.drop i)) (by kernel_rfl) rfl (by rw [hsz]; exact hk1) ⟨bE l,_,by rw [hsz]; exact hk1,by omega,by rw [hm2,hsz,hll]; omega,by rw [hm2,hsz,ht20]; exact (List.take_of_length_le (by omega)).symm⟩ (by rw [hm2,hsz]; exact hdl) hT (by omega) (by omega) (.inr ⟨c,⟨g,c,hg1,Nat.le_refl _⟩,by rw [hsz,hdl]; omega⟩) ?_
        rw [hsz,Q1]
        have hgk' : ¬ g = k := fun e => hgk e.symm
        have w1 : (E.set k (.cells (bE (l.take (i + 1)) ++ bE (l.drop i)) 56 10)) k = some (.cells (bE (l.take (i + 1)) ++ bE (l.drop i)) 56 10) := set_get
        have wv : (E.set k (.cells (bE (l.take (i + 1)) ++ bE (l.drop i)) 56 10)) kv = some (.cells (mkC m) 56 10) := by rw [aP hne]; exact hv1
        have hfr3 : ∀ y o,y ≠ k → E y = some o → (E.set k (.cells (bE (l.take (i + 1)) ++ bE (l.drop i)) 56 10)) y = some o := fun y o hy ho => by rw [aP hy]; exact ho
        generalize E.set k (.cells (bE (l.take (i + 1)) ++ bE (l.drop i)) 56 10) = H3 at *
        have hm1 : min 1 (l.length + 1) = 1 := by omega
        have hl3 : (bE (l.take (i + 1)) ++ bE (l.drop i)).length = (l.length + 1) * 10 := by rw [List.length_append,hdl,bM,List.length_take]; omega
        simp (disch := omega) only [↓aI,↓zP,aD,zD,aS,Nat.reduceBEq,Nat.reduceLT,reduceCtorEq,↓reduceIte,Nat.reduceMul,Nat.reduceAdd,Nat.reduceLeDiff,Nat.reduceEqDiff,Int.reduceToNat,Nat.reduceSub,Nat.reduceMod,Nat.reduceDiv,Int.reducePow,Int.reduceLE,Int.reduceNeg,Int.reduceLT,Int.reduceBEq,Int.reduceBNe,Int.reduceEq,Tryz.facts,zA,hll,hml]
        refine copy_m (e := 56) (ns := 1) (cs := bE (l.take (i + 1)) ++ bE (l.drop i)) (news := mkC m) (by kernel_rfl) rfl (by rw [hsz]; exact w1) ⟨mkC m,_,by rw [hsz]; exact wv,by omega,by rw [hm1,hsz,hml]; omega,by rw [hm1,hsz]; rfl⟩ (by rw [hm1,hsz]; rfl) hT (by omega) (by omega) (.inl (by omega)) ?_
        rw [hsz,Q20]
        simp (disch := omega) only [↓aI,↓zP,aD,zD,aS,Nat.reduceBEq,Nat.reduceLT,reduceCtorEq,↓reduceIte,Nat.reduceMul,Nat.reduceAdd,Nat.reduceLeDiff,Nat.reduceEqDiff,Int.reduceToNat,Nat.reduceSub,Nat.reduceMod,Nat.reduceDiv,Int.reducePow,Int.reduceLE,Int.reduceNeg,Int.reduceLT,Int.reduceBEq,Int.reduceBNe,Int.reduceEq,Tryz.facts,zA]
        refine ⟨_,rfl,_,Abs.Sub.refl _,k,rfl,hk0,.inl rfl,set_get,fun y o hy ho => ?_⟩
        rw [aP hy]
        exact hfr3 _ _ hy (hfr1 _ _ ho)
    · refine ao (c := ⟨Tryz.prog,95,[(11,[0,0,0,0,0,0,0,0,2]),(15,[0,0,0,0,0,0,0,0,2]),(4000019,[0]),(4000018,[0,1,7]),(4000016,[0]),(4000015,[0,1,2]),(4000014,[0,1,2,7,8,68]),(4000013,[0,1,2,7,8]),(4000011,[9]),(4000010,[0,1,7,9]),(4000009,[0,1,2,7,9]),(4000008,[0,1,2,7,8,31])],[1000025,2000060,3000040],[]⟩) (rs := [ResultVar.tmp 6]) Tryz.mixed Tryz.func99 rfl rfl rfl (Nat.le_of_ble_eq_true rfl) (by kernel_rfl) ?_
      simp (disch := omega) only [↓aI,↓zP,aD,zD,aS,Nat.reduceBEq,Nat.reduceLT,reduceCtorEq,↓reduceIte,Nat.reduceMul,Nat.reduceAdd,Nat.reduceLeDiff,Nat.reduceEqDiff,Int.reduceToNat,Nat.reduceSub,Nat.reduceMod,Nat.reduceDiv,Int.reducePow,Int.reduceLE,Int.reduceNeg,Int.reduceLT,Int.reduceBEq,Int.reduceBNe,Int.reduceEq,Tryz.facts,zA,hll,hml,hk,hv,Int.reduceToNat,htk,htl,Nat.le_refl]
      refine cap_m (e := 56) (by kernel_rfl) fun g c hg0 hg hnc hcm => ?_
      have hgk := bA hk hg
      have hgv := bA hv hg
      have hk1 : (H.set g (.note k c)) k = some (.cells (bE l) 56 10) := by rw [aP hgk]; exact hk
      have hv1 : (H.set g (.note k c)) kv = some (.cells (mkC m) 56 10) := by rw [aP hgv]; exact hv
      have hg1 : (H.set g (.note k c)) g = some (.note k c) := set_get
      have hfr1 : ∀ y o,H y = some o → (H.set g (.note k c)) y = some o := fun y o ho => by rw [aP (bA ho hg)]; exact ho
      generalize H.set g (.note k c) = H1 at *
      by_cases hgr : c < l.length + 1
      · simp (disch := omega) only [↓aI,↓zP,aD,zD,aS,Nat.reduceBEq,Nat.reduceLT,reduceCtorEq,↓reduceIte,Nat.reduceMul,Nat.reduceAdd,Nat.reduceLeDiff,Nat.reduceEqDiff,Int.reduceToNat,Nat.reduceSub,Nat.reduceMod,Nat.reduceDiv,Int.reducePow,Int.reduceLE,Int.reduceNeg,Int.reduceLT,Int.reduceBEq,Int.reduceBNe,Int.reduceEq,Tryz.facts,zA,hll,hml,hk1,hv1,Int.reduceToNat]
        refine grow_m (e := 56) (kn := .i64) (g := g) (c := c) (cs := bE l) (by kernel_rfl) (by kernel_rfl) (by rw [hsz]; exact hk1) hg1 hT (by omega) (by rw [hsz]; omega) (by omega) (by omega) (by unfold maxLen; omega) (by rw [hby]; omega) fun k2 g2 c2 hk20 hk2 hg20 hg2 hgk2 hc2 => ?_
        have f2 : ∀ y o,H1 y = some o → ¬ y = k2 := fun y o ho => bA ho hk2
        have f3 : ∀ y o,H1 y = some o → ¬ y = g2 := fun y o ho => bA ho hg2
        rw [hsz,ht1]
        have v2 : ((H1.set k2 (.cells (bE (l.take i)) 56 10)).set g2 (.note k2 c2)) k2 = some (.cells (bE (l.take i)) 56 10) := by rw [aP (fun e => hgk2 e.symm),set_get]
        have vk : ((H1.set k2 (.cells (bE (l.take i)) 56 10)).set g2 (.note k2 c2)) k = some (.cells (bE l) 56 10) := by rw [aP (f3 _ _ hk1),aP (f2 _ _ hk1)]; exact hk1
        have vv : ((H1.set k2 (.cells (bE (l.take i)) 56 10)).set g2 (.note k2 c2)) kv = some (.cells (mkC m) 56 10) := by rw [aP (f3 _ _ hv1),aP (f2 _ _ hv1)]; exact hv1
        have vg : ((H1.set k2 (.cells (bE (l.take i)) 56 10)).set g2 (.note k2 c2)) g2 = some (.note k2 c2) := set_get
        have hfr2 : ∀ y o,H1 y = some o → ((H1.set k2 (.cells (bE (l.take i)) 56 10)).set g2 (.note k2 c2)) y = some o := fun y o ho => by rw [aP (f3 _ _ ho),aP (f2 _ _ ho)]; exact ho
        have hkk2 : ¬ k = k2 := f2 _ _ hk1
        have hvk2 : ¬ kv = k2 := f2 _ _ hv1
        generalize (H1.set k2 (.cells (bE (l.take i)) 56 10)).set g2 (.note k2 c2) = H2 at *
        have hik : i + (l.length + 1 - i) = l.length + 1 := by omega
        simp (disch := omega) only [↓aI,↓zP,aD,zD,aS,Nat.reduceBEq,Nat.reduceLT,reduceCtorEq,↓reduceIte,Nat.reduceMul,Nat.reduceAdd,Nat.reduceLeDiff,Nat.reduceEqDiff,Int.reduceToNat,Nat.reduceSub,Nat.reduceMod,Nat.reduceDiv,Int.reducePow,Int.reduceLE,Int.reduceNeg,Int.reduceLT,Int.reduceBEq,Int.reduceBNe,Int.reduceEq,Tryz.facts,zA,hll,hml,hik]
        have hm1 : min 1 (l.length + 1 - i) = 1 := by omega
        refine copy_m (e := 56) (ns := 1) (cs := bE (l.take i)) (news := mkC m) (by kernel_rfl) rfl (by rw [hsz]; exact v2) ⟨mkC m,_,by rw [hsz]; exact vv,by omega,by rw [hm1,hsz,hml]; omega,by rw [hm1,hsz]; rfl⟩ (by rw [hm1,hsz]; rfl) hT (by omega) (by omega) (.inr ⟨c2,⟨g2,c2,vg,Nat.le_refl _⟩,by rw [hsz,hml]; omega⟩) ?_
        rw [hsz,P1]
        have w2 : (H2.set k2 (.cells (bE (l.take i) ++ mkC m) 56 10)) k2 = some (.cells (bE (l.take i) ++ mkC m) 56 10) := set_get
        have wk : (H2.set k2 (.cells (bE (l.take i) ++ mkC m) 56 10)) k = some (.cells (bE l) 56 10) := by rw [aP hkk2]; exact vk
        have wg : (H2.set k2 (.cells (bE (l.take i) ++ mkC m) 56 10)) g2 = some (.note k2 c2) := by rw [aP hgk2]; exact vg
        have hfr3 : ∀ y o,y ≠ k2 → H2 y = some o → (H2.set k2 (.cells (bE (l.take i) ++ mkC m) 56 10)) y = some o := fun y o hy ho => by rw [aP hy]; exact ho
        generalize H2.set k2 (.cells (bE (l.take i) ++ mkC m) 56 10) = H3 at *
        have hm2 : min (l.length - i) (l.length + 1 - (i + 1)) = l.length - i := by omega
        have hl2 : (bE (l.take i) ++ mkC m).length = (i + 1) * 10 := by rw [List.length_append,htl1,hml]; omega
        simp (disch := omega) only [↓aI,↓zP,aD,zD,aS,Nat.reduceBEq,Nat.reduceLT,reduceCtorEq,↓reduceIte,Nat.reduceMul,Nat.reduceAdd,Nat.reduceLeDiff,Nat.reduceEqDiff,Int.reduceToNat,Nat.reduceSub,Nat.reduceMod,Nat.reduceDiv,Int.reducePow,Int.reduceLE,Int.reduceNeg,Int.reduceLT,Int.reduceBEq,Int.reduceBNe,Int.reduceEq,Tryz.facts,zA,hll,hml]
        refine copy_m (e := 56) (ns := l.length - i) (cs := bE (l.take i) ++ mkC m) (news := bE (l.drop i)) (by kernel_rfl) rfl (by rw [hsz]; exact w2) ⟨bE l,_,by rw [hsz]; exact wk,by omega,by rw [hm2,hsz,hll]; omega,by rw [hm2,hsz,ht2]; exact (List.take_of_length_le (by omega)).symm⟩ (by rw [hm2,hsz]; exact hdl) hT (by omega) (by omega) (.inr ⟨c2,⟨g2,c2,wg,Nat.le_refl _⟩,by rw [hsz,hdl]; omega⟩) ?_
        rw [hsz,P2]
        simp (disch := omega) only [↓aI,↓zP,aD,zD,aS,Nat.reduceBEq,Nat.reduceLT,reduceCtorEq,↓reduceIte,Nat.reduceMul,Nat.reduceAdd,Nat.reduceLeDiff,Nat.reduceEqDiff,Int.reduceToNat,Nat.reduceSub,Nat.reduceMod,Nat.reduceDiv,Int.reducePow,Int.reduceLE,Int.reduceNeg,Int.reduceLT,Int.reduceBEq,Int.reduceBNe,Int.reduceEq,Tryz.facts,zA]
        refine ⟨_,rfl,_,Abs.Sub.refl _,k2,rfl,hk20,.inr ?_,set_get,fun y o hy ho => ?_⟩
        · cases hz : H k2 with
          | none => rfl
          | some o => exact absurd rfl (f2 _ _ (hfr1 _ _ hz))
        · have h1 := hfr1 _ _ ho
          have h2 := f2 _ _ h1
          rw [aP h2]
          exact hfr3 _ _ h2 (hfr2 _ _ h1)
      · simp (disch := omega) only [↓aI,↓zP,aD,zD,aS,Nat.reduceBEq,Nat.reduceLT,reduceCtorEq,↓reduceIte,Nat.reduceMul,Nat.reduceAdd,Nat.reduceLeDiff,Nat.reduceEqDiff,Int.reduceToNat,Nat.reduceSub,Nat.reduceMod,Nat.reduceDiv,Int.reducePow,Int.reduceLE,Int.reduceNeg,Int.reduceLT,Int.reduceBEq,Int.reduceBNe,Int.reduceEq,Tryz.facts,zA,hll,hml,hk1,hv1,Int.reduceToNat]
        refine slice_m (e := 56) (l := 0) (u := l.length + 1) (by kernel_rfl) rfl rfl (by omega) (.inr ⟨rfl,g,c,hg1,by omega⟩) hT (by omega) ?_
        rw [hsz]
        have hov := ext_overlaps (P := Tryz.prog) (f := 112) (t := 84) (rt := 4) (e := 56) Tryz.func112 (by kernel_rfl) (by kernel_rfl) (by kernel_rfl) (by kernel_rfl) (by kernel_rfl) hT (nv := 1) (off := (i + 1) * 10) (n := l.length + 1 - (i + 1)) hv1 hk1 hne (by omega)
        simp (disch := omega) only [↓aI,↓zP,aD,zD,aS,Nat.reduceBEq,Nat.reduceLT,reduceCtorEq,↓reduceIte,Nat.reduceMul,Nat.reduceAdd,Nat.reduceLeDiff,Nat.reduceEqDiff,Int.reduceToNat,Nat.reduceSub,Nat.reduceMod,Nat.reduceDiv,Int.reducePow,Int.reduceLE,Int.reduceNeg,Int.reduceLT,Int.reduceBEq,Int.reduceBNe,Int.reduceEq,Tryz.facts,zA,hll,hml,Nat.sub_zero]
        refine CallK.i hov ?_
        rintro v E ⟨rfl,rfl⟩
        simp (disch := omega) only [↓aI,↓zP,aD,zD,aS,Nat.reduceBEq,Nat.reduceLT,reduceCtorEq,↓reduceIte,Nat.reduceMul,Nat.reduceAdd,Nat.reduceLeDiff,Nat.reduceEqDiff,Int.reduceToNat,Nat.reduceSub,Nat.reduceMod,Nat.reduceDiv,Int.reducePow,Int.reduceLE,Int.reduceNeg,Int.reduceLT,Int.reduceBEq,Int.reduceBNe,Int.reduceEq,Tryz.facts,zA,hll,hml]
        have hm2 : min (l.length + 1 - i) (l.length + 1 - (i + 1)) = l.length - i := by omega
        refine copy_m (e := 56) (ns := l.length + 1 - i) (cs := bE l) (news := bE (l.drop i)) (by kernel_rfl) rfl (by rw [hsz]; exact hk1) ⟨bE l,_,by rw [hsz]; exact hk1,by omega,by rw [hm2,hsz,hll]; omega,by rw [hm2,hsz,ht2]; exact (List.take_of_length_le (by omega)).symm⟩ (by rw [hm2,hsz]; exact hdl) hT (by omega) (by omega) (.inr ⟨c,⟨g,c,hg1,Nat.le_refl _⟩,by rw [hsz,hdl]; omega⟩) ?_
        rw [hsz,Q1]
        have hgk' : ¬ g = k := fun e => hgk e.symm
        have w1 : (E.set k (.cells (bE (l.take (i + 1)) ++ bE (l.drop i)) 56 10)) k = some (.cells (bE (l.take (i + 1)) ++ bE (l.drop i)) 56 10) := set_get
        have wv : (E.set k (.cells (bE (l.take (i + 1)) ++ bE (l.drop i)) 56 10)) kv = some (.cells (mkC m) 56 10) := by rw [aP hne]; exact hv1
        have hfr3 : ∀ y o,y ≠ k → E y = some o → (E.set k (.cells (bE (l.take (i + 1)) ++ bE (l.drop i)) 56 10)) y = some o := fun y o hy ho => by rw [aP hy]; exact ho
        generalize E.set k (.cells (bE (l.take (i + 1)) ++ bE (l.drop i)) 56 10) = H3 at *
        have hm1 : min 1 (l.length + 1 - i) = 1 := by omega
        have hl3 : (bE (l.take (i + 1)) ++ bE (l.drop i)).length = (l.length + 1) * 10 := by rw [List.length_append,hdl,bM,List.length_take]; omega
        simp (disch := omega) only [↓aI,↓zP,aD,zD,aS,Nat.reduceBEq,Nat.reduceLT,reduceCtorEq,↓reduceIte,Nat.reduceMul,Nat.reduceAdd,Nat.reduceLeDiff,Nat.reduceEqDiff,Int.reduceToNat,Nat.reduceSub,Nat.reduceMod,Nat.reduceDiv,Int.reducePow,Int.reduceLE,Int.reduceNeg,Int.reduceLT,Int.reduceBEq,Int.reduceBNe,Int.reduceEq,Tryz.facts,zA,hll,hml]
        refine copy_m (e := 56) (ns := 1) (cs := bE (l.take (i + 1)) ++ bE (l.drop i)) (news := mkC m) (by kernel_rfl) rfl (by rw [hsz]; exact w1) ⟨mkC m,_,by rw [hsz]; exact wv,by omega,by rw [hm1,hsz,hml]; omega,by rw [hm1,hsz]; rfl⟩ (by rw [hm1,hsz]; rfl) hT (by omega) (by omega) (.inl (by omega)) ?_
        rw [hsz,Q2]
        simp (disch := omega) only [↓aI,↓zP,aD,zD,aS,Nat.reduceBEq,Nat.reduceLT,reduceCtorEq,↓reduceIte,Nat.reduceMul,Nat.reduceAdd,Nat.reduceLeDiff,Nat.reduceEqDiff,Int.reduceToNat,Nat.reduceSub,Nat.reduceMod,Nat.reduceDiv,Int.reducePow,Int.reduceLE,Int.reduceNeg,Int.reduceLT,Int.reduceBEq,Int.reduceBNe,Int.reduceEq,Tryz.facts,zA]
        refine ⟨_,rfl,_,Abs.Sub.refl _,k,rfl,hk0,.inl rfl,set_get,fun y o hy ho => ?_⟩
        rw [aP hy]
        exact hfr3 _ _ hy (hfr1 _ _ ho)
end Go.Proofs.YtcgjlmopeblapaaGreat
end
section
set_option linter.unusedSimpArgs false
set_option linter.unusedVariables false
set_option maxRecDepth 8000
set_option maxHeartbeats 4000000
namespace Go.Proofs.YtcgjlmopeblapaaGreat
open Go Go.Abs Go.Proofs Go.Fug
theorem bin_sl {P : Program} {t e : TypeId} {k n : Nat} {cells : List AV} {K : AV → Prop} (hu : P.underlying t = some (.slice e)) (ho : bB P t = true) (hc : cells ≠ []) : bY P .eql t (.imm k cells n) (.sc (.slice none 0 0)) K = K (.sc (.bool false)) := by
  cases cells with
  | nil => exact absurd rfl hc
  | cons a cs => simp [bY,eqG,eqA,hu,ho,Req]
theorem bin_nil {P : Program} {t e : TypeId} {K : AV → Prop} (hu : P.underlying t = some (.slice e)) (ho : bB P t = true) : bY P .eql t (.sc (.slice none 0 0)) (.sc (.slice none 0 0)) K = K (.sc (.bool true)) := by
  simp [bY,eqG,eqA,hu,ho,Req]
theorem mk_eqOk : bB Tryz.prog 84 = true := by kernel_rfl
theorem clone_own (H : AH) (l : List Mk) (hl : l.length ≤ 100000) (h0 : 0 < l.length) : ACalls Tryz.prog 69 [eM l] H fun v H' => ∃ k',v = .own k' 0 l.length ∧ k' ≠ 0 ∧ H k' = none ∧ H' k' = some (.cells (bE l) 56 10) ∧ Abs.Sub H H' := by
  have hll := bM l
  have hne : bE l ≠ [] := fun e => by rw [e] at hll; simp at hll; omega
  have hb := fun K => bin_sl (P := Tryz.prog) (k := 0) (n := l.length) (K := K) Tryz.underlying84 mk_eqOk hne
  refine ao (c := ⟨Tryz.prog,8,[],[1000005,1000007],[]⟩) (rs := [ResultVar.tmp 2]) Tryz.mixed Tryz.func69 rfl rfl rfl (Nat.le_of_ble_eq_true rfl) (by kernel_rfl) ?_
  simp (disch := omega) only [↓aI,↓zP,aD,zD,aS,simprocAttr,Tryz.facts,zA,hll,hb]
  intro k hk0 hk k' hk'
  obtain ⟨hk'0,hk'1⟩ := own_next hk0 hk hk'
  rw [aj hk]
  exact ⟨_,rfl,_,Abs.Sub.refl _,k',rfl,hk'0,hk'1,set_get,Sub.set_new hk'1⟩
theorem clone_pure (l : List Mk) (hl : l.length ≤ 100000) (h0 : 0 < l.length) : APure Tryz.prog 69 [eM l] (eM l) := fun H => (clone_own H l hl h0).freeze (by
  rintro v H' ⟨k',rfl,hk'0,hk',hc,hs⟩
  refine ⟨_,H,hs,Frz.own hc hk' (by rw [bM]; exact Nat.le_refl _),?_,rfl⟩
  rw [List.take_of_length_le (by rw [bM]; exact Nat.le_refl _)])
theorem insert_imm (H : AH) (k kv : Nat) (l : List Mk) (i : Nat) (m : Mk) (hl : l.length ≤ 100000) (hi : i ≤ l.length) (hk : H k = some (.cells (bE l) 56 10)) (hv : H kv = some (.cells (mkC m) 56 10)) (hne : kv ≠ k) (hk0 : k ≠ 0) :
    ACalls Tryz.prog 99 [.own k 0 l.length,.sc (.int .i64 (i : Nat)),.own kv 0 1] H fun v H' =>
      v = .imm 0 (bE (du l i m)) (l.length + 1) ∧ ∀ y o,y ≠ k → H y = some o → H' y = some o := by
  refine (insert_own H k kv l i m hl hi hk hv hne hk0).freeze ?_
  rintro v H' ⟨k',rfl,hk'0,hk',hc,fr⟩
  have hlen : (bE (du l i m)).length = (l.length + 1) * 10 := by rw [bM,insM_length l i m hi]
  refine ⟨_,H'.kill k',Sub.killed,Frz.own hc kill_same (by rw [hlen]; exact Nat.le_refl _),?_,fun y o hy ho => ?_⟩
  · rw [List.take_of_length_le (by rw [hlen]; exact Nat.le_refl _)]
  · have hyk : ¬ y = k' := fun e => by
      rcases hk' with e2 | h2
      · exact hy (e.trans e2)
      · rw [e,h2] at ho; cases ho
    rw [bZ hyk]
    exact fr y o hy ho
end Go.Proofs.YtcgjlmopeblapaaGreat
end
section
set_option linter.unusedSimpArgs false
set_option linter.unusedVariables false
set_option maxRecDepth 8000
set_option maxHeartbeats 4000000
namespace Go.Proofs.YtcgjlmopeblapaaGreat
open Go Go.Abs Go.Proofs Go.Fug
def di (m : Mk) (clock author : Int) : Int := if m.clock ≠ clock then m.clock - clock else m.author - author
def okM (m : Mk) : Prop := 1 ≤ m.clock ∧ m.clock ≤ 1099511627776 ∧ 0 ≤ m.author ∧ m.author < 5
theorem cmp_pure (m : Mk) (clock author : Int) (hm : okM m) (hc : 0 ≤ clock ∧ clock ≤ 1099511627776) (ha : 0 ≤ author ∧ author < 5) :
    APure Tryz.prog 111 [.agg (mkC m),.sc (.int .i64 clock),.ip [.sc (.int .i64 author)] 0] (.sc (.int .i64 (di m clock author))) := by
  obtain ⟨h1,h2,h3,h4⟩ := hm
  obtain ⟨c,a,⟨f1,f2⟩,fb,⟨t1,t2⟩,tb,nm,vl⟩ := m
  simp only [] at h1 h2 h3 h4
  unfold di
  simp only [mkC]
  by_cases e : c = clock
  · subst e
    rw [if_neg (by simp)]
    refine az (c := ⟨Tryz.prog,18,[(1000000,[3])],[],[]⟩) (rs := [ResultVar.tmp 5]) Tryz.mixed Tryz.func111 rfl rfl rfl (Nat.le_of_ble_eq_true rfl) (by kernel_rfl) fun H => ?_
    simp (disch := omega) only [↓aI,↓zP,aD,zD,aS,simprocAttr,Tryz.facts]
    intro b hb0 hb
    simp (disch := omega) only [↓aI,↓zP,aD,zD,aS,simprocAttr,Tryz.facts,aj hb,ah,bne_self_eq_false,↓wrapI]
    exact Abs.Sub.refl _
  · rw [if_pos e]
    refine az (c := ⟨Tryz.prog,18,[(1000000,[3])],[],[]⟩) (rs := [ResultVar.tmp 5]) Tryz.mixed Tryz.func111 rfl rfl rfl (Nat.le_of_ble_eq_true rfl) (by kernel_rfl) fun H => ?_
    simp (disch := omega) only [↓aI,↓zP,aD,zD,aS,simprocAttr,Tryz.facts]
    intro b hb0 hb
    simp (disch := omega) only [↓aI,↓zP,aD,zD,aS,simprocAttr,Tryz.facts,aj hb,ah,zA,↓wrapI]
    exact Abs.Sub.refl _
end Go.Proofs.YtcgjlmopeblapaaGreat
end
section
set_option linter.unusedSimpArgs false
set_option linter.unusedVariables false
set_option maxRecDepth 8000
set_option maxHeartbeats 4000000
namespace Go.Proofs.YtcgjlmopeblapaaGreat
open Go Go.Abs Go.Proofs Go.Fug
def ltM (a b : Mk) : Prop := a.clock < b.clock ∨ (a.clock = b.clock ∧ a.author < b.author)
def SortM (l : List Mk) : Prop := l.Pairwise ltM
def cC : List Mk → Int → Int → Nat
  | [],_,_ => 0
  | m :: l,c,a => if di m c a < 0 then cC l c a + 1 else 0
theorem placeM_le (l : List Mk) (c a : Int) : cC l c a ≤ l.length := by
  induction l with
  | nil => exact Nat.le_refl _
  | cons m l ih => simp only [cC]; split <;> simp <;> omega
theorem cmp_mono {m n : Mk} {c a : Int} (h : ltM m n) (hm : ¬ di m c a < 0) : ¬ di n c a < 0 := by
  unfold di ltM at *
  split at hm <;> split <;> omega
theorem placeM_iff {l : List Mk} (s : SortM l) (c a : Int) {h : Nat} (hl : h < l.length) : di l[h] c a < 0 ↔ h < cC l c a := by
  induction l generalizing h with
  | nil => simp at hl
  | cons m l ih =>
    obtain ⟨s1,s2⟩ := List.pairwise_cons.1 s
    simp only [cC]
    cases h with
    | zero =>
      simp only [List.getElem_cons_zero]
      split <;> rename_i hm
      · simp [hm]
      · simp [hm]
    | succ h =>
      have hl' : h < l.length := by simpa using hl
      simp only [List.getElem_cons_succ]
      split <;> rename_i hm
      · rw [ih s2 hl']; omega
      · have := cmp_mono (s1 _ (List.getElem_mem hl')) hm
        constructor
        · intro h; exact absurd h this
        · intro h; omega
def foundM (l : List Mk) (c a : Int) : Bool := match l[cC l c a]? with | some m => decide (di m c a = 0) | none => false
theorem search_pure (l : List Mk) (c a : Int) (hl : l.length ≤ 100000) (s : SortM l) (hok : ∀ m ∈ l, okM m) (hc : 0 ≤ c ∧ c ≤ 1099511627776) (ha : 0 ≤ a ∧ a < 5) :
    APure Tryz.prog 110 [eM l,.sc (.int .i64 c),.fn (.func 111) [] [.ip [.sc (.int .i64 a)] 0]] (.tup [.sc (.int .i64 (cC l c a : Nat)),.sc (.bool (foundM l c a))]) := by
  have hll := bM l
  have hpl := placeM_le l c a
  refine az (c := ⟨Tryz.prog,49,[],[],[]⟩) (rs := [ResultVar.tmp 6,ResultVar.tmp 7]) Tryz.mixed Tryz.func110 rfl rfl rfl (Nat.le_of_ble_eq_true rfl) (by kernel_rfl) fun H => ?_
  simp (disch := omega) only [↓aI,↓zP,aD,zD,aS,simprocAttr,Tryz.facts,zA]
  refine br (c := ⟨Tryz.prog,49,[],[],[]⟩) Tryz.mixed (by kernel_rfl) (fun mm σ H' => H' = H ∧ ∃ i j : Nat,mm = j - i ∧ i ≤ cC l c a ∧ cC l c a ≤ j ∧ j ≤ l.length ∧
    σ 0 = eM l ∧ σ 1 = .sc (.int .i64 c) ∧ σ 2 = .fn (.func 111) [] [.ip [.sc (.int .i64 a)] 0] ∧ σ 8 = .sc (.int .i64 (l.length : Nat)) ∧ σ 9 = .sc (.int .i64 (i : Nat)) ∧ σ 10 = .sc (.int .i64 (j : Nat))) l.length ?_ ?_
  · refine ⟨rfl,0,l.length,by omega,by omega,by omega,by omega,?_⟩
    simp (disch := omega) only [↓aI,↓zP,aD,zD,aS,simprocAttr,Tryz.facts]
    try rfl
  · rintro mm σ H' ⟨rfl,i,j,hmm,hi,hj,hjl,s0,s1,s2,s8,s9,s10⟩
    by_cases hij : i < j
    · obtain ⟨h,hh⟩ : ∃ h,h = (i + j) / 2 := ⟨_,rfl⟩
      have hlt : h < l.length := by omega
      have hld := mksC_load hlt
      have hle : h * 10 + 10 ≤ l.length * 10 := by omega
      have hcm := cmp_pure l[h] c a (hok _ (List.getElem_mem hlt)) hc ha
      have hiff := placeM_iff s c a hlt
      generalize di l[h] c a = R at *
      generalize l[h] = x at *
      obtain ⟨xc,xa,⟨f1,f2⟩,fb,⟨t1,t2⟩,tb,nm,vl⟩ := x
      simp only [mkC] at hld hcm
      have hsh : IntKind.i64.wrap (((i + j : Nat) : Int).fdiv (2 ^ min 1 64)) = ((h : Nat) : Int) := by
        have e : (((i + j : Nat) : Int).fdiv (2 ^ min 1 64)) = ((h : Nat) : Int) := by rw [hh]; exact fdivN (i + j) 2
        rw [e]
        exact wcast64 (by omega)
      have hh1 : ((h : Nat) : Int) + 1 = ((h + 1 : Nat) : Int) := rfl
      simp (disch := omega) only [↓aI,↓zP,aD,zD,aS,simprocAttr,Tryz.facts,s0,s1,s2,s8,s9,s10,zA,↓wcastU,hsh,hld,hle,hll]
      refine CallK.p hcm ?_
      by_cases hR : R < 0
      · have hlp := hiff.1 hR
        simp (disch := omega) only [↓aI,↓zP,aD,zD,aS,simprocAttr,Tryz.facts,s0,s1,s2,s8,s9,s10,zA,hh1]
        exact ⟨j - (h + 1),by omega,h + 1,j,rfl,by omega,by omega,by omega,rfl,rfl⟩
      · have hlp : ¬ h < cC l c a := fun e => hR (hiff.2 e)
        simp (disch := omega) only [↓aI,↓zP,aD,zD,aS,simprocAttr,Tryz.facts,s0,s1,s2,s8,s9,s10,zA,hh1]
        exact ⟨h - i,by omega,i,h,rfl,by omega,by omega,by omega,rfl,rfl⟩
    · obtain rfl : i = cC l c a := by omega
      have hf : foundM l c a = (match l[cC l c a]? with | some m => decide (di m c a = 0) | none => false) := rfl
      generalize foundM l c a = F at *
      generalize cC l c a = p at *
      by_cases hlt : p < l.length
      · have hld := mksC_load hlt
        have hle : p * 10 + 10 ≤ l.length * 10 := by omega
        have hcm := cmp_pure l[p] c a (hok _ (List.getElem_mem hlt)) hc ha
        rw [List.getElem?_eq_getElem hlt] at hf
        simp only [] at hf
        generalize di l[p] c a = R at *
        generalize l[p] = x at *
        obtain ⟨xc,xa,⟨f1,f2⟩,fb,⟨t1,t2⟩,tb,nm,vl⟩ := x
        simp only [mkC] at hld hcm
        by_cases hR : R = 0
        · obtain rfl : F = true := by rw [hf]; simpa using hR
          simp (disch := omega) only [↓aI,↓zP,aD,zD,aS,simprocAttr,Tryz.facts,s0,s1,s2,s8,s9,s10,zA,hld,hle,hll]
          refine CallK.p hcm ?_
          simp (disch := omega) only [↓aI,↓zP,aD,zD,aS,simprocAttr,Tryz.facts,s0,s1,s2,s8,s9,s10,zA]
          exact Abs.Sub.refl _
        · obtain rfl : F = false := by rw [hf]; simpa using hR
          simp (disch := omega) only [↓aI,↓zP,aD,zD,aS,simprocAttr,Tryz.facts,s0,s1,s2,s8,s9,s10,zA,hld,hle,hll]
          refine CallK.p hcm ?_
          simp (disch := omega) only [↓aI,↓zP,aD,zD,aS,simprocAttr,Tryz.facts,s0,s1,s2,s8,s9,s10,zA]
          exact Abs.Sub.refl _
      · rw [List.getElem?_eq_none (by omega)] at hf
        obtain rfl : F = false := hf
        simp (disch := omega) only [↓aI,↓zP,aD,zD,aS,simprocAttr,Tryz.facts,s0,s1,s2,s8,s9,s10,zA]
        exact Abs.Sub.refl _
end Go.Proofs.YtcgjlmopeblapaaGreat
end
