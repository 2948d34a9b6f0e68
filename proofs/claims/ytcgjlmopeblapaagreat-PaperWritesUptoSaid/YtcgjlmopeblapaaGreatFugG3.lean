/-
  Several texts in one: each says what it proves.
  Conditions: none. Lemmas only.
-/
import Derived.Test.YtcgjlmopeblapaaGreatFugG2
set_option linter.all false
section
set_option linter.unusedSimpArgs false
set_option linter.unusedVariables false
set_option maxRecDepth 8000
set_option maxHeartbeats 4000000
namespace Go.Proofs.YtcgjlmopeblapaaGreat
open Go Go.Abs Go.Proofs Go.Fug

theorem nodes_le {L : List Ins} (G : List EId) (h : (L.map (·.id)).Nodup) (hL : L.length ≤ 10000) : (bF L G).length ≤ 1000000000 := by
  have h1 := below_le G h (L.length + 1) bL true
  have : (L.length + 1) * L.length ≤ 10001 * 10000 := Nat.mul_le_mul (by omega) hL
  unfold bF
  omega
theorem rnodes_pure (L : List Ins) (G : List EId) (hL : L.length ≤ 10000) (hG : G.length ≤ 10000) (g : Fug.Good L) : APure Tryz.prog 54 [dJ L G] (ndsV (bF L G)) := by
  have h := rbelow_pure L G hL hG g.nd (L.length + 1) bL true (by omega) (g.deep bL)
  have hR : below L G (L.length + 1) bL true = bF L G := rfl
  rw [hR] at h
  generalize bF L G = R at *
  refine az (c := ⟨Tryz.prog,6,[(1000000,[1])],[],[]⟩) (rs := [ResultVar.tmp 2]) Tryz.mixed Tryz.func54 rfl rfl rfl (Nat.le_of_ble_eq_true rfl) (by kernel_rfl) fun H => ?_
  simp (disch := omega) only [↓aI,↓zP,aD,zD,aS,simprocAttr,Tryz.facts]
  intro k1 hk10 hk1
  try simp (disch := omega) only [↓aI,↓zP,aD,zD,aS,simprocAttr,Tryz.facts,aj hk1]
  first | refine CallK.p (h) ?_ | refine CallP.i (h) ?_
  simp (disch := omega) only [↓aI,↓zP,aD,zD,aS,simprocAttr,Tryz.facts,aj hk1]
  exact Abs.Sub.refl _
def live (l : List Nd) : List Nd := l.filter fun n => !n.gone
theorem rlive_pure (L : List Ins) (G : List EId) (hL : L.length ≤ 10000) (hG : G.length ≤ 10000) (g : Fug.Good L) : APure Tryz.prog 34 [dJ L G] (ndsV (live (bF L G))) := by
  have h := rnodes_pure L G hL hG g
  have hl := nodes_le G g.nd hL
  generalize bF L G = M at *
  have hMi := c7 M
  refine az (c := ⟨Tryz.prog,28,[(1000000,[1])],[],[]⟩) (rs := [ResultVar.tmp 2]) Tryz.mixed Tryz.func34 rfl rfl rfl (Nat.le_of_ble_eq_true rfl) (by kernel_rfl) fun H => ?_
  simp (disch := omega) only [↓aI,↓zP,aD,zD,aS,simprocAttr,Tryz.facts]
  intro k1 hk10 hk1
  try simp (disch := omega) only [↓aI,↓zP,aD,zD,aS,simprocAttr,Tryz.facts,aj hk1]
  first | refine CallK.p (h) ?_ | refine CallP.i (h) ?_
  simp (disch := omega) only [↓aI,↓zP,aD,zD,aS,simprocAttr,Tryz.facts,aj hk1]
  refine tok_t 3 (by simp (disch := omega) only [↓aI,↓zP,aD,zD,aS,simprocAttr,Tryz.facts]) fun kt hkt0 hkt => ?_
  refine br (c := ⟨Tryz.prog,28,[(1000000,[1])],[],[]⟩) Tryz.mixed (by kernel_rfl) (fun mm σ H' => Abs.Sub H H' ∧ ∃ (k k3 : Nat) (o3 : AObj) (W : List Nd),k + mm = M.length ∧ W = (M.take k).filter (fun n => !n.gone) ∧ σ 4 = .imm 0 (dr M) M.length ∧ σ 5 = .sc (.int .i64 (k : Nat)) ∧ k3 ≠ 0 ∧ H k3 = none ∧ H' k3 = some o3 ∧ cy 82 4 o3 (W.length * 4) ∧ σ 3 = .imm k3 (dr W) W.length) M.length ?_ ?_
  · refine ⟨Abs.Sub.set_new hkt,0,kt,.nilt,[],by omega,rfl,?_⟩
    simp (disch := omega) only [↓aI,↓zP,aD,zD,aS,simprocAttr,Tryz.facts]
    exact ⟨hkt0,hkt,rfl⟩
  · rintro mm σ H' ⟨hsub,k,k3,o3,W,hkm,hW,h4,h5,hk30,hk3,hkv,ho3,h3⟩
    have hWl : W.length ≤ M.length := by rw [hW]; exact df _ _ _
    have hWi := c7 W
    by_cases hlt : k < M.length
    · have hft := filter_take (f := fun n : Nd => !n.gone) hlt
      have ld := ndsC_load hlt
      have g3 := ndsC_get hlt (show 3 < 4 by omega)
      have le4 : k * 4 + 4 ≤ M.length * 4 := by omega
      have le3 : k * 4 + 3 < M.length * 4 := by omega
      have hsn := ndsC_snoc W M[k]
      generalize M[k] = y at *
      obtain ⟨⟨y1,y2⟩,yu,yg⟩ := y
      simp only [ndC,List.getElem?_cons_succ,List.getElem?_cons_zero] at ld g3 hsn
      rw [← hW] at hft
      cases yg with
      | false =>
        simp only [Bool.not_false,if_true] at hft
        simp (disch := omega) only [↓aI,↓zP,aD,zD,aS,simprocAttr,Tryz.facts,h3,h4,h5,zA,ld,g3,le4,le3,hMi,hkv,ho3,hWi,hsn]
        intro k' o' hk0' hk' ho'
        rw [c7] at ho'
        exact ⟨mm - 1,by omega,(hsub.kill_free hk3).set_free (hsub.free hk'),k + 1,k',o',W ++ [⟨(y1,y2),yu,false⟩],by omega,hft.symm,rfl,hk0',hsub.free hk',set_get,ho',by rw [List.length_append]; rfl⟩
      | true =>
        simp only [Bool.not_true,Bool.false_eq_true,if_false,List.append_nil] at hft
        simp (disch := omega) only [↓aI,↓zP,aD,zD,aS,simprocAttr,Tryz.facts,h3,h4,h5,zA,ld,g3,le4,le3,hMi]
        exact ⟨mm - 1,by omega,hsub,k + 1,k3,o3,W,by omega,hft.symm,rfl,hk30,hk3,hkv,ho3,rfl⟩
    · obtain rfl : k = M.length := by omega
      rw [List.take_length] at hW
      have hW' : live M = W := hW.symm
      rw [hW']
      simp (disch := omega) only [↓aI,↓zP,aD,zD,aS,simprocAttr,Tryz.facts,h3,h4,h5,zA,hMi]
      exact hsub
def cW (l : List Nd) : List UInt8 := l.flatMap fun n => dQ n.rune
end Go.Proofs.YtcgjlmopeblapaaGreat
end
section
set_option linter.unusedSimpArgs false
set_option linter.unusedVariables false
set_option maxRecDepth 8000
set_option maxHeartbeats 4000000
namespace Go.Proofs.YtcgjlmopeblapaaGreat
open Go Go.Abs Go.Proofs Go.Fug

def dR (L : List Ins) (i : Ins) : List Ins × Int :=
  if okI i = false then (L,1) else if i.id ∈ L.map (·.id) then (L,12) else if i.par ≠ bL ∧ i.par ∉ L.map (·.id) then (L,13) else if L.length = 4096 then (L,14) else (L ++ [i],0)
def dropG (L : List Ins) (G : List EId) (x : EId) : List EId × Int :=
  if x ∉ L.map (·.id) then (G,13) else if x ∈ G then (G,12) else (G ++ [x],0)

theorem rdrop_pure (L : List Ins) (G : List EId) (x : EId) (hL : L.length ≤ 10000) (hG : G.length ≤ 10000) :
    APure Tryz.prog 61 [dJ L G,idV x] (.tup [dJ L (dropG L G x).1,.sc (.int .i64 (dropG L G x).2)]) := by
  have h1 := rhas_pure L G x (by omega)
  have h2 := dropped_pure L G x (by omega)
  have hGi := bU G
  have hsn := idsC_snoc G x
  obtain ⟨R,hR⟩ : ∃ R,R = dropG L G x := ⟨_,rfl⟩
  rw [← hR]
  unfold dropG at hR
  by_cases m1 : x ∈ L.map (·.id)
  · by_cases m2 : x ∈ G
    · rw [if_neg (not_not_intro m1),if_pos m2] at hR
      subst hR
      rw [dT m1] at h1
      rw [dT m2] at h2
      obtain ⟨a,c⟩ := x
      refine az (c := ⟨Tryz.prog,27,[(2000005,[1,2,4,5,0,3,6,7]),(5,[0,0,0,0,2,2,2,0]),(1000000,[3,2])],[16],[]⟩) (rs := [ResultVar.cell 4 74,ResultVar.tmp 5]) Tryz.mixed Tryz.func61 rfl rfl rfl (Nat.le_of_ble_eq_true rfl) (by kernel_rfl) fun H => ?_
      simp (disch := omega) only [↓aI,↓zP,aD,zD,aS,simprocAttr,Tryz.facts]
      intro k1 hk10 hk1 k2 hk20 hk2 k3 hk30 hk3
      have n23 := bK hk3
      have n13 := bK (am hk3)
      have hkH := am (am hk3)
      simp (disch := omega) only [↓aI,↓zP,aD,zD,aS,simprocAttr,Tryz.facts,aP,bH hk2 n23,bH hk1 n13]
      first | refine CallK.p (h1) ?_ | refine CallP.i (h1) ?_
      simp (disch := omega) only [↓aI,↓zP,aD,zD,aS,simprocAttr,Tryz.facts]
      first | refine CallK.p (h2) ?_ | refine CallP.i (h2) ?_
      simp (disch := omega) only [↓aI,↓zP,aD,zD,aS,simprocAttr,Tryz.facts,ah]
      exact Sub.set_new hkH
    · rw [if_neg (not_not_intro m1),if_neg m2] at hR
      subst hR
      rw [dT m1] at h1
      rw [dF m2] at h2
      obtain ⟨a,c⟩ := x
      simp only [] at hsn
      have hil2 := bU (G ++ [(a,c)])
      refine az (c := ⟨Tryz.prog,27,[(2000005,[1,2,4,5,0,3,6,7]),(5,[0,0,0,0,2,2,2,0]),(1000000,[3,2])],[16],[]⟩) (rs := [ResultVar.cell 4 74,ResultVar.tmp 5]) Tryz.mixed Tryz.func61 rfl rfl rfl (Nat.le_of_ble_eq_true rfl) (by kernel_rfl) fun H => ?_
      simp (disch := omega) only [↓aI,↓zP,aD,zD,aS,simprocAttr,Tryz.facts]
      intro k1 hk10 hk1 k2 hk20 hk2 k3 hk30 hk3
      have n23 := bK hk3
      have n13 := bK (am hk3)
      have hkH := am (am hk3)
      simp (disch := omega) only [↓aI,↓zP,aD,zD,aS,simprocAttr,Tryz.facts,aP,bH hk2 n23,bH hk1 n13]
      first | refine CallK.p (h1) ?_ | refine CallP.i (h1) ?_
      simp (disch := omega) only [↓aI,↓zP,aD,zD,aS,simprocAttr,Tryz.facts]
      first | refine CallK.p (h2) ?_ | refine CallP.i (h2) ?_
      simp (disch := omega) only [↓aI,↓zP,aD,zD,aS,simprocAttr,Tryz.facts,hGi,hsn]
      intro kb hkb0 hkb
      simp (disch := omega) only [↓aI,↓zP,aD,zD,aS,simprocAttr,Tryz.facts,hGi,hsn,hkb0]
      intro k4 o4 hk40 hk4 ho4
      replace hk4 := am hk4
      simp (disch := omega) only [↓aI,↓zP,aD,zD,aS,simprocAttr,Tryz.facts,hGi,hsn,ho4,hk40]
      intro k5 o5 hk50 hk5 ho5
      replace hk5 := am hk5
      have n35 := bK hk5
      simp (disch := omega) only [↓aI,↓zP,aD,zD,aS,simprocAttr,Tryz.facts,hGi,hsn,ho5,hk50,aP,ah]
      exact ⟨by rw [dJ,treeC,List.length_append]; rfl,((Sub.set_new hkH).set_free (am hk5)).set_free hkH⟩
  · rw [if_pos m1] at hR
    subst hR
    rw [dF m1] at h1
    obtain ⟨a,c⟩ := x
    refine az (c := ⟨Tryz.prog,27,[(2000005,[1,2,4,5,0,3,6,7]),(5,[0,0,0,0,2,2,2,0]),(1000000,[3,2])],[16],[]⟩) (rs := [ResultVar.cell 4 74,ResultVar.tmp 5]) Tryz.mixed Tryz.func61 rfl rfl rfl (Nat.le_of_ble_eq_true rfl) (by kernel_rfl) fun H => ?_
    simp (disch := omega) only [↓aI,↓zP,aD,zD,aS,simprocAttr,Tryz.facts]
    intro k1 hk10 hk1 k2 hk20 hk2 k3 hk30 hk3
    have n23 := bK hk3
    have n13 := bK (am hk3)
    have hkH := am (am hk3)
    simp (disch := omega) only [↓aI,↓zP,aD,zD,aS,simprocAttr,Tryz.facts,aP,bH hk2 n23,bH hk1 n13]
    first | refine CallK.p (h1) ?_ | refine CallP.i (h1) ?_
    simp (disch := omega) only [↓aI,↓zP,aD,zD,aS,simprocAttr,Tryz.facts,ah]
    exact Sub.set_new hkH
-- radd begins
theorem radd_pure (L : List Ins) (G : List EId) (i : Ins) (hL : L.length ≤ 10000) (hG : G.length ≤ 10000) :
    APure Tryz.prog 60 [dJ L G,.agg (cA i)] (.tup [dJ (dR L i).1 G,.sc (.int .i64 (dR L i).2)]) := by
  have h0 := rright_pure i
  have h1 := rhas_pure L G i.id (by omega)
  have h2 := rhas_pure L G i.par (by omega)
  have hLi := bN L
  have hsn := dD L i
  have hLs := bN (L ++ [i])
  obtain ⟨R,hR⟩ : ∃ R,R = dR L i := ⟨_,rfl⟩
  rw [← hR]
  unfold dR at hR
  obtain ⟨⟨a,c⟩,⟨pa,pc⟩,ri,ru⟩ := i
  simp only [cA] at h0 h1 h2 hsn ⊢
  simp only [] at hR
  cases ok : okI ⟨(a,c),(pa,pc),ri,ru⟩ with
  | false =>
    rw [ok] at h0
    rw [if_pos ok] at hR
    subst hR
    refine az (c := ⟨Tryz.prog,44,[(2000009,[1,2,4,5,0,3,6,7]),(9,[0,0,0,0,2,2,2,0]),(1000000,[3,2])],[33],[]⟩) (rs := [ResultVar.cell 4 74,ResultVar.tmp 5]) Tryz.mixed Tryz.func60 rfl rfl rfl (Nat.le_of_ble_eq_true rfl) (by kernel_rfl) fun H => ?_
    simp (disch := omega) only [↓aI,↓zP,aD,zD,aS,simprocAttr,Tryz.facts]
    intro k1 hk10 hk1 k2 hk20 hk2 k3 hk30 hk3
    have n23 := bK hk3
    have n13 := bK (am hk3)
    have hkH := am (am hk3)
    simp (disch := omega) only [↓aI,↓zP,aD,zD,aS,simprocAttr,Tryz.facts,aP,bH hk2 n23,bH hk1 n13]
    first | refine CallK.p (h0) ?_ | refine CallP.i (h0) ?_
    simp (disch := omega) only [↓aI,↓zP,aD,zD,aS,simprocAttr,Tryz.facts,ah]
    exact Sub.set_new hkH
  | true =>
    rw [ok] at h0
    rw [if_neg (by rw [ok]; simp)] at hR
    by_cases m1 : (a,c) ∈ L.map (·.id)
    · rw [dT m1] at h1
      rw [if_pos m1] at hR
      subst hR
      refine az (c := ⟨Tryz.prog,44,[(2000009,[1,2,4,5,0,3,6,7]),(9,[0,0,0,0,2,2,2,0]),(1000000,[3,2])],[33],[]⟩) (rs := [ResultVar.cell 4 74,ResultVar.tmp 5]) Tryz.mixed Tryz.func60 rfl rfl rfl (Nat.le_of_ble_eq_true rfl) (by kernel_rfl) fun H => ?_
      simp (disch := omega) only [↓aI,↓zP,aD,zD,aS,simprocAttr,Tryz.facts]
      intro k1 hk10 hk1 k2 hk20 hk2 k3 hk30 hk3
      have n23 := bK hk3
      have n13 := bK (am hk3)
      have hkH := am (am hk3)
      simp (disch := omega) only [↓aI,↓zP,aD,zD,aS,simprocAttr,Tryz.facts,aP,bH hk2 n23,bH hk1 n13]
      first | refine CallK.p (h0) ?_ | refine CallP.i (h0) ?_
      simp (disch := omega) only [↓aI,↓zP,aD,zD,aS,simprocAttr,Tryz.facts]
      first | refine CallK.p (h1) ?_ | refine CallP.i (h1) ?_
      simp (disch := omega) only [↓aI,↓zP,aD,zD,aS,simprocAttr,Tryz.facts,ah]
      exact Sub.set_new hkH
    · rw [dF m1] at h1
      rw [if_neg m1] at hR
      by_cases m2 : pa = 0 ∧ pc = 0
      · rw [if_neg (by rw [m2.1,m2.2]; simp [bL])] at hR
        obtain ⟨rfl,rfl⟩ := m2
        by_cases m4 : L.length = 4096
        · rw [if_pos m4] at hR
          subst hR
          refine az (c := ⟨Tryz.prog,44,[(2000009,[1,2,4,5,0,3,6,7]),(9,[0,0,0,0,2,2,2,0]),(1000000,[3,2])],[33],[]⟩) (rs := [ResultVar.cell 4 74,ResultVar.tmp 5]) Tryz.mixed Tryz.func60 rfl rfl rfl (Nat.le_of_ble_eq_true rfl) (by kernel_rfl) fun H => ?_
          simp (disch := omega) only [↓aI,↓zP,aD,zD,aS,simprocAttr,Tryz.facts]
          intro k1 hk10 hk1 k2 hk20 hk2 k3 hk30 hk3
          have n23 := bK hk3
          have n13 := bK (am hk3)
          have hkH := am (am hk3)
          simp (disch := omega) only [↓aI,↓zP,aD,zD,aS,simprocAttr,Tryz.facts,aP,bH hk2 n23,bH hk1 n13]
          first | refine CallK.p (h0) ?_ | refine CallP.i (h0) ?_
          simp (disch := omega) only [↓aI,↓zP,aD,zD,aS,simprocAttr,Tryz.facts]
          first | refine CallK.p (h1) ?_ | refine CallP.i (h1) ?_
          simp (disch := omega) only [↓aI,↓zP,aD,zD,aS,simprocAttr,Tryz.facts,qT,qF,Bool.false_and]
          try simp (disch := omega) only [↓aI,↓zP,aD,zD,aS,simprocAttr,Tryz.facts,zA,qT,qF,hLi,ah]
          exact Sub.set_new hkH
        · rw [if_neg m4] at hR
          subst hR
          refine az (c := ⟨Tryz.prog,44,[(2000009,[1,2,4,5,0,3,6,7]),(9,[0,0,0,0,2,2,2,0]),(1000000,[3,2])],[33],[]⟩) (rs := [ResultVar.cell 4 74,ResultVar.tmp 5]) Tryz.mixed Tryz.func60 rfl rfl rfl (Nat.le_of_ble_eq_true rfl) (by kernel_rfl) fun H => ?_
          simp (disch := omega) only [↓aI,↓zP,aD,zD,aS,simprocAttr,Tryz.facts]
          intro k1 hk10 hk1 k2 hk20 hk2 k3 hk30 hk3
          have n23 := bK hk3
          have n13 := bK (am hk3)
          have hkH := am (am hk3)
          simp (disch := omega) only [↓aI,↓zP,aD,zD,aS,simprocAttr,Tryz.facts,aP,bH hk2 n23,bH hk1 n13]
          first | refine CallK.p (h0) ?_ | refine CallP.i (h0) ?_
          simp (disch := omega) only [↓aI,↓zP,aD,zD,aS,simprocAttr,Tryz.facts]
          first | refine CallK.p (h1) ?_ | refine CallP.i (h1) ?_
          simp (disch := omega) only [↓aI,↓zP,aD,zD,aS,simprocAttr,Tryz.facts,qT,qF,Bool.false_and]
          try simp (disch := omega) only [↓aI,↓zP,aD,zD,aS,simprocAttr,Tryz.facts,zA,qT,qF,hLi,ah]
          intro kb hkb0 hkb
          simp (disch := omega) only [↓aI,↓zP,aD,zD,aS,simprocAttr,Tryz.facts,hLi,hsn,hkb0]
          intro k4 o4 hk40 hk4 ho4
          replace hk4 := am hk4
          simp (disch := omega) only [↓aI,↓zP,aD,zD,aS,simprocAttr,Tryz.facts,hLi,hsn,ho4,hk40]
          intro k5 o5 hk50 hk5 ho5
          replace hk5 := am hk5
          have n35 := bK hk5
          simp (disch := omega) only [↓aI,↓zP,aD,zD,aS,simprocAttr,Tryz.facts,hLi,hsn,ho5,hk50,aP,ah]
          exact ⟨by rw [dJ,treeC,List.length_append]; rfl,((Sub.set_new hkH).set_free (am hk5)).set_free hkH⟩
      · have m2' : (pa,pc) ≠ bL := fun e => m2 (by simpa [bL] using e)
        have m2o : pa ≠ 0 ∨ (pa = 0 ∧ pc ≠ 0) := by omega
        by_cases m3 : (pa,pc) ∈ L.map (·.id)
        · rw [dT m3] at h2
          rw [if_neg (fun h => h.2 m3)] at hR
          rcases m2o with m2o | m2o
          · by_cases m4 : L.length = 4096
            · rw [if_pos m4] at hR
              subst hR
              refine az (c := ⟨Tryz.prog,44,[(2000009,[1,2,4,5,0,3,6,7]),(9,[0,0,0,0,2,2,2,0]),(1000000,[3,2])],[33],[]⟩) (rs := [ResultVar.cell 4 74,ResultVar.tmp 5]) Tryz.mixed Tryz.func60 rfl rfl rfl (Nat.le_of_ble_eq_true rfl) (by kernel_rfl) fun H => ?_
              simp (disch := omega) only [↓aI,↓zP,aD,zD,aS,simprocAttr,Tryz.facts]
              intro k1 hk10 hk1 k2 hk20 hk2 k3 hk30 hk3
              have n23 := bK hk3
              have n13 := bK (am hk3)
              have hkH := am (am hk3)
              simp (disch := omega) only [↓aI,↓zP,aD,zD,aS,simprocAttr,Tryz.facts,aP,bH hk2 n23,bH hk1 n13]
              first | refine CallK.p (h0) ?_ | refine CallP.i (h0) ?_
              simp (disch := omega) only [↓aI,↓zP,aD,zD,aS,simprocAttr,Tryz.facts]
              first | refine CallK.p (h1) ?_ | refine CallP.i (h1) ?_
              simp (disch := omega) only [↓aI,↓zP,aD,zD,aS,simprocAttr,Tryz.facts,qT,qF,Bool.false_and]
              first | refine CallK.p (h2) ?_ | refine CallP.i (h2) ?_
              simp (disch := omega) only [↓aI,↓zP,aD,zD,aS,simprocAttr,Tryz.facts,zA,qT,qF,hLi,ah]
              exact Sub.set_new hkH
            · rw [if_neg m4] at hR
              subst hR
              refine az (c := ⟨Tryz.prog,44,[(2000009,[1,2,4,5,0,3,6,7]),(9,[0,0,0,0,2,2,2,0]),(1000000,[3,2])],[33],[]⟩) (rs := [ResultVar.cell 4 74,ResultVar.tmp 5]) Tryz.mixed Tryz.func60 rfl rfl rfl (Nat.le_of_ble_eq_true rfl) (by kernel_rfl) fun H => ?_
              simp (disch := omega) only [↓aI,↓zP,aD,zD,aS,simprocAttr,Tryz.facts]
              intro k1 hk10 hk1 k2 hk20 hk2 k3 hk30 hk3
              have n23 := bK hk3
              have n13 := bK (am hk3)
              have hkH := am (am hk3)
              simp (disch := omega) only [↓aI,↓zP,aD,zD,aS,simprocAttr,Tryz.facts,aP,bH hk2 n23,bH hk1 n13]
              first | refine CallK.p (h0) ?_ | refine CallP.i (h0) ?_
              simp (disch := omega) only [↓aI,↓zP,aD,zD,aS,simprocAttr,Tryz.facts]
              first | refine CallK.p (h1) ?_ | refine CallP.i (h1) ?_
              simp (disch := omega) only [↓aI,↓zP,aD,zD,aS,simprocAttr,Tryz.facts,qT,qF,Bool.false_and]
              first | refine CallK.p (h2) ?_ | refine CallP.i (h2) ?_
              simp (disch := omega) only [↓aI,↓zP,aD,zD,aS,simprocAttr,Tryz.facts,zA,qT,qF,hLi,ah]
              intro kb hkb0 hkb
              simp (disch := omega) only [↓aI,↓zP,aD,zD,aS,simprocAttr,Tryz.facts,hLi,hsn,hkb0]
              intro k4 o4 hk40 hk4 ho4
              replace hk4 := am hk4
              simp (disch := omega) only [↓aI,↓zP,aD,zD,aS,simprocAttr,Tryz.facts,hLi,hsn,ho4,hk40]
              intro k5 o5 hk50 hk5 ho5
              replace hk5 := am hk5
              have n35 := bK hk5
              simp (disch := omega) only [↓aI,↓zP,aD,zD,aS,simprocAttr,Tryz.facts,hLi,hsn,ho5,hk50,aP,ah]
              exact ⟨by rw [dJ,treeC,List.length_append]; rfl,((Sub.set_new hkH).set_free (am hk5)).set_free hkH⟩
          · by_cases m4 : L.length = 4096
            · rw [if_pos m4] at hR
              subst hR
              refine az (c := ⟨Tryz.prog,44,[(2000009,[1,2,4,5,0,3,6,7]),(9,[0,0,0,0,2,2,2,0]),(1000000,[3,2])],[33],[]⟩) (rs := [ResultVar.cell 4 74,ResultVar.tmp 5]) Tryz.mixed Tryz.func60 rfl rfl rfl (Nat.le_of_ble_eq_true rfl) (by kernel_rfl) fun H => ?_
              simp (disch := omega) only [↓aI,↓zP,aD,zD,aS,simprocAttr,Tryz.facts]
              intro k1 hk10 hk1 k2 hk20 hk2 k3 hk30 hk3
              have n23 := bK hk3
              have n13 := bK (am hk3)
              have hkH := am (am hk3)
              simp (disch := omega) only [↓aI,↓zP,aD,zD,aS,simprocAttr,Tryz.facts,aP,bH hk2 n23,bH hk1 n13]
              first | refine CallK.p (h0) ?_ | refine CallP.i (h0) ?_
              simp (disch := omega) only [↓aI,↓zP,aD,zD,aS,simprocAttr,Tryz.facts]
              first | refine CallK.p (h1) ?_ | refine CallP.i (h1) ?_
              simp (disch := omega) only [↓aI,↓zP,aD,zD,aS,simprocAttr,Tryz.facts,qT,qF,Bool.false_and]
              first | refine CallK.p (h2) ?_ | refine CallP.i (h2) ?_
              simp (disch := omega) only [↓aI,↓zP,aD,zD,aS,simprocAttr,Tryz.facts,zA,qT,qF,hLi,ah]
              exact Sub.set_new hkH
            · rw [if_neg m4] at hR
              subst hR
              refine az (c := ⟨Tryz.prog,44,[(2000009,[1,2,4,5,0,3,6,7]),(9,[0,0,0,0,2,2,2,0]),(1000000,[3,2])],[33],[]⟩) (rs := [ResultVar.cell 4 74,ResultVar.tmp 5]) Tryz.mixed Tryz.func60 rfl rfl rfl (Nat.le_of_ble_eq_true rfl) (by kernel_rfl) fun H => ?_
              simp (disch := omega) only [↓aI,↓zP,aD,zD,aS,simprocAttr,Tryz.facts]
              intro k1 hk10 hk1 k2 hk20 hk2 k3 hk30 hk3
              have n23 := bK hk3
              have n13 := bK (am hk3)
              have hkH := am (am hk3)
              simp (disch := omega) only [↓aI,↓zP,aD,zD,aS,simprocAttr,Tryz.facts,aP,bH hk2 n23,bH hk1 n13]
              first | refine CallK.p (h0) ?_ | refine CallP.i (h0) ?_
              simp (disch := omega) only [↓aI,↓zP,aD,zD,aS,simprocAttr,Tryz.facts]
              first | refine CallK.p (h1) ?_ | refine CallP.i (h1) ?_
              simp (disch := omega) only [↓aI,↓zP,aD,zD,aS,simprocAttr,Tryz.facts,qT,qF,Bool.false_and]
              first | refine CallK.p (h2) ?_ | refine CallP.i (h2) ?_
              simp (disch := omega) only [↓aI,↓zP,aD,zD,aS,simprocAttr,Tryz.facts,zA,qT,qF,hLi,ah]
              intro kb hkb0 hkb
              simp (disch := omega) only [↓aI,↓zP,aD,zD,aS,simprocAttr,Tryz.facts,hLi,hsn,hkb0]
              intro k4 o4 hk40 hk4 ho4
              replace hk4 := am hk4
              simp (disch := omega) only [↓aI,↓zP,aD,zD,aS,simprocAttr,Tryz.facts,hLi,hsn,ho4,hk40]
              intro k5 o5 hk50 hk5 ho5
              replace hk5 := am hk5
              have n35 := bK hk5
              simp (disch := omega) only [↓aI,↓zP,aD,zD,aS,simprocAttr,Tryz.facts,hLi,hsn,ho5,hk50,aP,ah]
              exact ⟨by rw [dJ,treeC,List.length_append]; rfl,((Sub.set_new hkH).set_free (am hk5)).set_free hkH⟩
        · rw [dF m3] at h2
          rw [if_pos ⟨m2',m3⟩] at hR
          subst hR
          rcases m2o with m2o | m2o
          · refine az (c := ⟨Tryz.prog,44,[(2000009,[1,2,4,5,0,3,6,7]),(9,[0,0,0,0,2,2,2,0]),(1000000,[3,2])],[33],[]⟩) (rs := [ResultVar.cell 4 74,ResultVar.tmp 5]) Tryz.mixed Tryz.func60 rfl rfl rfl (Nat.le_of_ble_eq_true rfl) (by kernel_rfl) fun H => ?_
            simp (disch := omega) only [↓aI,↓zP,aD,zD,aS,simprocAttr,Tryz.facts]
            intro k1 hk10 hk1 k2 hk20 hk2 k3 hk30 hk3
            have n23 := bK hk3
            have n13 := bK (am hk3)
            have hkH := am (am hk3)
            simp (disch := omega) only [↓aI,↓zP,aD,zD,aS,simprocAttr,Tryz.facts,aP,bH hk2 n23,bH hk1 n13]
            first | refine CallK.p (h0) ?_ | refine CallP.i (h0) ?_
            simp (disch := omega) only [↓aI,↓zP,aD,zD,aS,simprocAttr,Tryz.facts]
            first | refine CallK.p (h1) ?_ | refine CallP.i (h1) ?_
            simp (disch := omega) only [↓aI,↓zP,aD,zD,aS,simprocAttr,Tryz.facts,qT,qF,Bool.false_and]
            first | refine CallK.p (h2) ?_ | refine CallP.i (h2) ?_
            simp (disch := omega) only [↓aI,↓zP,aD,zD,aS,simprocAttr,Tryz.facts,zA,ah]
            exact Sub.set_new hkH
          · refine az (c := ⟨Tryz.prog,44,[(2000009,[1,2,4,5,0,3,6,7]),(9,[0,0,0,0,2,2,2,0]),(1000000,[3,2])],[33],[]⟩) (rs := [ResultVar.cell 4 74,ResultVar.tmp 5]) Tryz.mixed Tryz.func60 rfl rfl rfl (Nat.le_of_ble_eq_true rfl) (by kernel_rfl) fun H => ?_
            simp (disch := omega) only [↓aI,↓zP,aD,zD,aS,simprocAttr,Tryz.facts]
            intro k1 hk10 hk1 k2 hk20 hk2 k3 hk30 hk3
            have n23 := bK hk3
            have n13 := bK (am hk3)
            have hkH := am (am hk3)
            simp (disch := omega) only [↓aI,↓zP,aD,zD,aS,simprocAttr,Tryz.facts,aP,bH hk2 n23,bH hk1 n13]
            first | refine CallK.p (h0) ?_ | refine CallP.i (h0) ?_
            simp (disch := omega) only [↓aI,↓zP,aD,zD,aS,simprocAttr,Tryz.facts]
            first | refine CallK.p (h1) ?_ | refine CallP.i (h1) ?_
            simp (disch := omega) only [↓aI,↓zP,aD,zD,aS,simprocAttr,Tryz.facts,qT,qF,Bool.false_and]
            first | refine CallK.p (h2) ?_ | refine CallP.i (h2) ?_
            simp (disch := omega) only [↓aI,↓zP,aD,zD,aS,simprocAttr,Tryz.facts,zA,ah]
            exact Sub.set_new hkH
end Go.Proofs.YtcgjlmopeblapaaGreat
end
section
set_option linter.unusedSimpArgs false
set_option linter.unusedVariables false
set_option maxRecDepth 8000
set_option maxHeartbeats 4000000
namespace Go.Proofs.YtcgjlmopeblapaaGreat
open Go Go.Abs Go.Proofs Go.Fug

abbrev eC (L : List Ins) (G : List EId) (x : EId) : List AV := [.sc (.int .i64 x.1),.sc (.int .i64 x.2),.sc (.int .i32 (bl L G x).rune),.sc (.bool (bl L G x).gone),idsV (kids L x false),idsV (kids L x true)]
abbrev bR (L : List Ins) (G : List EId) (x : EId) : AV := .agg (eC L G x)
def cH (L : List Ins) : List EId := bL :: L.map (·.id)
def bP (I : List EId) (f : EId → AV) : List (AV × AV) := I.map fun y => (idV y,f y)
theorem cE (f : EId → AV) (x : EId) : ∀ (I : List EId) (i : Nat),cY Tryz.prog 50 (idV x) (bP I f) i = some (if x ∈ I then some (i + I.idxOf x,f x) else none)
  | [],i => rfl
  | y :: I,i => by
    have ih := cE f x I (i + 1)
    unfold bP at ih ⊢
    simp only [List.map_cons,cY]
    rw [Tryz.eq50]
    by_cases hxy : x = y
    · subst hxy
      simp
    · have h1 : ((x.1 == y.1) && ((x.2 == y.2) && true)) = false := by
        rw [Bool.eq_false_iff]
        intro h
        simp only [Bool.and_eq_true,beq_iff_eq,and_true] at h
        exact hxy (Prod.ext h.1 h.2)
      have h2 : (y == x) = false := by simp; exact fun e => hxy e.symm
      rw [h1]
      simp only [ih,List.mem_cons,hxy,false_or]
      rw [List.idxOf_cons,h2]
      simp only [cond_false]
      split
      · congr 3; omega
      · rfl
structure IsT (H : AH) (h m : Nat) (L : List Ins) (G : List EId) : Prop where
  hi : H h = some (.cells [.mp m,.sc (.int .i64 (G.length : Nat))] 110 2)
  hp : ∃ I : List EId,I.Perm (cH L) ∧ H m = some (.map (bP I (bR L G)))
  g : Fug.Good L
  gs : ∀ x ∈ G,x ∈ L.map (·.id)
  gn : G.Nodup
  small : L.length ≤ 4096
noncomputable def IsT.ord {H : AH} {h m : Nat} {L : List Ins} {G : List EId} (t : IsT H h m L G) : List EId := Classical.choose t.hp
theorem IsT.perm {H : AH} {h m : Nat} {L : List Ins} {G : List EId} (t : IsT H h m L G) : t.ord.Perm (cH L) := (Classical.choose_spec t.hp).1
theorem IsT.hm {H : AH} {h m : Nat} {L : List Ins} {G : List EId} (t : IsT H h m L G) : H m = some (.map (bP t.ord (bR L G))) := (Classical.choose_spec t.hp).2
theorem IsT.gl {H : AH} {h m : Nat} {L : List Ins} {G : List EId} (t : IsT H h m L G) : G.length ≤ L.length := by
  have := cO G (L.map (·.id)) t.gn t.gs
  rwa [List.length_map] at this
theorem IsT.hmne {H : AH} {h m : Nat} {L : List Ins} {G : List EId} (t : IsT H h m L G) : ¬ h = m := by
  rintro rfl
  have := t.hi.symm.trans t.hm
  cases this
theorem Good.root_no {L : List Ins} (g : Fug.Good L) : bL ∉ L.map (·.id) := fun h => by
  obtain ⟨i,hi,e⟩ := List.mem_map.1 h
  exact okI_ne (g.ok i hi) e
theorem eP {L : List Ins} {x : EId} (h : x ≠ bL) : x ∈ cH L ↔ x ∈ L.map (·.id) := by
  unfold cH
  simp only [List.mem_cons,h,false_or]
theorem idsOf_length (L : List Ins) : (cH L).length = L.length + 1 := by simp [cH]

theorem has_live (H : AH) (h m : Nat) (L : List Ins) (G : List EId) (x : EId) (t : IsT H h m L G) : ACalls Tryz.prog 57 [.ptr h 0,idV x] H fun v H' => v = .sc (.bool (decide (x ∈ L.map (·.id)))) ∧ H' = H := by
  have hm := t.hm
  have hpm := t.perm
  generalize t.ord = I at hm hpm
  have hf := cE (bR L G) x I 0
  obtain ⟨hi,-,g,gs,gn,small⟩ := t
  have hno := Good.root_no g
  by_cases hx : x = bL
  · subst hx
    rw [dF hno]
    refine ao (c := ⟨Tryz.prog,24,[(3,[0,0,0,0,0,0,0,0,0,2,2,0]),(1000000,[3]),(1000003,[5])],[],[(3,(.op 0 0 (.op 1 0 (.op 2 0 (.op 4 0 (.or (.op 3 2 (.or (.op 5 2 (.op 6 0 (.op 7 0 (.op 8 0 (.op 9 2 (.op 10 2 (.op 11 0 .nil))))))) (.op 9 2 (.op 5 2 (.op 6 0 (.op 7 0 (.op 8 0 (.op 10 2 (.op 11 0 .nil))))))))) (.op 9 2 (.op 3 2 (.op 5 2 (.op 6 0 (.op 7 0 (.op 8 0 (.op 10 2 (.op 11 0 .nil))))))))))))))]⟩) (rs := [ResultVar.tmp 4]) Tryz.mixed Tryz.func57 rfl rfl rfl (Nat.le_of_ble_eq_true rfl) (by kernel_rfl) ?_
    simp (disch := omega) only [↓aI,↓zP,aD,zD,aS,simprocAttr,Tryz.facts]
    intro k hk0 hk
    simp (disch := omega) only [↓aI,↓zP,aD,zD,aS,simprocAttr,Tryz.facts,aj hk,zA,beq_self_eq_true]
    exact ⟨_,rfl,H,Abs.Sub.refl _,rfl,rfl⟩
  · have hmi := (hpm.mem_iff (a := x)).trans (eP (L := L) hx)
    have hxo : x.1 ≠ 0 ∨ (x.1 = 0 ∧ x.2 ≠ 0) := by
      by_cases e : x.1 = 0
      · exact .inr ⟨e,fun e' => hx (Prod.ext e e')⟩
      · exact .inl e
    obtain ⟨B,hB⟩ : ∃ B,B = decide (x ∈ L.map (·.id)) := ⟨_,rfl⟩
    rw [← hB]
    obtain ⟨r,hr,hrs⟩ : ∃ r : Option (Nat × AV),r = (if x ∈ I then some (0 + I.idxOf x,bR L G x) else none) ∧ r.isSome = B := by
      refine ⟨_,rfl,?_⟩
      by_cases hin : x ∈ L.map (·.id)
      · rw [if_pos (hmi.2 hin),hB,dT hin]; rfl
      · rw [if_neg (fun h => hin (hmi.1 h)),hB,dF hin]; rfl
    rw [← hr] at hf
    have hlen : ∃ l : List AV,(r.map (·.2)).getD (ar Tryz.prog 107) = .agg l ∧ l.length = 6 ∧ l.all AV.one = true := by
      by_cases hin : x ∈ I
      · rw [if_pos hin] at hr; subst hr; exact ⟨eC L G x,rfl,rfl,rfl⟩
      · rw [if_neg hin] at hr; subst hr; exact ⟨_,Tryz.zv107,rfl,rfl⟩
    obtain ⟨l,hl,hl6,hl1⟩ := hlen
    obtain ⟨l1,l2,l3,l4,l5,l6,rfl⟩ : ∃ a b c d e f,l = [a,b,c,d,e,f] := by
      match l,hl6 with
      | [a,b,c,d,e,f],_ => exact ⟨a,b,c,d,e,f,rfl⟩
    obtain ⟨a,c⟩ := x
    simp only [] at hxo hf
    generalize bP I (bR L G) = E at *
    clear hr hB hmi hno
    simp only [Tryz.zv107] at hl
    simp only [List.all_cons,List.all_nil,Bool.and_eq_true,and_true] at hl1
    obtain ⟨o1,o2,o3,o4,o5,o6⟩ := hl1
    refine ao (c := ⟨Tryz.prog,24,[(3,[0,0,0,0,0,0,0,0,0,2,2,0]),(1000000,[3]),(1000003,[5])],[],[(3,(.op 0 0 (.op 1 0 (.op 2 0 (.op 4 0 (.or (.op 3 2 (.or (.op 5 2 (.op 6 0 (.op 7 0 (.op 8 0 (.op 9 2 (.op 10 2 (.op 11 0 .nil))))))) (.op 9 2 (.op 5 2 (.op 6 0 (.op 7 0 (.op 8 0 (.op 10 2 (.op 11 0 .nil))))))))) (.op 9 2 (.op 3 2 (.op 5 2 (.op 6 0 (.op 7 0 (.op 8 0 (.op 10 2 (.op 11 0 .nil))))))))))))))]⟩) (rs := [ResultVar.tmp 4]) Tryz.mixed Tryz.func57 rfl rfl rfl (Nat.le_of_ble_eq_true rfl) (by kernel_rfl) ?_
    simp (disch := omega) only [↓aI,↓zP,aD,zD,aS,simprocAttr,Tryz.facts]
    intro k hk0 hk
    rcases hxo with hxo | hxo
    all_goals
      simp (disch := omega) only [↓aI,↓zP,aD,zD,aS,simprocAttr,Tryz.facts,aj hk,zA,hi,hm,hf]
      refine eI (fun σ E' => ∃ (b : Nat) (c : List AV),E' = H.set b (.cells c 107 6) ∧ H b = none ∧ σ 5 = .ptr b 0 ∧ σ 6 = .sc (.bool B)) ?_ ?_
      · simp (disch := omega) only [↓aI,↓zP,aD,zD,aS,simprocAttr,Tryz.facts,hi,hm,hf,hl,hrs,o1,o2,o3,o4,o5,o6]
        refine ⟨⟨?_,?_⟩,?_⟩
        all_goals
          intro b hb0 hb
          have nb1 := bA hi hb
          have nb2 := bA hm hb
          try simp (disch := omega) only [↓aI,↓zP,aD,zD,aS,simprocAttr,Tryz.facts,hi,hm,hf,hl,hrs,aP,ah,o1,o2,o3,o4,o5,o6]
          exact ⟨b,_,rfl,hb,rfl⟩
      · rintro σ E' ⟨b,c,rfl,hb,h5,h6⟩
        simp (disch := omega) only [↓aI,↓zP,aD,zD,aS,simprocAttr,Tryz.facts,h5,h6,aj hb]
        exact ⟨_,rfl,H,Abs.Sub.refl _,rfl,rfl⟩

theorem len_live (H : AH) (h m : Nat) (L : List Ins) (G : List EId) (t : IsT H h m L G) : ACalls Tryz.prog 59 [.ptr h 0] H fun v H' => v = .sc (.int .i64 ((L.length - G.length : Nat))) ∧ H' = H := by
  have hgl := t.gl
  have hm := t.hm
  have hel : (bP t.ord (bR L G)).length = L.length + 1 := by rw [bP,List.length_map,t.perm.length_eq,idsOf_length]
  generalize bP t.ord (bR L G) = E at *
  obtain ⟨hi,-,g,gs,gn,small⟩ := t
  have hw : ((L.length : Int) - (G.length : Int)) = ((L.length - G.length : Nat) : Int) := by omega
  have hw1 : (((L.length + 1 : Nat) : Int) - 1) = (L.length : Int) := by omega
  refine ao (c := ⟨Tryz.prog,16,[(3,[0,0,0,1,1,0,0,0,0,1,0,0])],[],[]⟩) (rs := [ResultVar.tmp 2]) Tryz.mixed Tryz.func59 rfl rfl rfl (Nat.le_of_ble_eq_true rfl) (by kernel_rfl) ?_
  simp (disch := omega) only [↓aI,↓zP,aD,zD,aS,simprocAttr,Tryz.facts,hi,hm,hel,hw,hw1]
  refine ⟨_,rfl,H,Abs.Sub.refl _,?_,rfl⟩
  try rfl
  try (congr 2)
  try omega
theorem new_live (H : AH) : ACalls Tryz.prog 55 [] H fun v H' => ∃ h m,v = .ptr h 0 ∧ H h = none ∧ H m = none ∧ Abs.Sub H H' ∧ IsT H' h m [] [] := by
  refine ao (c := ⟨Tryz.prog,7,[],[],[]⟩) (rs := [ResultVar.tmp 0]) Tryz.mixed Tryz.func55 rfl rfl rfl (Nat.le_of_ble_eq_true rfl) (by kernel_rfl) ?_
  simp (disch := omega) only [↓aI,↓zP,aD,zD,aS,simprocAttr,Tryz.facts]
  intro m hm0 hm h hh0 hh
  have hne := bK hh
  exact ⟨_,rfl,_,Abs.Sub.refl _,h,m,rfl,am hh,hm,(Sub.set_new hm).trans (Sub.set_new hh),⟨set_get,⟨[bL],List.Perm.refl _,by rw [aP hne,set_get]; rfl⟩,Fug.Good.nil,by simp,by simp,by simp⟩⟩
end Go.Proofs.YtcgjlmopeblapaaGreat
end
section
set_option linter.unusedSimpArgs false
set_option linter.unusedVariables false
set_option maxRecDepth 8000
set_option maxHeartbeats 4000000
namespace Go.Proofs.YtcgjlmopeblapaaGreat
open Go Go.Abs Go.Proofs Go.Fug

theorem map_set {β : Type} {g g' : EId → β} {p : EId} : ∀ (I : List EId),I.Nodup → p ∈ I → (∀ y ∈ I,y ≠ p → g' y = g y) → (I.map g).set (I.idxOf p) (g' p) = I.map g'
  | [],_,h,_ => by cases h
  | y :: I,hn,hp,he => by
    obtain ⟨h1,h2⟩ := List.nodup_cons.1 hn
    by_cases e : y = p
    · subst e
      simp only [List.idxOf_cons_self,List.map_cons,List.set_cons_zero]
      congr 1
      refine List.map_congr_left fun z hz => (he z (by simp [hz]) (fun e => h1 (e ▸ hz))).symm
    · have hb : (y == p) = false := by simpa using e
      have hp' : p ∈ I := by
        rcases List.mem_cons.1 hp with h | h
        · exact absurd h.symm e
        · exact h
      rw [List.idxOf_cons,hb]
      simp only [cond_false,List.map_cons,List.set_cons_succ]
      rw [map_set I h2 hp' fun z hz => he z (by simp [hz]),he y (by simp) e]
theorem idsOf_nodup {L : List Ins} (g : Fug.Good L) : (cH L).Nodup := List.nodup_cons.2 ⟨Good.root_no g,g.nd⟩
theorem ndOf_snoc {L : List Ins} {G : List EId} {i : Ins} {y : EId} (h : y ≠ i.id) : bl (L ++ [i]) G y = bl L G y := by
  unfold bl
  rw [List.find?_append]
  have : ([i].find? fun j => decide (j.id = y)) = none := by simp; exact fun e => h e.symm
  rw [this]
  cases L.find? fun j => decide (j.id = y) <;> rfl
theorem nodeA_other {L : List Ins} {G : List EId} {i : Ins} {y : EId} (h : y ≠ i.id) (hp : y ≠ i.par) : bR (L ++ [i]) G y = bR L G y := by
  unfold bR eC
  rw [ndOf_snoc h,cP,cP,if_neg (fun e => hp e.1.symm),if_neg (fun e => hp e.1.symm)]
theorem no_kids {L : List Ins} (g : Fug.Good L) {x : EId} (hr : x ≠ bL) (h : x ∉ L.map (·.id)) (r : Bool) : kids L x r = [] := by
  cases e : kids L x r with
  | nil => rfl
  | cons y l =>
    obtain ⟨j,hj,-,hp,-⟩ := mem_kids.1 (show y ∈ kids L x r by rw [e]; simp)
    obtain ⟨k,hk,rfl⟩ := List.mem_iff_getElem.1 hj
    rcases g.up k hk with h1 | ⟨q,hq,h1⟩
    · exact absurd (hp.symm.trans h1) hr
    · exact absurd (List.mem_map.2 ⟨_,List.getElem_mem _,h1.trans hp⟩) h
theorem nodeA_new {L : List Ins} {G : List EId} {i : Ins} (g : Fug.Good L) (hr : i.id ≠ bL) (h : i.id ∉ L.map (·.id)) (hp : i.par ≠ i.id) (hG : i.id ∉ G) :
    bR (L ++ [i]) G i.id = .agg [.sc (.int .i64 i.id.1),.sc (.int .i64 i.id.2),.sc (.int .i32 i.rune),.sc (.bool false),.imm 0 [] 0,.imm 0 [] 0] := by
  unfold bR eC
  rw [cP,cP,if_neg (fun e => hp e.1),if_neg (fun e => hp e.1),no_kids g hr h,no_kids g hr h]
  have hn : (L.find? fun j => decide (j.id = i.id)) = none := by
    rw [List.find?_eq_none]
    intro j hj
    simp only [decide_eq_true_eq]
    exact fun e => h (List.mem_map.2 ⟨j,hj,e⟩)
  have : bl (L ++ [i]) G i.id = ⟨i.id,i.rune,false⟩ := by
    unfold bl
    rw [List.find?_append,hn]
    simp [hG]
  rw [this]
  rfl
theorem ents_par {L : List Ins} {G I : List EId} {i : Ins} (hn : I.Nodup) (h : i.id ∉ I) (hp : i.par ∈ I) :
    (bP I (bR L G)).set (I.idxOf i.par) (idV i.par,bR (L ++ [i]) G i.par) = bP I (bR (L ++ [i]) G) :=
  map_set (g := fun y => (idV y,bR L G y)) (g' := fun y => (idV y,bR (L ++ [i]) G y)) I hn hp fun y hy hne => by
    rw [nodeA_other (fun e => h (by rw [← e]; exact hy)) hne]
theorem ents_new {I : List EId} {f : EId → AV} {x : EId} : bP I f ++ [(idV x,f x)] = bP (I ++ [x]) f := by
  simp [bP]
theorem IsT.ord_nodup {H : AH} {h m : Nat} {L : List Ins} {G : List EId} (t : IsT H h m L G) : t.ord.Nodup := t.perm.nodup_iff.2 (idsOf_nodup t.g)
theorem IsT.ord_mem {H : AH} {h m : Nat} {L : List Ins} {G : List EId} (t : IsT H h m L G) {x : EId} : x ∈ t.ord ↔ x ∈ cH L := t.perm.mem_iff

def AddR (H : AH) (h m : Nat) (L : List Ins) (G : List EId) (i : Ins) (v : AV) (H' : AH) : Prop :=
  v = .sc (.int .i64 (dR L i).2) ∧ IsT H' h m (dR L i).1 G ∧ ∀ x,x ≠ m → H' x = H x
theorem okI_R (i : Ins) : okI i = (okR i && (i.right || decide (i.par ≠ bL))) := by
  obtain ⟨⟨a,c⟩,⟨pa,pc⟩,ri,ru⟩ := i
  have : (decide (0 ≤ a) && decide (a < 5) && decide (1 ≤ c) && decide (c ≤ 1099511627776) && decide (0 ≤ ru) && decide (ru ≤ 1114111) && (decide (ru < 55296) || decide (57343 < ru))) = (!(decide (a < 0) || decide (5 ≤ a) || decide (c < 1) || decide (1099511627776 < c)) && (decide (0 ≤ ru) && decide (ru ≤ 1114111) && (decide (ru < 55296) || decide (57343 < ru)))) := by
    rw [Bool.eq_iff_iff]
    simp only [Bool.and_eq_true,Bool.or_eq_true,Bool.not_eq_true',Bool.or_eq_false_iff,decide_eq_true_eq,decide_eq_false_iff_not]
    omega
  simp only [okI,okR] at this ⊢
  rw [this]
theorem add_arg (H : AH) (h m : Nat) (L : List Ins) (G : List EId) (i : Ins) (t : IsT H h m L G) (hno : okI i = false) : ACalls Tryz.prog 77 [.ptr h 0,.agg (cA i)] H (AddR H h m L G i) := by
  have hR : dR L i = (L,1) := by unfold dR; rw [if_pos hno]
  have h0 := ee i
  rw [okI_R] at hno
  unfold AddR
  rw [hR]
  obtain ⟨⟨a,c⟩,⟨pa,pc⟩,ri,ru⟩ := i
  simp only [cA] at h0 hno ⊢
  cases e : okR ⟨(a,c),(pa,pc),ri,ru⟩ with
  | false =>
    rw [e] at h0
    refine ao (c := ⟨Tryz.prog,78,[(7,[0,0,0,0,0,0,0,0,0,0,2,2,0]),(12,[0,1,0,0,1,0,0,0,1,0,1,0,0,0,2]),(13,[0,0,0,1,0,1,1,2]),(14,[0,0,0,1,0,1,0,1,0,1,0,0,2]),(1000000,[3]),(4000013,[0,3]),(4000012,[0,3,5]),(4000010,[0,3,5,44]),(4000007,[0,3,5,6]),(4000003,[0,3,22])],[],[(7,(.op 0 0 (.op 1 0 (.op 2 0 (.op 4 0 (.op 5 0 (.or (.op 3 2 (.or (.op 6 2 (.op 7 0 (.op 8 0 (.op 9 0 (.op 10 2 (.op 11 2 (.op 12 0 .nil))))))) (.op 10 2 (.op 6 2 (.op 7 0 (.op 8 0 (.op 9 0 (.op 11 2 (.op 12 0 .nil))))))))) (.op 10 2 (.op 3 2 (.op 6 2 (.op 7 0 (.op 8 0 (.op 9 0 (.op 11 2 (.op 12 0 .nil)))))))))))))))]⟩) (rs := [ResultVar.tmp 4]) Tryz.mixed Tryz.func77 rfl rfl rfl (Nat.le_of_ble_eq_true rfl) (by kernel_rfl) ?_
    simp (disch := omega) only [↓aI,↓zP,aD,zD,aS,simprocAttr,Tryz.facts]
    intro k hk0 hk
    simp (disch := omega) only [↓aI,↓zP,aD,zD,aS,simprocAttr,Tryz.facts,aj hk]
    first | refine CallK.p (h0) ?_ | refine CallP.i (h0) ?_
    simp (disch := omega) only [↓aI,↓zP,aD,zD,aS,simprocAttr,Tryz.facts]
    exact ⟨_,rfl,H,Abs.Sub.refl _,rfl,t,fun _ _ => rfl⟩
  | true =>
    rw [e] at h0 hno
    simp only [Bool.true_and,Bool.or_eq_false_iff,decide_eq_false_iff_not,ne_eq,Decidable.not_not,bL,Prod.mk.injEq] at hno
    obtain ⟨rfl,rfl,rfl⟩ := hno
    refine ao (c := ⟨Tryz.prog,78,[(7,[0,0,0,0,0,0,0,0,0,0,2,2,0]),(12,[0,1,0,0,1,0,0,0,1,0,1,0,0,0,2]),(13,[0,0,0,1,0,1,1,2]),(14,[0,0,0,1,0,1,0,1,0,1,0,0,2]),(1000000,[3]),(4000013,[0,3]),(4000012,[0,3,5]),(4000010,[0,3,5,44]),(4000007,[0,3,5,6]),(4000003,[0,3,22])],[],[(7,(.op 0 0 (.op 1 0 (.op 2 0 (.op 4 0 (.op 5 0 (.or (.op 3 2 (.or (.op 6 2 (.op 7 0 (.op 8 0 (.op 9 0 (.op 10 2 (.op 11 2 (.op 12 0 .nil))))))) (.op 10 2 (.op 6 2 (.op 7 0 (.op 8 0 (.op 9 0 (.op 11 2 (.op 12 0 .nil))))))))) (.op 10 2 (.op 3 2 (.op 6 2 (.op 7 0 (.op 8 0 (.op 9 0 (.op 11 2 (.op 12 0 .nil)))))))))))))))]⟩) (rs := [ResultVar.tmp 4]) Tryz.mixed Tryz.func77 rfl rfl rfl (Nat.le_of_ble_eq_true rfl) (by kernel_rfl) ?_
    simp (disch := omega) only [↓aI,↓zP,aD,zD,aS,simprocAttr,Tryz.facts]
    intro k hk0 hk
    simp (disch := omega) only [↓aI,↓zP,aD,zD,aS,simprocAttr,Tryz.facts,aj hk]
    first | refine CallK.p (h0) ?_ | refine CallP.i (h0) ?_
    simp (disch := omega) only [↓aI,↓zP,aD,zD,aS,simprocAttr,Tryz.facts,zA,beq_self_eq_true]
    exact ⟨_,rfl,H,Abs.Sub.refl _,rfl,t,fun _ _ => rfl⟩
theorem add_there (H : AH) (h m : Nat) (L : List Ins) (G : List EId) (i : Ins) (t : IsT H h m L G) (hok : okI i = true) (hin : i.id ∈ L.map (·.id)) : ACalls Tryz.prog 77 [.ptr h 0,.agg (cA i)] H (AddR H h m L G i) := by
  have hR : dR L i = (L,12) := by unfold dR; rw [if_neg (by rw [hok]; simp),if_pos hin]
  have h0 := ee i
  have hh := has_live H h m L G i.id t
  rw [dT hin] at hh
  rw [okI_R,Bool.and_eq_true] at hok
  rw [hok.1] at h0
  have hpr := hok.2
  unfold AddR
  rw [hR]
  obtain ⟨⟨a,c⟩,⟨pa,pc⟩,ri,ru⟩ := i
  simp only [cA] at h0 hpr hh ⊢
  have hpo : (pa = 0 ∧ pc = 0) ∨ pa ≠ 0 ∨ (pa = 0 ∧ pc ≠ 0) := by omega
  refine ao (c := ⟨Tryz.prog,78,[(7,[0,0,0,0,0,0,0,0,0,0,2,2,0]),(12,[0,1,0,0,1,0,0,0,1,0,1,0,0,0,2]),(13,[0,0,0,1,0,1,1,2]),(14,[0,0,0,1,0,1,0,1,0,1,0,0,2]),(1000000,[3]),(4000013,[0,3]),(4000012,[0,3,5]),(4000010,[0,3,5,44]),(4000007,[0,3,5,6]),(4000003,[0,3,22])],[],[(7,(.op 0 0 (.op 1 0 (.op 2 0 (.op 4 0 (.op 5 0 (.or (.op 3 2 (.or (.op 6 2 (.op 7 0 (.op 8 0 (.op 9 0 (.op 10 2 (.op 11 2 (.op 12 0 .nil))))))) (.op 10 2 (.op 6 2 (.op 7 0 (.op 8 0 (.op 9 0 (.op 11 2 (.op 12 0 .nil))))))))) (.op 10 2 (.op 3 2 (.op 6 2 (.op 7 0 (.op 8 0 (.op 9 0 (.op 11 2 (.op 12 0 .nil)))))))))))))))]⟩) (rs := [ResultVar.tmp 4]) Tryz.mixed Tryz.func77 rfl rfl rfl (Nat.le_of_ble_eq_true rfl) (by kernel_rfl) ?_
  simp (disch := omega) only [↓aI,↓zP,aD,zD,aS,simprocAttr,Tryz.facts]
  intro k hk0 hk
  simp (disch := omega) only [↓aI,↓zP,aD,zD,aS,simprocAttr,Tryz.facts,aj hk]
  first | refine CallK.p (h0) ?_ | refine CallP.i (h0) ?_
  simp (disch := omega) only [↓aI,↓zP,aD,zD,aS,simprocAttr,Tryz.facts]
  rcases hpo with hpo | hpo | hpo
  · obtain ⟨rfl,rfl⟩ := hpo
    obtain rfl : ri = true := by cases ri; (simp [bL] at hpr); rfl
    simp (disch := omega) only [↓aI,↓zP,aD,zD,aS,simprocAttr,Tryz.facts,zA,beq_self_eq_true]
    refine CallK.i hh ?_
    rintro v E ⟨rfl,hE⟩
    simp (disch := omega) only [↓aI,↓zP,aD,zD,aS,simprocAttr,Tryz.facts,hE]
    exact ⟨_,rfl,H,Abs.Sub.refl _,rfl,t,fun _ _ => rfl⟩
  all_goals
    simp (disch := omega) only [↓aI,↓zP,aD,zD,aS,simprocAttr,Tryz.facts,zA,beq_self_eq_true]
    refine CallK.i hh ?_
    rintro v E ⟨rfl,hE⟩
    simp (disch := omega) only [↓aI,↓zP,aD,zD,aS,simprocAttr,Tryz.facts,hE]
    exact ⟨_,rfl,H,Abs.Sub.refl _,rfl,t,fun _ _ => rfl⟩

theorem add_none (H : AH) (h m : Nat) (L : List Ins) (G : List EId) (i : Ins) (t : IsT H h m L G) (hok : okI i = true) (hin : i.id ∉ L.map (·.id)) (hp : i.par ∉ cH L) : ACalls Tryz.prog 77 [.ptr h 0,.agg (cA i)] H (AddR H h m L G i) := by
  have hpr0 : i.par ≠ bL := fun e => hp (by rw [e]; simp [cH])
  have hR : dR L i = (L,13) := by unfold dR; rw [if_neg (by rw [hok]; simp),if_neg hin,if_pos ⟨hpr0,fun e => hp ((eP hpr0).2 e)⟩]
  have h0 := ee i
  have hh := has_live H h m L G i.id t
  rw [dF hin] at hh
  rw [okI_R,Bool.and_eq_true] at hok
  rw [hok.1] at h0
  have hf := cE (bR L G) i.par t.ord 0
  rw [if_neg (fun e => hp (t.ord_mem.1 e))] at hf
  have hi := t.hi
  have hm := t.hm
  generalize hE : bP t.ord (bR L G) = E at *
  unfold AddR
  rw [hR]
  obtain ⟨⟨a,c⟩,⟨pa,pc⟩,ri,ru⟩ := i
  simp only [cA] at h0 hh hf hpr0 ⊢
  have hpo : pa ≠ 0 ∨ (pa = 0 ∧ pc ≠ 0) := by
    by_cases e : pa = 0
    · exact .inr ⟨e,fun e' => hpr0 (by rw [e,e'])⟩
    · exact .inl e
  refine ao (c := ⟨Tryz.prog,78,[(7,[0,0,0,0,0,0,0,0,0,0,2,2,0]),(12,[0,1,0,0,1,0,0,0,1,0,1,0,0,0,2]),(13,[0,0,0,1,0,1,1,2]),(14,[0,0,0,1,0,1,0,1,0,1,0,0,2]),(1000000,[3]),(4000013,[0,3]),(4000012,[0,3,5]),(4000010,[0,3,5,44]),(4000007,[0,3,5,6]),(4000003,[0,3,22])],[],[(7,(.op 0 0 (.op 1 0 (.op 2 0 (.op 4 0 (.op 5 0 (.or (.op 3 2 (.or (.op 6 2 (.op 7 0 (.op 8 0 (.op 9 0 (.op 10 2 (.op 11 2 (.op 12 0 .nil))))))) (.op 10 2 (.op 6 2 (.op 7 0 (.op 8 0 (.op 9 0 (.op 11 2 (.op 12 0 .nil))))))))) (.op 10 2 (.op 3 2 (.op 6 2 (.op 7 0 (.op 8 0 (.op 9 0 (.op 11 2 (.op 12 0 .nil)))))))))))))))]⟩) (rs := [ResultVar.tmp 4]) Tryz.mixed Tryz.func77 rfl rfl rfl (Nat.le_of_ble_eq_true rfl) (by kernel_rfl) ?_
  simp (disch := omega) only [↓aI,↓zP,aD,zD,aS,simprocAttr,Tryz.facts]
  intro k hk0 hk
  simp (disch := omega) only [↓aI,↓zP,aD,zD,aS,simprocAttr,Tryz.facts,aj hk]
  first | refine CallK.p (h0) ?_ | refine CallP.i (h0) ?_
  simp (disch := omega) only [↓aI,↓zP,aD,zD,aS,simprocAttr,Tryz.facts]
  rcases hpo with hpo | hpo
  all_goals
    simp (disch := omega) only [↓aI,↓zP,aD,zD,aS,simprocAttr,Tryz.facts,zA,beq_self_eq_true]
    refine CallK.i hh ?_
    rintro v E' ⟨rfl,hE'⟩
    simp (disch := omega) only [↓aI,↓zP,aD,zD,aS,simprocAttr,Tryz.facts,hE']
    refine eI (fun σ F => Abs.Sub H F ∧ σ 0 = .ptr h 0 ∧ σ 6 = .sc (.bool false)) ?_ ?_
    · simp (disch := omega) only [↓aI,↓zP,aD,zD,aS,simprocAttr,Tryz.facts,hi,hm,hf,hE']
      refine ⟨⟨?_,?_⟩,?_⟩
      all_goals
        intro b hb0 hb
        have nb1 := bA hi hb
        have nb2 := bA hm hb
        try simp (disch := omega) only [↓aI,↓zP,aD,zD,aS,simprocAttr,Tryz.facts,hi,hm,hf,aP,ah]
        exact Sub.set_new hb
    · rintro σ F ⟨hF,s0,s6⟩
      simp (disch := omega) only [↓aI,↓zP,aD,zD,aS,simprocAttr,Tryz.facts,s0,s6]
      exact ⟨_,rfl,H,hF,rfl,t,fun _ _ => rfl⟩
end Go.Proofs.YtcgjlmopeblapaaGreat
end
