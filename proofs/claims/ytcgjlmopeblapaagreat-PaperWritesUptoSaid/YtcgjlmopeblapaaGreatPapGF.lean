/-
  Several texts in one: each says what it proves.
  Conditions: none. Lemmas only.
-/
import Derived.Test.YtcgjlmopeblapaaGreatPapG4
import Derived.Test.YtcgjlmopeblapaaGreatPapGD
import Derived.Test.YtcgjlmopeblapaaGreatFugG6
import Derived.Test.YtcgjlmopeblapaaGreatPapGC
import Derived.Test.YtcgjlmopeblapaaGreatPapGB
set_option linter.all false
section
set_option linter.unusedSimpArgs false
set_option linter.unusedVariables false
set_option maxRecDepth 8000
set_option maxHeartbeats 4000000
namespace Go.Proofs.YtcgjlmopeblapaaGreat
open Go Go.Abs Go.Proofs Go.Fug
theorem hang_congr {L L' : List Ins} {G G' : List EId} (g : Fug.Good L) (g' : Fug.Good L') (h : ∀ i,i ∈ L ↔ i ∈ L') (hg : ∀ x,x ∈ G ↔ x ∈ G') : (∀ p r,kids L p r = kids L' p r) ∧ ∀ x r,all L G x r = all L' G' x r := by
  have hlen : L.length = L'.length := Nat.le_antisymm (cO _ _ (good_nd g) fun i => (h i).1) (cO _ _ (good_nd g') fun i => (h i).2)
  have hk : ∀ p r,kids L p r = kids L' p r := fun p r => sorted_eq (kids_sorted g.nd p r) (kids_sorted g'.nd p r) fun x => by
    rw [mem_kids,mem_kids]
    constructor
    · rintro ⟨i,h1,h2⟩; exact ⟨i,(h i).1 h1,h2⟩
    · rintro ⟨i,h1,h2⟩; exact ⟨i,(h i).2 h1,h2⟩
  have hn : ∀ y,bl L G y = bl L' G' y := fun y => by
    have e1 : decide (y ∈ G) = decide (y ∈ G') := decide_eq_decide.2 (hg y)
    have e2 : (L.find? fun i => decide (i.id = y)) = L'.find? fun i => decide (i.id = y) := by
      cases e : L.find? fun i => decide (i.id = y) with
      | none =>
        symm
        rw [List.find?_eq_none] at e ⊢
        intro i hi
        exact e i ((h i).2 hi)
      | some i =>
        have hi := List.mem_of_find?_eq_some e
        have hp := List.find?_some e
        simp only [decide_eq_true_eq] at hp
        have := find_id g'.nd ((h i).1 hi)
        rw [hp] at this
        exact this.symm
    unfold bl
    rw [e1,e2]
  have hb : ∀ n x r,below L G n x r = below L' G' n x r := by
    intro n
    induction n with
    | zero => intro x r; rfl
    | succ n ih =>
      intro x r
      simp only [below]
      rw [hk]
      congr 1
      funext y
      rw [ih,ih,hn]
  refine ⟨hk,fun x r => ?_⟩
  show below L G (L.length + 1) x r = below L' G' (L'.length + 1) x r
  rw [hlen,hb]
theorem plan_same {P : List Opn} {s : PS} (r : Rel P s) (t : InvP s) (g : Fug.Good s.L) (nd : (s.I.map (·.id)).Nodup) (hz : sizP s < 4096) (i : Int) : planL s.L s.G i = planL (rTreeL P) (rTreeG P) i := by
  obtain ⟨h1,h2⟩ := rTree_in P
  have hL := tree_mem r (List.Perm.refl P) t g nd hz
  have hG : ∀ x,x ∈ s.G ↔ x ∈ rTreeG P := fun x => by
    have e : rTreeG P = P.foldl (rDrop (rTreeL P)) [] := rfl
    rw [t.mid.gd x,e,rDrop_mem,r.d,ids_mem hL]
    simp only [List.not_mem_nil,false_or]
  have hN := nodes_congr g h1.g hL hG
  obtain ⟨hk,ha⟩ := hang_congr g h1.g hL hG
  unfold planL planZ
  rw [hN]
  simp only [hk,ha]
theorem rplan_pure (L : List Ins) (G : List EId) (i : Int) (hL : L.length ≤ 10000) (hG : G.length ≤ 10000) (g : Fug.Good L) : APure Tryz.prog 30 [dJ L G,.sc (.int .i64 i)] (planV (planL L G i)) := by
  have hrl := rlive_pure L G hL hG g
  have hrn := rnodes_pure L G hL hG g
  have hnl := nodes_le G g.nd (by omega)
  have hll : (live (bF L G)).length ≤ 1000000000 := Nat.le_trans (List.length_filter_le _ _) hnl
  unfold planL
  by_cases h0 : i < 0
  · rw [if_neg (by omega)]
    generalize live (bF L G) = N at *
    refine az (c := ⟨Tryz.prog,60,[(14,[0,0,0,0,1,1,0]),(1000000,[2]),(4000016,[4,5,6]),(4000014,[4,8,9,10,11,52]),(4000007,[2,4,8,36]),(4000006,[2,4,8]),(4000002,[1,2,4,7,21])],[],[]⟩) (rs := [ResultVar.cell 4 50,ResultVar.tmp 5,ResultVar.tmp 6]) Tryz.mixed Tryz.func30 rfl rfl rfl (Nat.le_of_ble_eq_true rfl) (by kernel_rfl) fun H => ?_
    simp (disch := omega) only [↓aI,↓zP,aD,zD,aS,simprocAttr,Tryz.facts]
    intro b hb0 hb b2 hb20 hb2
    have nb := bK hb2
    simp (disch := omega) only [↓aI,↓zP,aD,zD,aS,simprocAttr,Tryz.facts,aP,nb,bH hb nb,ah]
    first | refine CallK.p (hrl) ?_ | refine CallP.i (hrl) ?_
    simp (disch := omega) only [↓aI,↓zP,aD,zD,aS,simprocAttr,Tryz.facts,zA,ah]
    first | exact ⟨rfl,Sub.set_new (am hb2)⟩ | exact Sub.set_new (am hb2)
  · obtain ⟨k,rfl⟩ : ∃ k : Nat,i = k := ⟨i.toNat,by omega⟩
    rw [Int.toNat_natCast]
    by_cases h1 : k ≤ (live (bF L G)).length
    · rw [if_pos (by omega)]
      obtain ⟨ha,hka⟩ := planA_ok (G := G) g h1
      have hrk := rkids_pure L G (eL (bF L G) k) true (by omega)
      have hkl : (cG L (eL (bF L G) k) true).length = (kids L (eL (bF L G) k) true).length := by rw [← kidsI_map g.nd,List.length_map]
      have hpp := fun (N : List Nd) (hN : N = bF L G) (h : kids L (eL (bF L G) k) true ≠ []) => (by subst hN; exact plan_pos (G := G) g ha h : ∃ p,p < N.length ∧ (∀ j (h : j < N.length),N[j].id = eL (bF L G) k ↔ j + 1 = p) ∧ ∀ h : p < N.length,N[p].id = planZ L G (eL (bF L G) k))
      have hkle := cr L (eL (bF L G) k) true
      have hKi := bN (cG L (eL (bF L G) k) true)
      have hnr : k = 0 → eL (bF L G) k = (0,0) := fun e => by subst e; rfl
      generalize eL (bF L G) k = a at *
      generalize cG L a true = KI at *
      obtain ⟨K,hK⟩ : ∃ K,K = kids L a true := ⟨_,rfl⟩
      rw [← hK] at hkl hpp hkle ⊢
      generalize planZ L G a = z at *
      obtain ⟨M,hM⟩ : ∃ M,M = live (bF L G) := ⟨_,rfl⟩
      simp only [← hM] at hrl hll h1
      have hka := fun (h : 0 < k) (h' : k - 1 < M.length) => (by subst hM; exact hka h : a = (M[k - 1]).id)
      obtain ⟨N,hN⟩ : ∃ N,N = bF L G := ⟨_,rfl⟩
      simp only [← hN] at hrn hnl
      replace hpp := hpp N hN
      obtain ⟨a1,a2⟩ := a
      obtain ⟨z1,z2⟩ := z
      clear ha hM hN
      have hMi := c7 M
      have hNi := c7 N
      have hc : (k = 0 ∧ a1 = 0 ∧ a2 = 0) ∨ (∃ j,k = j + 1 ∧ j < M.length ∧ ((dr M).drop (j * 4)).take 2 = [.sc (.int .i64 a1),.sc (.int .i64 a2)] ∧ j * 4 + 2 ≤ M.length * 4) := by
        rcases Nat.eq_zero_or_pos k with e | e
        · exact .inl ⟨e,by have := hnr e; simpa using this⟩
        · have h2 : k - 1 < M.length := by omega
          have e2 := hka e h2
          have e3 := ndsC_two h2
          rw [← e2] at e3
          exact .inr ⟨k - 1,by omega,h2,e3,by omega⟩
      clear hka hnr
      refine az (c := ⟨Tryz.prog,60,[(14,[0,0,0,0,1,1,0]),(1000000,[2]),(4000016,[4,5,6]),(4000014,[4,8,9,10,11,52]),(4000007,[2,4,8,36]),(4000006,[2,4,8]),(4000002,[1,2,4,7,21])],[],[]⟩) (rs := [ResultVar.cell 4 50,ResultVar.tmp 5,ResultVar.tmp 6]) Tryz.mixed Tryz.func30 rfl rfl rfl (Nat.le_of_ble_eq_true rfl) (by kernel_rfl) fun H => ?_
      simp (disch := omega) only [↓aI,↓zP,aD,zD,aS,simprocAttr,Tryz.facts]
      intro b hb0 hb b2 hb20 hb2
      have nb := bK hb2
      simp (disch := omega) only [↓aI,↓zP,aD,zD,aS,simprocAttr,Tryz.facts,aP,nb,bH hb nb,ah]
      have hbH := am hb2
      rcases hc with ⟨rfl,rfl,rfl⟩ | ⟨j,rfl,hj,ld,le2⟩
      · have hcase : True := trivial
        first | refine CallK.p (hrl) ?_ | refine CallP.i (hrl) ?_
        simp (disch := omega) only [↓aI,↓zP,aD,zD,aS,simprocAttr,Tryz.facts,zA,ah]
        intro b8 hb80 hb8
        have n28 := bK hb8
        have n82 := fun e : b8 = b2 => n28 e.symm
        refine CallK.p hrk ?_
        by_cases hKn : K = []
        · subst hKn
          have hkl0 : KI.length = 0 := hkl
          simp (disch := omega) only [↓aI,↓zP,aD,zD,aS,simprocAttr,Tryz.facts,aP,n28,n82,zA,ah,hkl0,hKi]
          exact (((Abs.Sub.refl H).set_free hbH).set_free (am hb8)).set_free hbH
        · have hkp : 0 < KI.length := by rw [hkl]; exact List.length_pos_iff.2 hKn
          obtain ⟨p,hpN,hpe,hpz⟩ := hpp hKn
          simp (disch := omega) only [↓aI,↓zP,aD,zD,aS,simprocAttr,Tryz.facts,aP,n28,n82,zA,ah,hKi]
          refine CallK.p hrn ?_
          simp (disch := omega) only [↓aI,↓zP,aD,zD,aS,simprocAttr,Tryz.facts,aP,n28,n82,zA,ah,hKi]
          refine br (c := ⟨Tryz.prog,60,[(14,[0,0,0,0,1,1,0]),(1000000,[2]),(4000016,[4,5,6]),(4000014,[4,8,9,10,11,52]),(4000007,[2,4,8,36]),(4000006,[2,4,8]),(4000002,[1,2,4,7,21])],[],[]⟩) Tryz.mixed (by kernel_rfl) (fun mm σ H' => H' = (H.set b2 (.cells [.sc (.int .i64 0),.sc (.int .i64 0)] 50 2)).set b8 (.cells [.sc (.int .i64 0),.sc (.int .i64 0)] 50 2) ∧ ∃ q : Nat,q + mm = N.length ∧ σ 4 = .ptr b2 0 ∧ σ 8 = .ptr b8 0 ∧ σ 9 = ndsV N ∧ σ 10 = .sc (.int .i64 ((if p ≤ q then p else 0 : Nat))) ∧ σ 11 = .sc (.int .i64 (q : Nat))) N.length ?_ ?_
          · refine ⟨rfl,0,by omega,?_⟩
            have : (if p ≤ 0 then p else 0) = 0 := by split <;> omega
            rw [this]
            simp (disch := omega) only [↓aI,↓zP,aD,zD,aS,simprocAttr,Tryz.facts]
            try rfl
          · rintro mm σ H' ⟨rfl,q,hqm,s4,s8,s9,s10,s11⟩
            by_cases hlt : q < N.length
            · have ldq := ndsC_two hlt
              have leq : q * 4 + 2 ≤ N.length * 4 := by omega
              have hq := hpe q hlt
              have hq1 : ((q : Nat) : Int) + 1 = ((q + 1 : Nat) : Int) := rfl
              generalize N[q] = x at *
              obtain ⟨⟨x1,x2⟩,xu,xg⟩ := x
              simp only [Prod.mk.injEq] at ldq hq
              by_cases e : x1 = 0 ∧ x2 = 0
              · have hp1 := hq.1 e
                obtain ⟨rfl,rfl⟩ := e
                have hn1 : (if p ≤ q + 1 then p else 0) = q + 1 := by rw [if_pos (by omega)]; exact hp1.symm
                simp (disch := omega) only [↓aI,↓zP,aD,zD,aS,simprocAttr,Tryz.facts,s4,s8,s9,s10,s11,aP,n28,n82,zA,ldq,leq,hNi,hq1,beq_self_eq_true]
                exact ⟨mm - 1,by omega,q + 1,by omega,by rw [hn1],rfl⟩
              · have hp1 : ¬ q + 1 = p := fun h => e (hq.2 h)
                have hn1 : (if p ≤ q + 1 then p else 0) = (if p ≤ q then p else 0) := by split <;> split <;> omega
                have hbq : ((x1 == 0) && (x2 == 0)) = false := by
                  rw [Bool.eq_false_iff]
                  intro h
                  simp only [Bool.and_eq_true,beq_iff_eq] at h
                  exact e h
                simp (disch := omega) only [↓aI,↓zP,aD,zD,aS,simprocAttr,Tryz.facts,s4,s8,s9,s10,s11,aP,n28,n82,dT,dF,ldq,leq,hNi,hq1,hbq]
                exact ⟨mm - 1,by omega,q + 1,by omega,by rw [hn1],rfl⟩
            · obtain rfl : q = N.length := by omega
              have hpq : (if p ≤ N.length then p else 0) = p := if_pos (by omega)
              rw [hpq] at s10
              have ldq := ndsC_two hpN
              have leq : p * 4 + 2 ≤ N.length * 4 := by omega
              rw [hpz hpN] at ldq
              simp (disch := omega) only [↓aI,↓zP,aD,zD,aS,simprocAttr,Tryz.facts,s4,s8,s9,s10,s11,aP,n28,n82,zA,ldq,leq,hNi,if_neg hKn,ah]
              exact (((Abs.Sub.refl H).set_free hbH).set_free (am hb8)).set_free hbH
      · have hj1 : j + 1 - 1 = j := rfl
        first | refine CallK.p (hrl) ?_ | refine CallP.i (hrl) ?_
        simp (disch := omega) only [↓aI,↓zP,aD,zD,aS,simprocAttr,Tryz.facts,zA,ah]
        intro b8 hb80 hb8
        have n28 := bK hb8
        have n82 := fun e : b8 = b2 => n28 e.symm
        simp (disch := omega) only [↓aI,↓zP,aD,zD,aS,simprocAttr,Tryz.facts,aP,n28,n82,zA,ah,hj1,ld,le2,hMi]
        refine CallK.p hrk ?_
        by_cases hKn : K = []
        · subst hKn
          have hkl0 : KI.length = 0 := hkl
          simp (disch := omega) only [↓aI,↓zP,aD,zD,aS,simprocAttr,Tryz.facts,aP,n28,n82,zA,ah,hkl0,hKi]
          exact (((Abs.Sub.refl H).set_free hbH).set_free (am hb8)).set_free hbH
        · have hkp : 0 < KI.length := by rw [hkl]; exact List.length_pos_iff.2 hKn
          obtain ⟨p,hpN,hpe,hpz⟩ := hpp hKn
          simp (disch := omega) only [↓aI,↓zP,aD,zD,aS,simprocAttr,Tryz.facts,aP,n28,n82,zA,ah,hKi]
          refine CallK.p hrn ?_
          simp (disch := omega) only [↓aI,↓zP,aD,zD,aS,simprocAttr,Tryz.facts,aP,n28,n82,zA,ah,hKi]
          refine br (c := ⟨Tryz.prog,60,[(14,[0,0,0,0,1,1,0]),(1000000,[2]),(4000016,[4,5,6]),(4000014,[4,8,9,10,11,52]),(4000007,[2,4,8,36]),(4000006,[2,4,8]),(4000002,[1,2,4,7,21])],[],[]⟩) Tryz.mixed (by kernel_rfl) (fun mm σ H' => H' = (H.set b2 (.cells [.sc (.int .i64 0),.sc (.int .i64 0)] 50 2)).set b8 (.cells [.sc (.int .i64 a1),.sc (.int .i64 a2)] 50 2) ∧ ∃ q : Nat,q + mm = N.length ∧ σ 4 = .ptr b2 0 ∧ σ 8 = .ptr b8 0 ∧ σ 9 = ndsV N ∧ σ 10 = .sc (.int .i64 ((if p ≤ q then p else 0 : Nat))) ∧ σ 11 = .sc (.int .i64 (q : Nat))) N.length ?_ ?_
          · refine ⟨rfl,0,by omega,?_⟩
            have : (if p ≤ 0 then p else 0) = 0 := by split <;> omega
            rw [this]
            simp (disch := omega) only [↓aI,↓zP,aD,zD,aS,simprocAttr,Tryz.facts]
            try rfl
          · rintro mm σ H' ⟨rfl,q,hqm,s4,s8,s9,s10,s11⟩
            by_cases hlt : q < N.length
            · have ldq := ndsC_two hlt
              have leq : q * 4 + 2 ≤ N.length * 4 := by omega
              have hq := hpe q hlt
              have hq1 : ((q : Nat) : Int) + 1 = ((q + 1 : Nat) : Int) := rfl
              generalize N[q] = x at *
              obtain ⟨⟨x1,x2⟩,xu,xg⟩ := x
              simp only [Prod.mk.injEq] at ldq hq
              by_cases e : x1 = a1 ∧ x2 = a2
              · have hp1 := hq.1 e
                obtain ⟨rfl,rfl⟩ := e
                have hn1 : (if p ≤ q + 1 then p else 0) = q + 1 := by rw [if_pos (by omega)]; exact hp1.symm
                simp (disch := omega) only [↓aI,↓zP,aD,zD,aS,simprocAttr,Tryz.facts,s4,s8,s9,s10,s11,aP,n28,n82,zA,ldq,leq,hNi,hq1,beq_self_eq_true]
                exact ⟨mm - 1,by omega,q + 1,by omega,by rw [hn1],rfl⟩
              · have hp1 : ¬ q + 1 = p := fun h => e (hq.2 h)
                have hn1 : (if p ≤ q + 1 then p else 0) = (if p ≤ q then p else 0) := by split <;> split <;> omega
                have hbq : ((x1 == a1) && (x2 == a2)) = false := by
                  rw [Bool.eq_false_iff]
                  intro h
                  simp only [Bool.and_eq_true,beq_iff_eq] at h
                  exact e h
                simp (disch := omega) only [↓aI,↓zP,aD,zD,aS,simprocAttr,Tryz.facts,s4,s8,s9,s10,s11,aP,n28,n82,dT,dF,ldq,leq,hNi,hq1,hbq]
                exact ⟨mm - 1,by omega,q + 1,by omega,by rw [hn1],rfl⟩
            · obtain rfl : q = N.length := by omega
              have hpq : (if p ≤ N.length then p else 0) = p := if_pos (by omega)
              rw [hpq] at s10
              have ldq := ndsC_two hpN
              have leq : p * 4 + 2 ≤ N.length * 4 := by omega
              rw [hpz hpN] at ldq
              simp (disch := omega) only [↓aI,↓zP,aD,zD,aS,simprocAttr,Tryz.facts,s4,s8,s9,s10,s11,aP,n28,n82,zA,ldq,leq,hNi,if_neg hKn,ah]
              exact (((Abs.Sub.refl H).set_free hbH).set_free (am hb8)).set_free hbH
    · rw [if_neg (by omega)]
      generalize live (bF L G) = N at *
      refine az (c := ⟨Tryz.prog,60,[(14,[0,0,0,0,1,1,0]),(1000000,[2]),(4000016,[4,5,6]),(4000014,[4,8,9,10,11,52]),(4000007,[2,4,8,36]),(4000006,[2,4,8]),(4000002,[1,2,4,7,21])],[],[]⟩) (rs := [ResultVar.cell 4 50,ResultVar.tmp 5,ResultVar.tmp 6]) Tryz.mixed Tryz.func30 rfl rfl rfl (Nat.le_of_ble_eq_true rfl) (by kernel_rfl) fun H => ?_
      simp (disch := omega) only [↓aI,↓zP,aD,zD,aS,simprocAttr,Tryz.facts]
      intro b hb0 hb b2 hb20 hb2
      have nb := bK hb2
      simp (disch := omega) only [↓aI,↓zP,aD,zD,aS,simprocAttr,Tryz.facts,aP,nb,bH hb nb,ah]
      first | refine CallK.p (hrl) ?_ | refine CallP.i (hrl) ?_
      simp (disch := omega) only [↓aI,↓zP,aD,zD,aS,simprocAttr,Tryz.facts,zA,ah]
      first | exact ⟨rfl,Sub.set_new (am hb2)⟩ | exact Sub.set_new (am hb2)

def typeR (P : List Opn) (at_ : Int) (txt : ByteArray) (author : Int) : List Opn × Int :=
  if author < 0 ∨ 5 ≤ author then ([],1)
  else if (planL (rTreeL P) (rTreeG P) at_).2.2 ≠ 0 then ([],(planL (rTreeL P) (rTreeG P) at_).2.2)
  else if 64 < (dO txt).length then ([],2)
  else if 1099511627776 < rCount P author + (dO txt).length then ([],14)
  else (eW author (rCount P author) (planL (rTreeL P) (rTreeG P) at_).1 (planL (rTreeL P) (rTreeG P) at_).2.1 (dO txt),0)
theorem type_same {P : List Opn} {s : PS} (r : Rel P s) (t : InvP s) (g : Fug.Good s.L) (hll : (live (bF s.L s.G)).length = s.L.length - s.G.length) (nd : (s.I.map (·.id)).Nodup) (hz : sizP s < 4096) (at_ : Int) (txt : ByteArray) (author : Int) : typeP s at_ txt author = typeR P at_ txt author := by
  have hp := plan_same r t g nd hz at_
  unfold typeP typeR
  rw [← hp,count_eq r author]
  by_cases c1 : author < 0 ∨ 5 ≤ author
  · rw [if_pos c1,if_pos c1]
  · rw [if_neg c1,if_neg c1]
    by_cases c2 : at_ < 0 ∨ ((s.L.length - s.G.length : Nat) : Int) < at_
    · have e : planL s.L s.G at_ = (bL, false, 6) := by
        unfold planL
        rw [if_neg (by omega)]
      rw [if_pos c2,e,if_pos (by simp)]
    · have e : (planL s.L s.G at_).2.2 = 0 := by
        unfold planL
        rw [if_pos (by omega)]
        split <;> rfl
      rw [if_neg c2,e,if_neg (show ¬ (0 : Int) ≠ 0 by simp)]
end Go.Proofs.YtcgjlmopeblapaaGreat
end
section
set_option linter.unusedSimpArgs false
set_option linter.unusedVariables false
set_option maxRecDepth 8000
set_option maxHeartbeats 4000000
namespace Go.Proofs.YtcgjlmopeblapaaGreat
open Go Go.Abs Go.Proofs Go.Fug
theorem rtype_pure (P : List Opn) (at_ : Int) (txt : ByteArray) (author : Int) (hP : P.length ≤ 4096) (ht : txt.size ≤ 1000000) (hc : 0 ≤ rCount P author ∧ rCount P author ≤ 1099511627776) :
    APure Tryz.prog 9 [papR P,.sc (.int .i64 at_),.sc (.string txt),.sc (.int .i64 author)] (.tup [opsV (typeR P at_ txt author).1,.sc (.int .i64 (typeR P at_ txt author).2)]) := by
  have htr := rtree_pure P hP
  have hin := rTree_in P
  have hLl := hin.1.le
  have hGl : (rTreeG P).length ≤ P.length := by
    have := rDrops_len (rTreeL P) P []
    simpa [rTreeG] using this
  have hpl := rplan_pure (rTreeL P) (rTreeG P) at_ (by omega) (by omega) hin.1.g
  have hcn := rcount_pure P author (by omega)
  have hrl : (dO txt).length ≤ txt.size := by have := runesAt_len txt txt.size 0; simpa [dO] using this
  have hR : typeR P at_ txt author = if author < 0 ∨ 5 ≤ author then ([],1) else if (planL (rTreeL P) (rTreeG P) at_).2.2 ≠ 0 then ([],(planL (rTreeL P) (rTreeG P) at_).2.2) else if 64 < (dO txt).length then ([],2) else if 1099511627776 < rCount P author + (dO txt).length then ([],14) else (eW author (rCount P author) (planL (rTreeL P) (rTreeG P) at_).1 (planL (rTreeL P) (rTreeG P) at_).2.1 (dO txt),0) := rfl
  generalize typeR P at_ txt author = R at *
  generalize planL (rTreeL P) (rTreeG P) at_ = pl at *
  generalize rTreeL P = L at *
  generalize rTreeG P = G at *
  generalize rCount P author = cn at *
  obtain ⟨⟨pa,pc⟩,r0,er⟩ := pl
  simp only [] at hR
  by_cases c1 : author < 0 ∨ 5 ≤ author
  · rw [if_pos c1] at hR
    subst hR
    by_cases c2 : author < 0
    · refine az (c := ⟨Tryz.prog,74,[(1000000,[4]),(1000001,[10]),(1000021,[19]),(4000022,[3,11,15,16,19,54]),(4000021,[3,11,12,15,16,18,19,54]),(4000004,[2,3,4,11,12,13]),(4000002,[1,2,3,4,10,27])],[],[]⟩) (rs := [ResultVar.tmp 8,ResultVar.tmp 9]) Tryz.mixed Tryz.func9 rfl rfl rfl (Nat.le_of_ble_eq_true rfl) (by kernel_rfl) fun H => ?_
      simp (disch := omega) only [↓aI,↓zP,aD,zD,aS,simprocAttr,Tryz.facts,zA]
      intro b4 hb40 hb4
      simp (disch := omega) only [↓aI,↓zP,aD,zD,aS,simprocAttr,Tryz.facts,zA,aj hb4,ah]
      first | refine CallK.p (htr) ?_ | refine CallP.i (htr) ?_
      simp (disch := omega) only [↓aI,↓zP,aD,zD,aS,simprocAttr,Tryz.facts,zA,ah]
      intro b10 hb100 hb10
      simp (disch := omega) only [↓aI,↓zP,aD,zD,aS,simprocAttr,Tryz.facts,zA,aj hb10,ah]
      exact ⟨rfl,Abs.Sub.refl _⟩
    · refine az (c := ⟨Tryz.prog,74,[(1000000,[4]),(1000001,[10]),(1000021,[19]),(4000022,[3,11,15,16,19,54]),(4000021,[3,11,12,15,16,18,19,54]),(4000004,[2,3,4,11,12,13]),(4000002,[1,2,3,4,10,27])],[],[]⟩) (rs := [ResultVar.tmp 8,ResultVar.tmp 9]) Tryz.mixed Tryz.func9 rfl rfl rfl (Nat.le_of_ble_eq_true rfl) (by kernel_rfl) fun H => ?_
      simp (disch := omega) only [↓aI,↓zP,aD,zD,aS,simprocAttr,Tryz.facts,zA]
      intro b4 hb40 hb4
      simp (disch := omega) only [↓aI,↓zP,aD,zD,aS,simprocAttr,Tryz.facts,zA,aj hb4,ah]
      first | refine CallK.p (htr) ?_ | refine CallP.i (htr) ?_
      simp (disch := omega) only [↓aI,↓zP,aD,zD,aS,simprocAttr,Tryz.facts,zA,ah]
      intro b10 hb100 hb10
      simp (disch := omega) only [↓aI,↓zP,aD,zD,aS,simprocAttr,Tryz.facts,zA,aj hb10,ah]
      exact ⟨rfl,Abs.Sub.refl _⟩
  · rw [if_neg c1] at hR
    refine az (c := ⟨Tryz.prog,74,[(1000000,[4]),(1000001,[10]),(1000021,[19]),(4000022,[3,11,15,16,19,54]),(4000021,[3,11,12,15,16,18,19,54]),(4000004,[2,3,4,11,12,13]),(4000002,[1,2,3,4,10,27])],[],[]⟩) (rs := [ResultVar.tmp 8,ResultVar.tmp 9]) Tryz.mixed Tryz.func9 rfl rfl rfl (Nat.le_of_ble_eq_true rfl) (by kernel_rfl) fun H => ?_
    simp (disch := omega) only [↓aI,↓zP,aD,zD,aS,simprocAttr,Tryz.facts,zA]
    intro b4 hb40 hb4
    simp (disch := omega) only [↓aI,↓zP,aD,zD,aS,simprocAttr,Tryz.facts,zA,aj hb4,ah]
    first | refine CallK.p (htr) ?_ | refine CallP.i (htr) ?_
    simp (disch := omega) only [↓aI,↓zP,aD,zD,aS,simprocAttr,Tryz.facts,zA,ah]
    intro b10 hb100 hb10
    simp (disch := omega) only [↓aI,↓zP,aD,zD,aS,simprocAttr,Tryz.facts,zA,aj hb10,ah]
    first | refine CallK.p (hpl) ?_ | refine CallP.i (hpl) ?_
    simp (disch := omega) only [↓aI,↓zP,aD,zD,aS,simprocAttr,Tryz.facts,zA,ah]
    intro b11 hb110 hb11
    by_cases c2 : er ≠ 0
    · rw [if_pos c2] at hR
      subst hR
      simp (disch := omega) only [↓aI,↓zP,aD,zD,aS,simprocAttr,Tryz.facts,zA,ah]
      exact ⟨rfl,Sub.set_new hb11⟩
    · rw [if_neg c2] at hR
      simp (disch := omega) only [↓aI,↓zP,aD,zD,aS,simprocAttr,Tryz.facts,zA,ah]
      refine range_s (by kernel_rfl) fun hr hr0 hrf => ?_
      simp (disch := omega) only [↓aI,↓zP,aD,zD,aS,simprocAttr,Tryz.facts]
      have hs0 : Abs.Sub H (H.set b11 (.cells [.sc (.int .i64 pa),.sc (.int .i64 pc)] 50 2)) := Sub.set_new hb11
      have v0 : (H.set b11 (.cells [.sc (.int .i64 pa),.sc (.int .i64 pc)] 50 2)) b11 = some (.cells [.sc (.int .i64 pa),.sc (.int .i64 pc)] 50 2) := set_get
      generalize H.set b11 (.cells [.sc (.int .i64 pa),.sc (.int .i64 pc)] 50 2) = H0 at *
      refine br (c := ⟨Tryz.prog,74,[(1000000,[4]),(1000001,[10]),(1000021,[19]),(4000022,[3,11,15,16,19,54]),(4000021,[3,11,12,15,16,18,19,54]),(4000004,[2,3,4,11,12,13]),(4000002,[1,2,3,4,10,27])],[],[]⟩) Tryz.mixed (by kernel_rfl) (fun mm σ H' => ∃ (pos c : Nat),mm = txt.size - pos ∧ c + (cT txt (txt.size - pos) pos).length = (dO txt).length ∧ pos ≤ txt.size + 4 ∧ H' hr = some (.raw (.stringIter txt pos)) ∧ Abs.Sub H0 H' ∧
        σ 2 = .sc (.string txt) ∧ σ 3 = .sc (.int .i64 author) ∧ σ 4 = .ip [opsV P] 0 ∧ σ 11 = .ptr b11 0 ∧ σ 12 = .sc (.bool r0) ∧ σ 14 = .sc (.int .i64 (c : Nat)) ∧ σ 39 = .ptr hr 0) txt.size ?_ ?_
      · refine ⟨0,0,by simp,by simp [dO],by omega,set_get,Sub.set_new hrf,?_⟩
        simp (disch := omega) only [↓aI,↓zP,aD,zD,aS,simprocAttr,Tryz.facts]
        try rfl
      · rintro mm σ H' ⟨pos,c,rfl,hcr,hp4,vr,hs,s2,s3,s4,s11,s12,s14,s39⟩
        simp (disch := omega) only [↓aI,↓zP,aD,zD,aS,simprocAttr,Tryz.facts,s2,s3,s4,s11,s12,s14,s39]
        refine next_s vr (fun hpos => ?_) (fun hpos => ?_)
        · have hw := dec_pos txt pos
          have hnx : c + 1 + (cT txt (txt.size - (pos + (Utf8.decode txt pos).2)) (pos + (Utf8.decode txt pos).2)).length = (dO txt).length := by
            rw [← hcr]
            obtain ⟨q,hq⟩ : ∃ q,txt.size - pos = q + 1 := ⟨txt.size - pos - 1,by omega⟩
            rw [hq]
            conv => rhs; unfold cT
            rw [if_pos hpos,List.length_cons,runesAt_fuel txt _ q _ (Nat.le_refl _) (by omega)]
            omega
          have hs2 : Abs.Sub H0 (H'.set hr (.raw (.stringIter txt (pos + (Utf8.decode txt pos).2)))) := hs.set_free hrf
          have hpl : pos + (Utf8.decode txt pos).2 ≤ txt.size + 4 := by
            have : (Utf8.decode txt pos).2 ≤ 4 := by
              unfold Utf8.decode
              simp only []
              repeat' split
              all_goals simp
            omega
          have hc1 : ((c : Nat) : Int) + 1 = ((c + 1 : Nat) : Int) := rfl
          simp (disch := omega) only [↓aI,↓zP,aD,zD,aS,simprocAttr,Tryz.facts,s2,s3,s4,s11,s12,s14,s39,zA,hc1]
          exact ⟨_,by omega,_,c + 1,rfl,hnx,hpl,rfl,hs2,rfl⟩
        · have hce : c = (dO txt).length := by
            have : txt.size - pos = 0 := by omega
            rw [this] at hcr
            simp only [cT,List.length_nil] at hcr
            omega
          rw [← hce] at hR hrl
          by_cases c3 : 64 < c
          · rw [if_pos c3] at hR
            subst hR
            simp (disch := omega) only [↓aI,↓zP,aD,zD,aS,simprocAttr,Tryz.facts,s2,s3,s4,s11,s12,s14,s39,zA]
            exact ⟨rfl,hs0.trans hs⟩
          · rw [if_neg c3] at hR
            simp (disch := omega) only [↓aI,↓zP,aD,zD,aS,simprocAttr,Tryz.facts,s2,s3,s4,s11,s12,s14,s39,zA]
            first | refine CallK.p (hcn) ?_ | refine CallP.i (hcn) ?_
            simp (disch := omega) only [↓aI,↓zP,aD,zD,aS,simprocAttr,Tryz.facts,s2,s3,s4,s11,s12,s14,s39,zA]
            by_cases c4 : 1099511627776 < cn + (c : Nat)
            · rw [if_pos c4] at hR
              subst hR
              simp (disch := omega) only [↓aI,↓zP,aD,zD,aS,simprocAttr,Tryz.facts,s2,s3,s4,s11,s12,s14,s39,zA]
              exact ⟨rfl,hs0.trans hs⟩
            · rw [if_neg c4] at hR
              simp (disch := omega) only [↓aI,↓zP,aD,zD,aS,simprocAttr,Tryz.facts,s2,s3,s4,s11,s12,s14,s39,zA]
              have hb11H' : H' b11 = some (.cells [.sc (.int .i64 pa),.sc (.int .i64 pc)] 50 2) := hs _ _ v0
              have hsH := hs0.trans hs
              clear vr s2 s4 s14 s39 hs v0
              refine range_s (by kernel_rfl) fun hr2 hr20 hrf2 => ?_
              have nr2 : ¬ b11 = hr2 := bA hb11H' hrf2
              simp (disch := omega) only [↓aI,↓zP,aD,zD,aS,simprocAttr,Tryz.facts]
              refine tok_t 16 (by simp (disch := omega) only [↓aI,↓zP,aD,zD,aS,simprocAttr,Tryz.facts]) fun k hk0 hk => ?_
              have hrk := bK hk
              have hkH' := am hk
              have nbk : ¬ b11 = k := bA hb11H' hkH'
              refine br (c := ⟨Tryz.prog,74,[(1000000,[4]),(1000001,[10]),(1000021,[19]),(4000022,[3,11,15,16,19,54]),(4000021,[3,11,12,15,16,18,19,54]),(4000004,[2,3,4,11,12,13]),(4000002,[1,2,3,4,10,27])],[],[]⟩) Tryz.mixed (by kernel_rfl) (fun mm σ H2 => ∃ (pos j : Nat) (a : EId) (r : Bool) (O : List Opn) (k : Nat) (o : AObj),mm = txt.size - pos ∧ O ++ eW author (cn + (j : Nat)) a r (cT txt (txt.size - pos) pos) = R.1 ∧ O.length = j ∧ j + (cT txt (txt.size - pos) pos).length = c ∧ pos ≤ txt.size + 4 ∧ k ≠ 0 ∧ H k = none ∧ ¬ b11 = k ∧ ¬ hr2 = k ∧ H2 hr2 = some (.raw (.stringIter txt pos)) ∧ H2 b11 = some (.cells [.sc (.int .i64 a.1),.sc (.int .i64 a.2)] 50 2) ∧ H2 k = some o ∧ cy 58 19 o (O.length * 19) ∧ Abs.Sub H H2 ∧
                σ 3 = .sc (.int .i64 author) ∧ σ 11 = .ptr b11 0 ∧ σ 12 = .sc (.bool r) ∧ σ 15 = .sc (.int .i64 (cn + (j : Nat))) ∧ σ 16 = .imm k (dL O) O.length ∧ σ 54 = .ptr hr2 0) txt.size ?_ ?_
              · refine ⟨0,0,(pa,pc),r0,[],k,.nilt,by simp,?_,rfl,by rw [hce]; simp [dO],by omega,hk0,hsH.free hkH',nbk,hrk,by rw [aP hrk,set_get],by rw [aP nbk,aP nr2]; exact hb11H',set_get,.inr ⟨rfl,rfl⟩,(hsH.set_free (hsH.free hrf2)).set_free (hsH.free hkH'),?_⟩
                · rw [hR]; simp [dO]
                · simp (disch := omega) only [↓aI,↓zP,aD,zD,aS,simprocAttr,Tryz.facts,s3,s11,s12]
                  first | exact ⟨by rw [Int.add_zero],rfl⟩ | (rw [Int.add_zero]; exact ⟨rfl,rfl⟩) | exact rfl
              · clear hkH' nbk hrk hk hk0 k hb11H' s3 s11 s12
                rintro mm σ H2 ⟨pos,j,a,r,O,k,o,rfl,hops,hOj,hjc,hp4,hk0,hkH,nbk,hrk,vr,vb,vk,ho,hs2,s3,s11,s12,s15,s16,s54⟩
                have hkr : ¬ k = hr2 := fun e => hrk e.symm
                have hOl := cq O
                simp (disch := omega) only [↓aI,↓zP,aD,zD,aS,simprocAttr,Tryz.facts,s3,s11,s12,s15,s16,s54]
                refine next_s vr (fun hpos => ?_) (fun hpos => ?_)
                · have hw := dec_pos txt pos
                  have hst : cT txt (txt.size - pos) pos = ((Utf8.decode txt pos).1 : Int) :: cT txt (txt.size - (pos + (Utf8.decode txt pos).2)) (pos + (Utf8.decode txt pos).2) := by
                    obtain ⟨q,hq⟩ : ∃ q,txt.size - pos = q + 1 := ⟨txt.size - pos - 1,by omega⟩
                    rw [hq]
                    conv => lhs; unfold cT
                    rw [if_pos hpos,runesAt_fuel txt _ q _ (Nat.le_refl _) (by omega)]
                  rw [hst] at hops hjc
                  rw [List.length_cons] at hjc
                  have hpl : pos + (Utf8.decode txt pos).2 ≤ txt.size + 4 := by
                    have : (Utf8.decode txt pos).2 ≤ 4 := by
                      unfold Utf8.decode
                      simp only []
                      repeat' split
                      all_goals simp
                    omega
                  have hfu : txt.size - (pos + (Utf8.decode txt pos).2) < txt.size - pos := by omega
                  have vr2 : (H2.set hr2 (.raw (.stringIter txt (pos + (Utf8.decode txt pos).2)))) hr2 = some (.raw (.stringIter txt (pos + (Utf8.decode txt pos).2))) := set_get
                  have vk2 : (H2.set hr2 (.raw (.stringIter txt (pos + (Utf8.decode txt pos).2)))) k = some o := by rw [aP hkr]; exact vk
                  have nr2' : ¬ b11 = hr2 := nr2
                  have vb2 : (H2.set hr2 (.raw (.stringIter txt (pos + (Utf8.decode txt pos).2)))) b11 = some (.cells [.sc (.int .i64 a.1),.sc (.int .i64 a.2)] 50 2) := by rw [aP nr2]; exact vb
                  have hs3 : Abs.Sub H (H2.set hr2 (.raw (.stringIter txt (pos + (Utf8.decode txt pos).2)))) := hs2.set_free (hsH.free hrf2)
                  generalize H2.set hr2 (.raw (.stringIter txt (pos + (Utf8.decode txt pos).2))) = H3 at *
                  generalize ((Utf8.decode txt pos).1 : Int) = x at *
                  generalize pos + (Utf8.decode txt pos).2 = pos2 at *
                  have hcj : (cn + (j : Int)) + 1 = cn + ((j + 1 : Nat) : Int) := by omega
                  unfold eW at hops
                  rw [hcj] at hops
                  have hsn := opsC_snoc O ⟨1,⟨(author,cn + ((j + 1 : Nat) : Int)),a,r,x⟩,(0,0),cF⟩
                  have hO1 : (O ++ [(⟨1,⟨(author,cn + ((j + 1 : Nat) : Int)),a,r,x⟩,(0,0),cF⟩ : Opn)]).length = O.length + 1 := by simp
                  have hsl := cq (O ++ [(⟨1,⟨(author,cn + ((j + 1 : Nat) : Int)),a,r,x⟩,(0,0),cF⟩ : Opn)])
                  have hops2 : (O ++ [(⟨1,⟨(author,cn + ((j + 1 : Nat) : Int)),a,r,x⟩,(0,0),cF⟩ : Opn)]) ++ eW author (cn + ((j + 1 : Nat) : Int)) (author,cn + ((j + 1 : Nat) : Int)) true (cT txt (txt.size - pos2) pos2) = R.1 := by
                    rw [← hops,List.append_assoc,List.singleton_append]
                  generalize O ++ [(⟨1,⟨(author,cn + ((j + 1 : Nat) : Int)),a,r,x⟩,(0,0),cF⟩ : Opn)] = O2 at *
                  obtain ⟨a1,a2⟩ := a
                  simp only [opC,cF] at hsn
                  simp only [] at vb2
                  simp (disch := omega) only [↓aI,↓zP,aD,zD,aS,simprocAttr,Tryz.facts,s3,s11,s12,s15,s16,s54,zA,hcj]
                  intro b19 hb190 hb19
                  have nb19 := bA vb2 hb19
                  have nk19 := bA vk2 hb19
                  simp (disch := omega) only [↓aI,↓zP,aD,zD,aS,simprocAttr,Tryz.facts,s3,s11,s12,s15,s16,s54,zA,aj hb19,ah,vb2,vk2,ho,hOl,hsn]
                  intro k3 o3 hk30 hk3 ho3
                  rw [hsl,hO1] at ho3
                  have n3 := bA vb2 hk3
                  have n4 := bA vr2 hk3
                  have nbk' : ¬ k3 = b11 := fun e => n3 e.symm
                  simp (disch := omega) only [↓aI,↓zP,aD,zD,aS,simprocAttr,Tryz.facts,s3,s11,s12,s15,s16,s54,zA,ah,vb2,aP,bZ,n3,nbk,aj hb19]
                  refine ⟨_,hfu,pos2,j + 1,(author,cn + ((j + 1 : Nat) : Int)),true,O2,k3,o3,rfl,hops2,by omega,by omega,hpl,hk30,hs3.free hk3,n3,n4,vr2,rfl,by rw [aP nbk',set_get],by rw [hO1]; exact ho3,((hs3.kill_free hkH).set_free (hs3.free hk3)).set_free hb11,?_⟩
                  rw [hO1]
                  first | exact rfl | exact ⟨rfl,rfl⟩ | exact ⟨rfl,rfl,rfl⟩ | exact ⟨rfl,rfl,rfl,rfl⟩ | exact ⟨rfl,rfl,rfl,rfl,rfl⟩
                · have hfin : O = R.1 := by
                    have : txt.size - pos = 0 := by omega
                    rw [this] at hops
                    simpa [cT,eW] using hops
                  have hR2 : R.2 = 0 := by rw [hR]
                  simp (disch := omega) only [↓aI,↓zP,aD,zD,aS,simprocAttr,Tryz.facts,s3,s11,s12,s15,s16,s54,zA]
                  rw [hfin,hR2]
                  exact ⟨rfl,hs2⟩
end Go.Proofs.YtcgjlmopeblapaaGreat
end
section
set_option linter.unusedSimpArgs false
set_option linter.unusedVariables false
set_option maxRecDepth 8000
set_option maxHeartbeats 4000000
namespace Go.Proofs.YtcgjlmopeblapaaGreat
open Go Go.Abs Go.Proofs Go.Fug
abbrev inR (M : List Nd) (a n : Int) : Prop := 0 ≤ a ∧ 0 ≤ n ∧ a ≤ (M.length : Nat) ∧ n ≤ (M.length : Nat) - a
def eraseR (M : List Nd) (a n : Int) : List Opn × Int :=
  if ¬ inR M a n then ([],6)
  else if 64 < n then ([],2)
  else (((M.drop a.toNat).take n.toNat).map fun x => opD x.id,0)
def markR (M : List Nd) (l : List Mk) (a n : Nat) (name value author : Int) : Mk := ⟨lastM l + 1,author,((M[a]?).map (·.id)).getD bL,false,((M[a + n - 1]?).map (·.id)).getD bL,true,name,value⟩
def paintR (M : List Nd) (l : List Mk) (a n name value author : Int) : List Opn × Int :=
  if ¬ inR M a n ∨ n = 0 then ([],6)
  else if lastM l = 1099511627776 then ([],14)
  else if cQ (markR M l a.toNat n.toNat name value author) = false then ([],1)
  else ([opM (markR M l a.toNat n.toNat name value author)],0)
theorem within_in {s : PS} (hll : (live (bF s.L s.G)).length = s.L.length - s.G.length) (a n : Int) : withinP s a n = false ↔ ¬ inR (live (bF s.L s.G)) a n := by
  unfold withinP
  rw [decide_eq_false_iff_not,← hll]
theorem erase_same {s : PS} (hll : (live (bF s.L s.G)).length = s.L.length - s.G.length) (a n : Int) : eraseP s a n = eraseR (live (bF s.L s.G)) a n := by
  unfold eraseP eraseR
  by_cases h : withinP s a n = false
  · rw [if_pos h,if_pos ((within_in hll a n).1 h)]
  · rw [if_neg h,if_neg (fun h2 => h ((within_in hll a n).2 h2))]
theorem paint_same {s : PS} (hll : (live (bF s.L s.G)).length = s.L.length - s.G.length) (a n name value author : Int) : paintP s a n name value author = paintR (live (bF s.L s.G)) s.l a n name value author := by
  unfold paintP paintR
  by_cases h : withinP s a n = false ∨ n = 0
  · rw [if_pos h,if_pos (h.imp_left (within_in hll a n).1)]
  · have h' : ¬ (¬ inR (live (bF s.L s.G)) a n ∨ n = 0) := fun h2 => h (h2.imp_left (within_in hll a n).2)
    rw [if_neg h,if_neg h']
    rfl
theorem rerase_pure (P : List Opn) (a n : Int) (hP : P.length ≤ 4096) : APure Tryz.prog 11 [papR P,.sc (.int .i64 a),.sc (.int .i64 n)] (.tup [opsV (eraseR (live (bF (rTreeL P) (rTreeG P))) a n).1,.sc (.int .i64 (eraseR (live (bF (rTreeL P) (rTreeG P))) a n).2)]) := by
  have htr := rtree_pure P hP
  have hin := rTree_in P
  have hLl := hin.1.le
  have hGl : (rTreeG P).length ≤ P.length := by
    have := rDrops_len (rTreeL P) P []
    simpa [rTreeG] using this
  have hlv := rlive_pure (rTreeL P) (rTreeG P) (by omega) (by omega) hin.1.g
  have hnl : (live (bF (rTreeL P) (rTreeG P))).length ≤ 4096 := by
    have h1 := nodes_sum hin.1.g (rTreeG P) fun _ => 1
    simp only [List.map_const',List.sum_replicate_nat] at h1
    have := List.length_filter_le (fun n : Nd => !n.gone) (bF (rTreeL P) (rTreeG P))
    unfold live
    omega
  generalize live (bF (rTreeL P) (rTreeG P)) = M at *
  have hR : eraseR M a n = if ¬ inR M a n then ([],6) else if 64 < n then ([],2) else (((M.drop a.toNat).take n.toNat).map fun x => opD x.id,0) := rfl
  have hMi := c7 M
  generalize eraseR M a n = R at *
  generalize rTreeL P = L at *
  generalize rTreeG P = G at *
  by_cases c0 : inR M a n
  · rw [if_neg (fun h => h c0)] at hR
    obtain ⟨c1,c2,c3,c4⟩ := c0
    obtain ⟨i,rfl⟩ : ∃ i : Nat,a = (i : Int) := ⟨a.toNat,by omega⟩
    obtain ⟨q,rfl⟩ : ∃ q : Nat,n = (q : Int) := ⟨n.toNat,by omega⟩
    simp only [Int.toNat_natCast] at hR
    refine az (c := ⟨Tryz.prog,53,[(1000000,[3])],[],[]⟩) (rs := [ResultVar.tmp 6,ResultVar.tmp 7]) Tryz.mixed Tryz.func11 rfl rfl rfl (Nat.le_of_ble_eq_true rfl) (by kernel_rfl) fun H => ?_
    simp (disch := omega) only [↓aI,↓zP,aD,zD,aS,simprocAttr,Tryz.facts,zA]
    intro b3 hb30 hb3
    simp (disch := omega) only [↓aI,↓zP,aD,zD,aS,simprocAttr,Tryz.facts,zA,aj hb3,ah]
    first | refine CallK.p (htr) ?_ | refine CallP.i (htr) ?_
    simp (disch := omega) only [↓aI,↓zP,aD,zD,aS,simprocAttr,Tryz.facts,zA]
    first | refine CallK.p (hlv) ?_ | refine CallP.i (hlv) ?_
    simp (disch := omega) only [↓aI,↓zP,aD,zD,aS,simprocAttr,Tryz.facts,zA,hMi]
    by_cases h64 : (64 : Int) < (q : Int)
    · rw [if_pos h64] at hR
      subst hR
      simp (disch := omega) only [↓aI,↓zP,aD,zD,aS,simprocAttr,Tryz.facts,zA,hMi]
      exact ⟨rfl,Abs.Sub.refl _⟩
    · rw [if_neg h64] at hR
      simp (disch := omega) only [↓aI,↓zP,aD,zD,aS,simprocAttr,Tryz.facts,zA,hMi]
      refine tok_t 9 (by simp (disch := omega) only [↓aI,↓zP,aD,zD,aS,simprocAttr,Tryz.facts]) fun k hk0 hk => ?_
      refine br (c := ⟨Tryz.prog,53,[(1000000,[3])],[],[]⟩) Tryz.mixed (by kernel_rfl) (fun mm σ H' => ∃ (j : Nat) (O : List Opn) (k : Nat) (o : AObj),j + mm = q ∧ O = ((M.drop i).take j).map (fun x => opD x.id) ∧ O.length = j ∧ k ≠ 0 ∧ H k = none ∧ Abs.Sub H H' ∧ H' k = some o ∧ cy 58 19 o (O.length * 19) ∧
        σ 1 = .sc (.int .i64 (i : Nat)) ∧ σ 2 = .sc (.int .i64 (q : Nat)) ∧ σ 8 = ndsV M ∧ σ 9 = .imm k (dL O) O.length ∧ σ 10 = .sc (.int .i64 (j : Nat))) q ?_ ?_
      · refine ⟨0,[],k,.nilt,by omega,by simp,rfl,hk0,hk,Sub.set_new hk,set_get,.inr ⟨rfl,rfl⟩,?_⟩
        simp (disch := omega) only [↓aI,↓zP,aD,zD,aS,simprocAttr,Tryz.facts]
        try rfl
      · clear hk hk0 k
        rintro mm σ H' ⟨j,O,k,o,hjm,hO,hOl,hk0,hk,hs,vk,ho,s1,s2,s8,s9,s10⟩
        by_cases hlt : j < q
        · have hnd : i + j < M.length := by omega
          have ld := ndsC_two hnd
          have le2 : (i + j) * 4 + 2 ≤ M.length * 4 := by omega
          have hij : (i : Int) + (j : Int) = ((i + j : Nat) : Int) := rfl
          have hO2 : ((M.drop i).take (j + 1)).map (fun x => opD x.id) = O ++ [opD M[i + j].id] := by
            rw [hO,List.take_succ_eq_append_getElem (by rw [List.length_drop]; omega),List.map_append,List.getElem_drop]
            rfl
          generalize M[i + j].id = x at *
          obtain ⟨x1,x2⟩ := x
          have hsn := opsC_snoc O (opD (x1,x2))
          have hsl := cq O
          simp only [] at ld
          simp (disch := omega) only [↓aI,↓zP,aD,zD,aS,simprocAttr,Tryz.facts,s1,s2,s8,s9,s10,zA,hij,ld,le2,hMi,vk,ho,hk0,hsl]
          intro k2 o2 hk20 hk2 ho2
          have hO1 : (O ++ [opD (x1,x2)]).length = O.length + 1 := by simp
          refine ⟨mm - 1,by omega,j + 1,O ++ [opD (x1,x2)],k2,o2,by omega,hO2.symm,by omega,hk20,hs.free hk2,(hs.kill_free hk).set_free (hs.free hk2),set_get,by rw [hO1,show (O.length + 1) * 19 = O.length * 19 + 19 by omega]; exact ho2,?_⟩
          rw [hO1,← hsn]
          first | exact rfl | exact ⟨rfl,rfl⟩ | exact ⟨rfl,rfl,rfl⟩
        · obtain rfl : j = q := by omega
          simp (disch := omega) only [↓aI,↓zP,aD,zD,aS,simprocAttr,Tryz.facts,s1,s2,s8,s9,s10,zA]
          rw [← hO] at hR
          rw [hR]
          exact ⟨rfl,hs⟩
  · rw [if_pos c0] at hR
    subst hR
    have hc : a < 0 ∨ (¬ a < 0 ∧ n < 0) ∨ (¬ a < 0 ∧ ¬ n < 0 ∧ (M.length : Nat) < a) ∨ (¬ a < 0 ∧ ¬ n < 0 ∧ ¬ (M.length : Nat) < a ∧ (M.length : Nat) - a < n) := by unfold inR at c0; omega
    clear c0
    rcases hc with h1 | ⟨h1,h2⟩ | ⟨h1,h2,h3⟩ | ⟨h1,h2,h3,h4⟩
    all_goals
      refine az (c := ⟨Tryz.prog,53,[(1000000,[3])],[],[]⟩) (rs := [ResultVar.tmp 6,ResultVar.tmp 7]) Tryz.mixed Tryz.func11 rfl rfl rfl (Nat.le_of_ble_eq_true rfl) (by kernel_rfl) fun H => ?_
      simp (disch := omega) only [↓aI,↓zP,aD,zD,aS,simprocAttr,Tryz.facts,zA]
      intro b3 hb30 hb3
      simp (disch := omega) only [↓aI,↓zP,aD,zD,aS,simprocAttr,Tryz.facts,zA,aj hb3,ah]
      first | refine CallK.p (htr) ?_ | refine CallP.i (htr) ?_
      simp (disch := omega) only [↓aI,↓zP,aD,zD,aS,simprocAttr,Tryz.facts,zA]
      first | refine CallK.p (hlv) ?_ | refine CallP.i (hlv) ?_
      simp (disch := omega) only [↓aI,↓zP,aD,zD,aS,simprocAttr,Tryz.facts,zA,hMi]
      exact ⟨rfl,Abs.Sub.refl _⟩
theorem rpaint_pure (P : List Opn) (a n name value author : Int) (hP : P.length ≤ 500) (hlp : 0 ≤ lastM (rMarks P)) (hlu : lastM (rMarks P) ≤ 1099511627776) : APure Tryz.prog 13 [papR P,.sc (.int .i64 a),.sc (.int .i64 n),.sc (.int .i64 name),.sc (.int .i64 value),.sc (.int .i64 author)] (.tup [opsV (paintR (live (bF (rTreeL P) (rTreeG P))) (rMarks P) a n name value author).1,.sc (.int .i64 (paintR (live (bF (rTreeL P) (rTreeG P))) (rMarks P) a n name value author).2)]) := by
  have htr := rtree_pure P (by omega)
  have hmr := rmarks_pure P hP
  have hin := rTree_in P
  have hLl := hin.1.le
  have hGl : (rTreeG P).length ≤ P.length := by
    have := rDrops_len (rTreeL P) P []
    simpa [rTreeG] using this
  have hml : (rMarks P).length ≤ P.length := by
    have := rMarks_len P []
    simpa [rMarks] using this
  have hlv := rlive_pure (rTreeL P) (rTreeG P) (by omega) (by omega) hin.1.g
  have hnl : (live (bF (rTreeL P) (rTreeG P))).length ≤ 4096 := by
    have h1 := nodes_sum hin.1.g (rTreeG P) fun _ => 1
    simp only [List.map_const',List.sum_replicate_nat] at h1
    have := List.length_filter_le (fun n : Nd => !n.gone) (bF (rTreeL P) (rTreeG P))
    unfold live
    omega
  generalize live (bF (rTreeL P) (rTreeG P)) = M at *
  generalize rMarks P = l at *
  have hR : paintR M l a n name value author = if ¬ inR M a n ∨ n = 0 then ([],6) else if lastM l = 1099511627776 then ([],14) else if cQ (markR M l a.toNat n.toNat name value author) = false then ([],1) else ([opM (markR M l a.toNat n.toNat name value author)],0) := rfl
  have hMi := c7 M
  have hll := bM l
  generalize paintR M l a n name value author = R at *
  generalize rTreeL P = L at *
  generalize rTreeG P = G at *
  by_cases c0 : ¬ inR M a n ∨ n = 0
  · rw [if_pos c0] at hR
    subst hR
    have hc : a < 0 ∨ (¬ a < 0 ∧ n < 1) ∨ (¬ a < 0 ∧ ¬ n < 1 ∧ (M.length : Nat) < a) ∨ (¬ a < 0 ∧ ¬ n < 1 ∧ ¬ (M.length : Nat) < a ∧ (M.length : Nat) - a < n) := by unfold inR at c0; omega
    clear c0
    rcases hc with h1 | ⟨h1,h2⟩ | ⟨h1,h2,h3⟩ | ⟨h1,h2,h3,h4⟩
    all_goals
      refine az (c := ⟨Tryz.prog,82,[(10,[0,0,0,0,0,0,0,0,0,0,0,0,0,0,0,0,0,0,0,0,0,2,2]),(1000000,[6]),(1000010,[17]),(4000013,[12,13]),(4000010,[17]),(4000007,[1,2,3,4,5,14,16]),(4000002,[1,2,3,4,5,6,14,40])],[],[]⟩) (rs := [ResultVar.tmp 12,ResultVar.tmp 13]) Tryz.mixed Tryz.func13 rfl rfl rfl (Nat.le_of_ble_eq_true rfl) (by kernel_rfl) fun H => ?_
      simp (disch := omega) only [↓aI,↓zP,aD,zD,aS,simprocAttr,Tryz.facts,zA]
      intro b3 hb30 hb3
      simp (disch := omega) only [↓aI,↓zP,aD,zD,aS,simprocAttr,Tryz.facts,zA,aj hb3,ah]
      first | refine CallK.p (htr) ?_ | refine CallP.i (htr) ?_
      simp (disch := omega) only [↓aI,↓zP,aD,zD,aS,simprocAttr,Tryz.facts,zA]
      first | refine CallK.p (hlv) ?_ | refine CallP.i (hlv) ?_
      simp (disch := omega) only [↓aI,↓zP,aD,zD,aS,simprocAttr,Tryz.facts,zA,hMi]
      exact ⟨rfl,Abs.Sub.refl _⟩
  · rw [if_neg c0] at hR
    have c1 : inR M a n := Decidable.not_not.1 (fun h => c0 (.inl h))
    have hn0 : n ≠ 0 := fun h => c0 (.inr h)
    obtain ⟨c1,c2,c3,c4⟩ := c1
    clear c0
    obtain ⟨i,rfl⟩ : ∃ i : Nat,a = (i : Int) := ⟨a.toNat,by omega⟩
    obtain ⟨q,rfl⟩ : ∃ q : Nat,n = (q : Int) := ⟨n.toNat,by omega⟩
    simp only [Int.toNat_natCast] at hR
    have hi1 : i < M.length := by omega
    have hi2 : i + q - 1 < M.length := by omega
    have hc : markR M l i q name value author = ⟨lastM l + 1,author,M[i].id,false,M[i + q - 1].id,true,name,value⟩ := by
      unfold markR
      rw [List.getElem?_eq_getElem hi1,List.getElem?_eq_getElem hi2]
      rfl
    rw [hc] at hR
    have ld1 := ndsC_two hi1
    have ld2 := ndsC_two hi2
    have le1 : i * 4 + 2 ≤ M.length * 4 := by omega
    have le2 : (i + q - 1) * 4 + 2 ≤ M.length * 4 := by omega
    have hiq : (i : Int) + (q : Int) - 1 = ((i + q - 1 : Nat) : Int) := by omega
    have hrg := fun M => rmright_pure M
    generalize M[i].id = x at *
    generalize M[i + q - 1].id = y at *
    obtain ⟨x1,x2⟩ := x
    obtain ⟨y1,y2⟩ := y
    have hr := hrg ⟨lastM l + 1,author,(x1,x2),false,(y1,y2),true,name,value⟩
    generalize hrm : cQ ⟨lastM l + 1,author,(x1,x2),false,(y1,y2),true,name,value⟩ = rm at *
    simp only [mkC] at hr
    simp only [] at ld1 ld2
    refine az (c := ⟨Tryz.prog,82,[(10,[0,0,0,0,0,0,0,0,0,0,0,0,0,0,0,0,0,0,0,0,0,2,2]),(1000000,[6]),(1000010,[17]),(4000013,[12,13]),(4000010,[17]),(4000007,[1,2,3,4,5,14,16]),(4000002,[1,2,3,4,5,6,14,40])],[],[]⟩) (rs := [ResultVar.tmp 12,ResultVar.tmp 13]) Tryz.mixed Tryz.func13 rfl rfl rfl (Nat.le_of_ble_eq_true rfl) (by kernel_rfl) fun H => ?_
    simp (disch := omega) only [↓aI,↓zP,aD,zD,aS,simprocAttr,Tryz.facts,zA]
    intro b3 hb30 hb3
    simp (disch := omega) only [↓aI,↓zP,aD,zD,aS,simprocAttr,Tryz.facts,zA,aj hb3,ah]
    first | refine CallK.p (htr) ?_ | refine CallP.i (htr) ?_
    simp (disch := omega) only [↓aI,↓zP,aD,zD,aS,simprocAttr,Tryz.facts,zA]
    first | refine CallK.p (hlv) ?_ | refine CallP.i (hlv) ?_
    simp (disch := omega) only [↓aI,↓zP,aD,zD,aS,simprocAttr,Tryz.facts,zA,hMi]
    first | refine CallK.p (hmr) ?_ | refine CallP.i (hmr) ?_
    simp (disch := omega) only [↓aI,↓zP,aD,zD,aS,simprocAttr,Tryz.facts,zA,hMi]
    have hcase : (l.length = 0 ∧ lastM l = 0) ∨ (0 < l.length ∧ (bE l)[(l.length - 1) * 10]? = some (.sc (.int .i64 (lastM l)))) := by
      rcases Nat.eq_zero_or_pos l.length with h0 | h0
      · obtain rfl : l = [] := List.length_eq_zero_iff.1 h0
        exact .inl ⟨rfl,rfl⟩
      · have hlt : l.length - 1 < l.length := by omega
        have hg0 := mksC_get hlt (show 0 < 10 by omega)
        have hL : lastM l = l[l.length - 1].clock := by
          unfold lastM
          rw [List.getLast?_eq_getElem?,List.getElem?_eq_getElem hlt]
        rw [hL]
        generalize l[l.length - 1] = x at *
        obtain ⟨xc,xa,⟨x1,x2⟩,xb,⟨x3,x4⟩,xd,xn,xv⟩ := x
        simp only [mkC,Nat.add_zero,List.getElem?_cons_zero] at hg0
        exact .inr ⟨h0,hg0⟩
    generalize lastM l = lm at *
    rcases hcase with ⟨h0,rfl⟩ | ⟨h0,hg0⟩
    · rw [if_neg (by omega)] at hR
      simp (disch := omega) only [↓aI,↓zP,aD,zD,aS,simprocAttr,Tryz.facts,zA,hll,hMi,ld1,ld2,le1,le2,hiq]
      intro b17 hb170 hb17
      simp (disch := omega) only [↓aI,↓zP,aD,zD,aS,simprocAttr,Tryz.facts,zA,hll,hMi,aj hb17,ah]
      first | refine CallK.p (hr) ?_ | refine CallP.i (hr) ?_
      simp (disch := omega) only [↓aI,↓zP,aD,zD,aS,simprocAttr,Tryz.facts,zA,hll,hMi,ah]
      cases rm
      · rw [if_pos rfl] at hR
        subst hR
        simp (disch := omega) only [↓aI,↓zP,aD,zD,aS,simprocAttr,Tryz.facts,zA,ah]
        exact ⟨rfl,Abs.Sub.refl _⟩
      · rw [if_neg (by simp)] at hR
        subst hR
        simp (disch := omega) only [↓aI,↓zP,aD,zD,aS,simprocAttr,Tryz.facts,zA,ah]
        exact ⟨rfl,Abs.Sub.refl _⟩
    · have hz : ((l.length : Int) - 1).toNat = l.length - 1 := by omega
      have hz2 : (l.length : Int) - 1 = ((l.length - 1 : Nat) : Int) := by omega
      have hle : (l.length - 1) * 10 < l.length * 10 := by omega
      have hle2 : (l.length - 1) * 10 + 10 ≤ l.length * 10 := by omega
      by_cases hbig : lm = 1099511627776
      · rw [if_pos hbig] at hR
        subst hR
        simp (disch := omega) only [↓aI,↓zP,aD,zD,aS,simprocAttr,Tryz.facts,zA,hll,hMi,hz,hz2,hg0,hle,hle2,hbig]
        exact ⟨rfl,Abs.Sub.refl _⟩
      · rw [if_neg hbig] at hR
        simp (disch := omega) only [↓aI,↓zP,aD,zD,aS,simprocAttr,Tryz.facts,zA,hll,hMi,hz,hz2,hg0,hle,hle2,ld1,ld2,le1,le2,hiq]
        intro b17 hb170 hb17
        simp (disch := omega) only [↓aI,↓zP,aD,zD,aS,simprocAttr,Tryz.facts,zA,hll,hMi,aj hb17,ah]
        first | refine CallK.p (hr) ?_ | refine CallP.i (hr) ?_
        simp (disch := omega) only [↓aI,↓zP,aD,zD,aS,simprocAttr,Tryz.facts,zA,hll,hMi,ah]
        cases rm
        · rw [if_pos rfl] at hR
          subst hR
          simp (disch := omega) only [↓aI,↓zP,aD,zD,aS,simprocAttr,Tryz.facts,zA,ah]
          exact ⟨rfl,Abs.Sub.refl _⟩
        · rw [if_neg (by simp)] at hR
          subst hR
          simp (disch := omega) only [↓aI,↓zP,aD,zD,aS,simprocAttr,Tryz.facts,zA,ah]
          exact ⟨rfl,Abs.Sub.refl _⟩
end Go.Proofs.YtcgjlmopeblapaaGreat
end
