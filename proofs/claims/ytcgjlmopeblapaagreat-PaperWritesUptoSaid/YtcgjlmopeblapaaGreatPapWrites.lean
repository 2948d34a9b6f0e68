/-
  PaperWrites: the walk, and the call, of the arguments as they are read.
  Conditions: none. Lemmas only.
-/
import Derived.Test.YtcgjlmopeblapaaGreatPapGF
import Derived.Test.YtcgjlmopeblapaaGreatPapGE
import Derived.Test.YtcgjlmopeblapaaGreatPapG1
import Derived.Test.YtcgjlmopeblapaaGreatPapG4
import Derived.Test.YtcgjlmopeblapaaGreatPapGA
set_option linter.all false
set_option linter.unusedSimpArgs false
set_option linter.unusedVariables false
set_option maxRecDepth 20000
set_option maxHeartbeats 8000000
namespace Go.Proofs.YtcgjlmopeblapaaGreat
open Go Go.Abs Go.Proofs Go.Fug
theorem typeOps_len (author : Int) : ∀ (l : List Int) (c : Int) (a : EId) (r : Bool),(eW author c a r l).length = l.length
  | [],_,_,_ => rfl
  | x :: l,c,a,r => by simp [eW,typeOps_len author l]
theorem typeR_len (P : List Opn) (at_ : Int) (txt : ByteArray) (author : Int) : (typeR P at_ txt author).1.length ≤ 64 := by
  unfold typeR
  repeat' split
  all_goals first | (simp; done) | skip
  rw [typeOps_len]
  omega
theorem eraseR_len (M : List Nd) (a n : Int) : (eraseR M a n).1.length ≤ 64 := by
  unfold eraseR
  repeat' split
  all_goals first | (simp; done) | skip
  rw [List.length_map]
  have := List.length_take_le n.toNat (M.drop a.toNat)
  omega
theorem paintR_len (M : List Nd) (l : List Mk) (a n name value author : Int) : (paintR M l a n name value author).1.length ≤ 64 := by
  unfold paintR
  repeat' split
  all_goals simp
theorem writes_walk (l : List (List Opn)) (w : Wsh) (hl : l.length ≤ 1100000) (hw : w.txt.length ≤ 1100000) : APure Tryz.prog 3 [opssV l,.agg (wishC w)] (.sc (.bool true)) := by
  have haw := awake_pure
  have hsp := small_pure l (by omega)
  obtain ⟨at_,n,name,value,author,txt⟩ := w
  simp only at hw
  simp only [wishC]
  have hTs : (⟨txt.toArray⟩ : ByteArray).size = txt.length := by simp [ByteArray.size]
  generalize hT : (⟨txt.toArray⟩ : ByteArray) = T at *
  cases hsm : smallB l
  · rw [hsm] at hsp
    refine az (c := ⟨Tryz.prog,144,[(2000010,[0,1,2,3,4,5,6,7,8,9,10,11,12,13,14,15,16,17,18,19,20,21,22,23,24,25,26,27,28,29,31,30,32,33,34,35,36,37,38]),(10,[0,0,0,0,0,0,0,0,0,0,0,0,0,0,0,0,0,0,0,0,0,0,0,0,0,0,0,0,0,0,0,2,0,0,0,0,2,0,0]),(1000000,[3]),(1000003,[6]),(4000010,[4]),(4000009,[5,6,8,9,10,11,12,13,14,15,16,17,18,19]),(4000008,[3,5,6,8,9,10,11,12,13,14,15,16,17]),(4000007,[3,5,6,8,9,10,11,12,13,14,15]),(4000006,[3,5,6,8,9,10,11,12,13]),(4000005,[3,5,6,8,9,10,11]),(4000004,[3,5,6,8,9]),(4000003,[3,5,6]),(4000001,[0,3,28])],[],[]⟩) (rs := [ResultVar.tmp 4]) Tryz.mixed Tryz.func3 rfl rfl rfl (Nat.le_of_ble_eq_true rfl) (by kernel_rfl) fun H => ?_
    simp (disch := omega) only [↓aI,↓zP,aD,zD,aS,simprocAttr,Tryz.facts,zA]
    intro k hk0 hk
    simp (disch := omega) only [↓aI,↓zP,aD,zD,aS,simprocAttr,Tryz.facts,zA,aj hk]
    first | refine CallK.p (hsp) ?_ | refine CallP.i (hsp) ?_
    simp (disch := omega) only [↓aI,↓zP,aD,zD,aS,simprocAttr,Tryz.facts,zA,aj hk]
    first | refine CallK.p (haw) ?_ | refine CallP.i (haw) ?_
    simp (disch := omega) only [↓aI,↓zP,aD,zD,aS,simprocAttr,Tryz.facts,zA]
    exact Abs.Sub.refl _
  · rw [hsm] at hsp
    by_cases hbig : 1000 < txt.length
    · refine az (c := ⟨Tryz.prog,144,[(2000010,[0,1,2,3,4,5,6,7,8,9,10,11,12,13,14,15,16,17,18,19,20,21,22,23,24,25,26,27,28,29,31,30,32,33,34,35,36,37,38]),(10,[0,0,0,0,0,0,0,0,0,0,0,0,0,0,0,0,0,0,0,0,0,0,0,0,0,0,0,0,0,0,0,2,0,0,0,0,2,0,0]),(1000000,[3]),(1000003,[6]),(4000010,[4]),(4000009,[5,6,8,9,10,11,12,13,14,15,16,17,18,19]),(4000008,[3,5,6,8,9,10,11,12,13,14,15,16,17]),(4000007,[3,5,6,8,9,10,11,12,13,14,15]),(4000006,[3,5,6,8,9,10,11,12,13]),(4000005,[3,5,6,8,9,10,11]),(4000004,[3,5,6,8,9]),(4000003,[3,5,6]),(4000001,[0,3,28])],[],[]⟩) (rs := [ResultVar.tmp 4]) Tryz.mixed Tryz.func3 rfl rfl rfl (Nat.le_of_ble_eq_true rfl) (by kernel_rfl) fun H => ?_
      simp (disch := omega) only [↓aI,↓zP,aD,zD,aS,simprocAttr,Tryz.facts,zA]
      intro k hk0 hk
      simp (disch := omega) only [↓aI,↓zP,aD,zD,aS,simprocAttr,Tryz.facts,zA,aj hk,hTs]
      first | refine CallK.p (hsp) ?_ | refine CallP.i (hsp) ?_
      simp (disch := omega) only [↓aI,↓zP,aD,zD,aS,simprocAttr,Tryz.facts,zA,aj hk,hTs]
      first | refine CallK.p (haw) ?_ | refine CallP.i (haw) ?_
      simp (disch := omega) only [↓aI,↓zP,aD,zD,aS,simprocAttr,Tryz.facts,zA]
      exact Abs.Sub.refl _
    · have hsum := smallF_sum l 0 (by simpa [smallB] using hsm)
      obtain ⟨inv,hz⟩ := both_inv l (by omega)
      have hI : ∀ i ∈ (bothS l).I,i.id.2 ≤ 1099511627776 := fun i hi => by
        have := inv.ok i hi
        unfold insO elO at this
        simp only [Bool.and_eq_true,decide_eq_true_eq] at this
        exact this.1.1.2
      obtain ⟨rel,hok⟩ := both_rel l
      have hbl := fun H => both_live H l (by omega) (by omega)
      have hrz := rel.size
      have hro := rops_pure (bothR l) (by omega)
      have hrl : (rOps (bothR l)).length ≤ 3000000 := by rw [(rOps_sorted _ rel.ok rel.nd).2.length_eq]; omega
      have hsa := same_pure (rOps (bothR l)) (rOps (bothR l)) hrl hrl
      rw [decide_eq_true rfl] at hsa
      have hcb := countP_le (s := bothS l) author hI
      rw [count_eq rel author] at hcb
      generalize bothS l = S at *
      generalize bothR l = P at *
      generalize bothOk l = O at *
      refine az (c := ⟨Tryz.prog,144,[(2000010,[0,1,2,3,4,5,6,7,8,9,10,11,12,13,14,15,16,17,18,19,20,21,22,23,24,25,26,27,28,29,31,30,32,33,34,35,36,37,38]),(10,[0,0,0,0,0,0,0,0,0,0,0,0,0,0,0,0,0,0,0,0,0,0,0,0,0,0,0,0,0,0,0,2,0,0,0,0,2,0,0]),(1000000,[3]),(1000003,[6]),(4000010,[4]),(4000009,[5,6,8,9,10,11,12,13,14,15,16,17,18,19]),(4000008,[3,5,6,8,9,10,11,12,13,14,15,16,17]),(4000007,[3,5,6,8,9,10,11,12,13,14,15]),(4000006,[3,5,6,8,9,10,11,12,13]),(4000005,[3,5,6,8,9,10,11]),(4000004,[3,5,6,8,9]),(4000003,[3,5,6]),(4000001,[0,3,28])],[],[]⟩) (rs := [ResultVar.tmp 4]) Tryz.mixed Tryz.func3 rfl rfl rfl (Nat.le_of_ble_eq_true rfl) (by kernel_rfl) fun H => ?_
      simp (disch := omega) only [↓aI,↓zP,aD,zD,aS,simprocAttr,Tryz.facts,zA]
      intro k hk0 hk
      simp (disch := omega) only [↓aI,↓zP,aD,zD,aS,simprocAttr,Tryz.facts,zA,aj hk,hTs]
      first | refine CallK.p (hsp) ?_ | refine CallP.i (hsp) ?_
      simp (disch := omega) only [↓aI,↓zP,aD,zD,aS,simprocAttr,Tryz.facts,zA,aj hk,hTs]
      refine CallK.i (hbl _) ?_
      rintro v H1 ⟨h,hh0,rfl,p⟩
      have hll : (live (bF S.L S.G)).length = S.L.length - S.G.length := live_len p.t.g p.t.gs p.t.gn
      have hN := tree_same rel inv p.t.g p.nd (by omega)
      have g1 := last_pos p.g
      have g2 := last_le p.g
      rw [rel.m] at g1 g2
      have h1 := fun H' (p' : IsP H H' h S) => type_live H H' h S at_ T author p' hh0 (by omega) hI
      have h2 := fun H' (p' : IsP H H' h S) => erase_live H H' h S at_ n p' hh0
      have h3 := fun H' (p' : IsP H H' h S) => paint_live H H' h S at_ n name value author p' hh0
      have h4 := fun H' (p' : IsP H H' h S) => ops_rel H H' h S P p' rel inv
      have r1 := rtype_pure P at_ T author (by omega) (by omega) hcb
      have r2 := rerase_pure P at_ n (by omega)
      have r3 := rpaint_pure P at_ n name value author (by omega) g1 g2
      rw [type_same rel inv p.t.g hll p.nd (by omega)] at h1
      rw [erase_same hll] at h2
      rw [paint_same hll,rel.m] at h3
      rw [hN] at h2 h3
      have l1 := typeR_len P at_ T author
      have l2 := eraseR_len (live (bF (rTreeL P) (rTreeG P))) at_ n
      have l3 := paintR_len (live (bF (rTreeL P) (rTreeG P))) (rMarks P) at_ n name value author
      generalize typeR P at_ T author = X at *
      generalize eraseR (live (bF (rTreeL P) (rTreeG P))) at_ n = Y at *
      generalize paintR (live (bF (rTreeL P) (rTreeG P))) (rMarks P) at_ n name value author = Z at *
      obtain ⟨XO,XE⟩ := X
      obtain ⟨YO,YE⟩ := Y
      obtain ⟨ZO,ZE⟩ := Z
      simp only [] at h1 h2 h3 r1 r2 r3 l1 l2 l3
      have s1 := same_pure XO XO (by omega) (by omega)
      have s2 := same_pure YO YO (by omega) (by omega)
      have s3 := same_pure ZO ZO (by omega) (by omega)
      rw [decide_eq_true rfl] at s1 s2 s3
      clear hll hN g1 g2 hcb hI
      simp (disch := omega) only [↓aI,↓zP,aD,zD,aS,simprocAttr,Tryz.facts,zA]
      intro k6 hk60 hk6
      try simp (disch := omega) only [↓aI,↓zP,aD,zD,aS,simprocAttr,Tryz.facts,zA,aj hk6,ah]
      refine CallK.i (h1 _ p) ?_
      rintro v E ⟨rfl,rfl⟩
      simp (disch := omega) only [↓aI,↓zP,aD,zD,aS,simprocAttr,Tryz.facts,zA,ah]
      first | refine CallK.p (r1) ?_ | refine CallP.i (r1) ?_
      simp (disch := omega) only [↓aI,↓zP,aD,zD,aS,simprocAttr,Tryz.facts,zA,ah]
      refine CallK.i (h2 _ p) ?_
      rintro v E ⟨rfl,e1⟩
      have p2 := p.mono e1
      simp (disch := omega) only [↓aI,↓zP,aD,zD,aS,simprocAttr,Tryz.facts,zA,ah]
      first | refine CallK.p (r2) ?_ | refine CallP.i (r2) ?_
      simp (disch := omega) only [↓aI,↓zP,aD,zD,aS,simprocAttr,Tryz.facts,zA,ah]
      refine CallK.i (h3 _ p2) ?_
      rintro v E2 ⟨rfl,e2⟩
      have p3 := p2.mono e2
      simp (disch := omega) only [↓aI,↓zP,aD,zD,aS,simprocAttr,Tryz.facts,zA,ah]
      first | refine CallK.p (r3) ?_ | refine CallP.i (r3) ?_
      simp (disch := omega) only [↓aI,↓zP,aD,zD,aS,simprocAttr,Tryz.facts,zA,ah]
      first | refine CallK.p (s1) ?_ | refine CallP.i (s1) ?_
      simp (disch := omega) only [↓aI,↓zP,aD,zD,aS,simprocAttr,Tryz.facts,zA,ah,beq_self_eq_true]
      first | refine CallK.p (s2) ?_ | refine CallP.i (s2) ?_
      simp (disch := omega) only [↓aI,↓zP,aD,zD,aS,simprocAttr,Tryz.facts,zA,ah,beq_self_eq_true]
      first | refine CallK.p (s3) ?_ | refine CallP.i (s3) ?_
      simp (disch := omega) only [↓aI,↓zP,aD,zD,aS,simprocAttr,Tryz.facts,zA,ah,beq_self_eq_true]
      refine CallK.i (h4 _ p3) ?_
      rintro v E3 ⟨rfl,rfl⟩
      simp (disch := omega) only [↓aI,↓zP,aD,zD,aS,simprocAttr,Tryz.facts,zA,ah,beq_self_eq_true]
      first | refine CallK.p (hro) ?_ | refine CallP.i (hro) ?_
      simp (disch := omega) only [↓aI,↓zP,aD,zD,aS,simprocAttr,Tryz.facts,zA,ah,beq_self_eq_true]
      first | refine CallK.p (hsa) ?_ | refine CallP.i (hsa) ?_
      simp (disch := omega) only [↓aI,↓zP,aD,zD,aS,simprocAttr,Tryz.facts,zA,ah,beq_self_eq_true]
      first | refine CallK.p (haw) ?_ | refine CallP.i (haw) ?_
      simp (disch := omega) only [↓aI,↓zP,aD,zD,aS,simprocAttr,Tryz.facts,zA,ah,beq_self_eq_true]
      exact p3.sub
theorem paper_writes (x0 : List (List OpX)) (x1 : WishX) (hb : Tryz.ty22.size x0 + Tryz.ty24.size x1 ≤ 1048576) : APure Tryz.prog 3 [(Tryz.ty22.enc x0).getD 0 .any,.agg (Tryz.ty24.enc x1)] (.sc (.bool true)) := by
  rw [wish_enc,opss_enc]
  obtain ⟨h1,h2⟩ := both_len x0 x1 hb
  exact writes_walk _ _ h1 h2
end Go.Proofs.YtcgjlmopeblapaaGreat
