/-
  SuiteBack: the walk, and the call.
  Conditions: none. Lemmas only.
-/
import Derived.Test.YtaehlpkinbpmbaaLetA
import Derived.Test.YtaehlpkinbpmbaaAbsG6
set_option linter.all false
set_option linter.unusedSimpArgs false
set_option linter.unusedVariables false
set_option maxRecDepth 20000
set_option maxHeartbeats 4000000
namespace Go.Proofs.Ytaehlpkinbpmbaa
open Go Go.Abs Go.Proofs
abbrev idealV (h : Nat) : AV := .ifc 27 (.ptr h 0)
abbrev bothV (seed other text : List UInt8) (n : Int) : List AV := [bytesV seed,bytesV other,bytesV text,.sc (.int .i64 n)]
theorem agrees_live (H0 H : AH) (h m : Nat) (seed other text : List UInt8) (n : Int) (ho : other.length ≤ 4000) (hx : text.length ≤ 4000) (hn : n < 9223372036854775808) (s : SS H0 H h m 0 []) :
    ACalls Try.prog 23 [idealV h,.agg (bothV seed other text n)] H fun v H' => v = .sc (.bool true) ∧ Abs.Sub H0 H' := by
  have oo := own_pure other (by omega)
  have ox := own_pure text (by omega)
  have e115 : ∀ d,sizeT (drawT d) = 32 := fun d => rfl
  refine ao (c := ⟨Try.prog,168,[(2000004,[0,1,2,3,5,6,7,4,8,9,10,11,12,13]),(4,[0,0,0,0,0,0,0,2,2,0,0,0,0,0]),(2000005,[0,1,2,3,5,6,7,4,8,9,10,11,12,13]),(5,[0,0,0,0,0,0,0,2,2,0,0,0,0,0]),(8,[0,0,0,1,0,0,0,0,2,0]),(9,[0,0,0,1,0,1,0,0,1,0,0,0,0,2,0]),(12,[0,0,0,1,0,1,0,0,0,0,0,2,0,0,0,0,0]),(13,[0,0,0,1,0,0,0,0,2,0]),(2000014,[0,1,2,3,4,5,6,7,8,9,10,11,12,13,14,15,16,17,18,19,20,21,22,23,24,25,26,27,29,30,32,33,34,35,28,31,36,37,38]),(14,[0,0,0,0,0,0,1,0,0,0,0,0,1,0,1,1,0,0,0,0,0,1,0,0,0,0,0,0,0,0,0,0,0,0,2,0,2,0,0]),(1000000,[3]),(4000014,[4]),(4000013,[0,3,5,12,13,14,15]),(4000012,[0,3,5,12,13,14]),(4000009,[0,3,5,11,12]),(4000008,[0,3,5,11]),(4000006,[0,3,5,7,76]),(4000005,[0,3,5,7,8,9,10]),(4000004,[0,3,5,6,7,8]),(4000002,[0,3,5,6,34]),(4000001,[0,3,5,6])],[],[]⟩) (rs := [ResultVar.tmp 4]) Try.mixed Try.func23 rfl rfl rfl (Nat.le_of_ble_eq_true rfl) (by kernel_rfl) ?_
  simp (disch := omega) only [↓aI,↓zP,aD,zD,aS,simprocAttr,Try.facts]
  intro b3 hb30 hb3
  rw [aj hb3]
  refine CallK.i (draw_ans (N := 0) (by omega) (by omega) GT.nil s) ?_
  rintro v H1 ⟨j,t1,rfl,s1,n1,p1,g1⟩
  simp (disch := omega) only [↓aI,↓zP,aD,zD,aS,simprocAttr,Try.facts]
  refine CallK.i (draw_ans (by omega) (by omega) g1 s1) ?_
  rintro v H2 ⟨k,t2,rfl,s2,n2,p2,g2⟩
  have lj : j.length = 32 := n1.len.trans (e115 _)
  have lk : k.length = 32 := n2.len.trans (e115 _)
  have hjk : (j == k) = false := by
    rw [beq_eq_false_iff_ne]
    rintro rfl
    have := (n1.up p2).inj n2 (by have := g2.len; omega)
    cases this
  have ij : ((j.length : Int) != 32) = false := by simp [lj]
  have ik : ((k.length : Int) != 32) = false := by simp [lk]
  simp (disch := omega) only [↓aI,↓zP,aD,zD,aS,simprocAttr,Try.facts,ij,ik,hjk,bO]
  refine CallK.i (public_ans k lk (by omega) g2 s2) ?_
  rintro v H3 ⟨pk,t3,rfl,s3,n3,p3,g3⟩
  simp (disch := omega) only [↓aI,↓zP,aD,zD,aS,simprocAttr,Try.facts]
  refine CallK.i (shared_ans j k pk lj (by omega) (by omega) g3 s3 n3) ?_
  rintro v H4 ⟨r,rfl,a,t4,rfl,s4,n4,p4,g4⟩
  simp (disch := omega) only [↓aI,↓zP,aD,zD,aS,simprocAttr,Try.facts]
  refine CallK.i (public_ans j lj (by omega) g4 s4) ?_
  rintro v H5 ⟨pj,t5,rfl,s5,n5,p5,g5⟩
  simp (disch := omega) only [↓aI,↓zP,aD,zD,aS,simprocAttr,Try.facts]
  refine CallK.i (shared_ans k j pj lk (by omega) (by omega) g5 s5 n5) ?_
  rintro v H6 ⟨r,rfl,c,t6,rfl,s6,n6,p6,g6⟩
  rw [shT_comm] at n6
  have hac := ((n4.up p5).up p6).one n6 g6.nd
  subst hac
  have la : a.length = 32 := by
    rw [n6.len]
    obtain ⟨-,hk⟩ := shT_wf (a := j) (b := k) (by omega) (by omega)
    unfold sizeT
    rw [hk]; rfl
  have ia : ((a.length : Int) != 32) = false := by simp [la]
  simp (disch := omega) only [↓aI,↓zP,aD,zD,aS,simprocAttr,Try.facts,ia,bO,bne_self_eq_false]
  first | refine CallK.p (oo) ?_ | refine CallP.i (oo) ?_
  simp (disch := omega) only [↓aI,↓zP,aD,zD,aS,simprocAttr,Try.facts]
  refine CallK.i (derive_ans a other la (by omega) (by omega) g6 s6) ?_
  rintro v H7 ⟨key,t7,rfl,s7,n7,p7,g7⟩
  have lkey : key.length = 32 := n7.len
  simp (disch := omega) only [↓aI,↓zP,aD,zD,aS,simprocAttr,Try.facts]
  first | refine CallK.p (oo) ?_ | refine CallP.i (oo) ?_
  simp (disch := omega) only [↓aI,↓zP,aD,zD,aS,simprocAttr,Try.facts]
  first | refine CallK.p (ox) ?_ | refine CallP.i (ox) ?_
  simp (disch := omega) only [↓aI,↓zP,aD,zD,aS,simprocAttr,Try.facts]
  by_cases hneg : n < 0
  · have en : decide (n < 0) = true := by simpa using hneg
    refine CallK.i (seal_neg n key other text hneg) ?_
    rintro v H8 ⟨rfl,rfl⟩
    simp (disch := omega) only [↓aI,↓zP,aD,zD,aS,simprocAttr,Try.facts,en,beq_self_eq_true,Int.ofNat_zero]
    exact ⟨_,rfl,_,Abs.Sub.refl _,rfl,s7.sub⟩
  · obtain ⟨w,rfl⟩ : ∃ w : Nat,n = w := ⟨n.toNat,by omega⟩
    have en : decide ((w : Int) < 0) = false := by simp
    refine CallK.i (seal_ans key w other text lkey (by omega) (by omega) (by omega) (by omega) g7 s7) ?_
    rintro v H8 ⟨box,t8,rfl,s8,n8,p8,g8⟩
    have lbox : box.length = text.length + 16 := n8.len
    have ebox : ((box.length : Int) == ((text.length + 16 : Nat) : Int)) = true := by simp [lbox]
    simp (disch := omega) only [↓aI,↓zP,aD,zD,aS,simprocAttr,Try.facts,en]
    first | refine CallK.p (oo) ?_ | refine CallP.i (oo) ?_
    simp (disch := omega) only [↓aI,↓zP,aD,zD,aS,simprocAttr,Try.facts]
    refine CallK.i (open_ans key w other text box lkey (by omega) (by omega) g8 s8 n8) ?_
    rintro v H9 ⟨rfl,rfl⟩
    simp (disch := omega) only [↓aI,↓zP,aD,zD,aS,simprocAttr,Try.facts]
    first | refine CallK.p (ox) ?_ | refine CallP.i (ox) ?_
    simp (disch := omega) only [↓aI,↓zP,aD,zD,aS,simprocAttr,Try.facts]
    refine CallK.i (sign_ans j text lj (by omega) (by omega) g8 s8) ?_
    rintro v H9 ⟨sig,t9,rfl,s9,n9,p9,g9⟩
    have lsig : sig.length = 64 := n9.len
    have esig : ((sig.length : Int) == 64) = true := by simp [lsig]
    simp (disch := omega) only [↓aI,↓zP,aD,zD,aS,simprocAttr,Try.facts,bO,beq_self_eq_true,ebox,esig]
    refine CallK.i (signer_ans j lj (by omega) g9 s9) ?_
    rintro v H10 ⟨sgn,t10,rfl,s10,n10,p10,g10⟩
    have lsgn : sgn.length = 32 := n10.len
    simp (disch := omega) only [↓aI,↓zP,aD,zD,aS,simprocAttr,Try.facts,esig]
    first | refine CallK.p (ox) ?_ | refine CallP.i (ox) ?_
    simp (disch := omega) only [↓aI,↓zP,aD,zD,aS,simprocAttr,Try.facts,esig]
    have hv := verify_ans j text sgn sig (by omega) (by omega) (by omega) g10 s10
    rw [ver_yes (by have := g10.len; omega) n10 (n9.up p10)] at hv
    refine CallK.i hv ?_
    rintro v H11 ⟨rfl,rfl⟩
    simp (disch := omega) only [↓aI,↓zP,aD,zD,aS,simprocAttr,Try.facts,esig]
    exact ⟨_,rfl,_,Abs.Sub.refl _,rfl,s10.sub⟩
theorem back_walk (seed other text : List UInt8) (n : Int) (hn : n < 9223372036854775808) (h1 : other.length ≤ 100000000) (h2 : text.length ≤ 100000000) : APure Try.prog 5 [.agg (bothV seed other text n)] (.sc (.bool true)) := by
  have haw := awake_pure
  by_cases h : 4000 < other.length ∨ 4000 < text.length
  · have hc : 4000 < other.length ∨ (¬ 4000 < other.length ∧ 4000 < text.length) := by omega
    clear h
    rcases hc with h | ⟨h,g⟩
    · have e1 : decide (4000 < (other.length : Int)) = true := by simp; omega
      refine az (c := ⟨Try.prog,27,[(1000000,[1])],[],[]⟩) (rs := [ResultVar.tmp 2]) Try.mixed Try.func5 rfl rfl rfl (Nat.le_of_ble_eq_true rfl) (by kernel_rfl) fun H => ?_
      simp (disch := omega) only [↓aI,↓zP,aD,zD,aS,simprocAttr,Try.facts,e1]
      intro k hk0 hk
      simp (disch := omega) only [↓aI,↓zP,aD,zD,aS,simprocAttr,Try.facts,e1,aj hk]
      first | refine CallK.p (haw) ?_ | refine CallP.i (haw) ?_
      simp (disch := omega) only [↓aI,↓zP,aD,zD,aS,simprocAttr,Try.facts]
      exact Abs.Sub.refl _
    · have e1 : decide (4000 < (other.length : Int)) = false := by simp; omega
      have e2 : decide (4000 < (text.length : Int)) = true := by simp; omega
      refine az (c := ⟨Try.prog,27,[(1000000,[1])],[],[]⟩) (rs := [ResultVar.tmp 2]) Try.mixed Try.func5 rfl rfl rfl (Nat.le_of_ble_eq_true rfl) (by kernel_rfl) fun H => ?_
      simp (disch := omega) only [↓aI,↓zP,aD,zD,aS,simprocAttr,Try.facts,e1,e2]
      intro k hk0 hk
      simp (disch := omega) only [↓aI,↓zP,aD,zD,aS,simprocAttr,Try.facts,e1,e2,aj hk]
      first | refine CallK.p (haw) ?_ | refine CallP.i (haw) ?_
      simp (disch := omega) only [↓aI,↓zP,aD,zD,aS,simprocAttr,Try.facts]
      exact Abs.Sub.refl _
  · have e1 : decide (4000 < (other.length : Int)) = false := by simp; omega
    have e2 : decide (4000 < (text.length : Int)) = false := by simp; omega
    refine az (c := ⟨Try.prog,27,[(1000000,[1])],[],[]⟩) (rs := [ResultVar.tmp 2]) Try.mixed Try.func5 rfl rfl rfl (Nat.le_of_ble_eq_true rfl) (by kernel_rfl) fun H => ?_
    simp (disch := omega) only [↓aI,↓zP,aD,zD,aS,simprocAttr,Try.facts,e1,e2]
    intro k hk0 hk
    simp (disch := omega) only [↓aI,↓zP,aD,zD,aS,simprocAttr,Try.facts,e1,e2,aj hk]
    refine CallK.i (new_ss _) ?_
    rintro v H1 ⟨h0,m,rfl,s1⟩
    simp (disch := omega) only [↓aI,↓zP,aD,zD,aS,simprocAttr,Try.facts]
    refine CallK.i (agrees_live _ _ h0 m seed other text n (by omega) (by omega) hn s1) ?_
    rintro v H2 ⟨rfl,s2⟩
    simp (disch := omega) only [↓aI,↓zP,aD,zD,aS,simprocAttr,Try.facts]
    first | refine CallK.p (haw) ?_ | refine CallP.i (haw) ?_
    simp (disch := omega) only [↓aI,↓zP,aD,zD,aS,simprocAttr,Try.facts]
    exact s2
end Go.Proofs.Ytaehlpkinbpmbaa
