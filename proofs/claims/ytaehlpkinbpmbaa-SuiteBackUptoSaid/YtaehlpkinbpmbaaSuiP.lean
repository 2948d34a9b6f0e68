/-
  The walks of the suite layer: the law that is asked of texts that are apart.
  Conditions: none. Lemmas only.
-/
import Derived.Test.YtaehlpkinbpmbaaSuiO
set_option linter.all false
set_option linter.unusedSimpArgs false
set_option linter.unusedVariables false
set_option maxHeartbeats 2000000
set_option maxRecDepth 20000
namespace Go.Proofs.Ytaehlpkinbpmbaa
open Go Go.Abs Go.Proofs

theorem numT_new {ts : List Term} {t : Term} (h : t ∉ ts) : numT ts t = (ts ++ [t],ts.length + 1) := by rw [numT,if_neg h]
theorem wfT_of {t : Term} (h : t.kind ≠ 98 ∧ t.kind ≠ 103 ∧ t.kind ≠ 118 ∧ t.kind ≠ 112) (h1 : t.parts.length ≤ 1000000) (h2 : t.parts.flatten.length ≤ 1000000000000) : wfT t :=
  ⟨⟨fun e => absurd e h.1,h1,h2⟩,fun e => absurd e h.2.1,fun e => absurd e h.2.2.1,fun e => absurd e h.2.2.2⟩
theorem awake_facts : ∃ (L1 L2 : List Term) (N1 N2 : List UInt8), GT 1000000 L1 ∧ GT 1000000 L2 ∧ L2.length = 2 ∧ N1.length = 32 ∧ N2.length = 32 ∧
    (bw N1)[0]? = some (.sc (.int .u8 115)) ∧ (bw N1)[1]? = some (.sc (.int .u8 1)) ∧ (bw N2)[0]? = some (.sc (.int .u8 104)) ∧ (bw N2)[1]? = some (.sc (.int .u8 2)) ∧
    (numT [] ⟨115,[lowL 8 (0 + 1)]⟩).1 = L1 ∧ nameT ⟨115,[lowL 8 (0 + 1)]⟩ (numT [] ⟨115,[lowL 8 (0 + 1)]⟩).2 = N1 ∧
    (numT L1 ⟨104,[[97]]⟩).1 = L2 ∧ nameT ⟨104,[[97]]⟩ (numT L1 ⟨104,[[97]]⟩).2 = N2 ∧ (numT L2 ⟨104,[[97]]⟩).1 = L2 ∧ nameT ⟨104,[[97]]⟩ (numT L2 ⟨104,[[97]]⟩).2 = N2 := by
  have w1 : wfT ⟨115,[lowL 8 1]⟩ := wfT_of (by simp) (by simp) (by simp [lowL_length])
  have w2 : wfT ⟨104,[[97]]⟩ := wfT_of (by simp) (by simp) (by simp)
  have z1 : numT [] ⟨115,[lowL 8 1]⟩ = ([⟨115,[lowL 8 1]⟩],1) := numT_new (by simp)
  have z2 : numT [⟨115,[lowL 8 1]⟩] ⟨104,[[97]]⟩ = ([⟨115,[lowL 8 1]⟩,⟨104,[[97]]⟩],2) := numT_new (by simp)
  have z3 : numT [⟨115,[lowL 8 1]⟩,⟨104,[[97]]⟩] ⟨104,[[97]]⟩ = ([⟨115,[lowL 8 1]⟩,⟨104,[[97]]⟩],2) := by decide
  have g1 : GT 1000000 [⟨115,[lowL 8 1]⟩] := by have := (GT.nil (N := 0)).num w1 (fun h => absurd h (by simp)); rw [z1] at this; exact this.mono (by omega)
  have g2 : GT 1000000 [⟨115,[lowL 8 1]⟩,⟨104,[[97]]⟩] := by have := ((GT.nil (N := 0)).num w1 (fun h => absurd h (by simp))).num w2 (fun h => absurd h (by simp)); rw [z1,z2] at this; exact this.mono (by omega)
  exact ⟨[⟨115,[lowL 8 1]⟩],[⟨115,[lowL 8 1]⟩,⟨104,[[97]]⟩],nameT ⟨115,[lowL 8 1]⟩ 1,nameT ⟨104,[[97]]⟩ 2,g1,g2,rfl,by rw [nameT_length]; rfl,by rw [nameT_length]; rfl,rfl,rfl,rfl,rfl,by rw [z1],by rw [z1],by rw [z2],by rw [z2],by rw [z3],by rw [z3]⟩
theorem awake_pure : APure Try.prog 22 [] (.sc (.bool true)) := by
  obtain ⟨L1,L2,N1,N2,g1,g2,hL,l1,l2,e0,e1,e2,e3,a1,a2,b1,b2,c1,c2⟩ := awake_facts
  have w2 : okT ⟨104,[[97]]⟩ := (wfT_of (t := ⟨104,[[97]]⟩) (by simp) (by simp) (by simp)).1
  have hd := fun (H : AH) (H1 : AH) (h m : Nat) (s : SS H H1 h m 0 []) => draw_tell (d := 0) (by omega) GT.nil s
  have h1 := fun (H : AH) (H1 : AH) (h m : Nat) (s : SS H H1 h m (0 + 1) L1) => (show ACalls Try.prog 51 [.ptr h 0,.imm 0 (bw [97]) 1] H1 _ from hash_tell [97] w2 g1 s)
  have h2 := fun (H : AH) (H1 : AH) (h m : Nat) (s : SS H H1 h m (0 + 1) L2) => (show ACalls Try.prog 51 [.ptr h 0,.imm 0 (bw [97]) 1] H1 _ from hash_tell [97] w2 g2 s)
  have h3 := fun (H : AH) (H1 : AH) (h m : Nat) (s : SS H H1 h m (0 + 1) L2) => len_ss s
  unfold TellR at h1 h2
  simp only [a1,a2] at hd
  simp only [b1,b2] at h1
  simp only [c1,c2] at h2
  simp only [hL] at h3
  have he : ([.sc (.int .u8 97)] : List AV) = bw [97] := rfl
  clear a1 a2 b1 b2 c1 c2
  generalize ([97] : List UInt8) = Z at *
  refine az (c := ⟨Try.prog,60,[(2000005,[0,1,2,3,4,5,6,7,8,9,10,11,12,13,14,15,16,17,18,19,20,21,22,23,24,25,26,27,28,29,30,31,32,33,38,39,34,35,36,37,40,41,42,43,44,45,46,47]),(5,[0,1,0,0,0,0,1,0,0,0,0,0,1,0,0,0,0,1,0,0,0,0,0,1,0,0,0,0,0,1,0,0,0,0,0,0,2,2,2,0,0,0,0,0,2,0,0,0]),(4000005,[0]),(4000004,[1,2,3])],[1000010,1000047],[]⟩) (rs := [ResultVar.tmp 0]) Try.mixed Try.func22 rfl rfl rfl (Nat.le_of_ble_eq_true rfl) (by kernel_rfl) fun H => ?_
  simp (disch := omega) only [↓aI,↓zP,aD,zD,aS,simprocAttr,Try.facts]
  refine CallK.i (new_ss H) ?_
  rintro v H1 ⟨h,m,rfl,s1⟩
  simp (disch := omega) only [↓aI,↓zP,aD,zD,aS,simprocAttr,Try.facts]
  refine CallK.i (hd _ _ _ _ s1) ?_
  rintro v H2 ⟨rfl,s2⟩
  simp (disch := omega) only [↓aI,↓zP,aD,zD,aS,simprocAttr,Try.facts]
  intro k hk0 hk
  simp (disch := omega) only [↓aI,↓zP,aD,zD,aS,simprocAttr,Try.facts,aj hk,he]
  refine CallK.i (h1 _ _ _ _ s2) ?_
  rintro v H3 ⟨rfl,s3⟩
  simp (disch := omega) only [↓aI,↓zP,aD,zD,aS,simprocAttr,Try.facts,l1,l2,e0,e1,e2,e3]
  intro k2 hk20 hk2
  simp (disch := omega) only [↓aI,↓zP,aD,zD,aS,simprocAttr,Try.facts,aj hk2,he]
  refine CallK.i (h2 _ _ _ _ s3) ?_
  rintro v H4 ⟨rfl,s4⟩
  simp (disch := omega) only [↓aI,↓zP,aD,zD,aS,simprocAttr,Try.facts,l1,l2]
  refine CallK.i (h3 _ _ _ _ s4) ?_
  rintro v H5 ⟨rfl,rfl⟩
  simp (disch := omega) only [↓aI,↓zP,aD,zD,aS,simprocAttr,Try.facts]
  exact s4.sub
end Go.Proofs.Ytaehlpkinbpmbaa
