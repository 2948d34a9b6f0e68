/-
  Several texts in one: each says what it proves.
  Conditions: none. Lemmas only.
-/
import Derived.Test.YtjlnpngaiphnmaaGreatRtG5
import Derived.Test.YtjlnpngaiphnmaaGreatRtG6
import Derived.Test.YtjlnpngaiphnmaaGreatRtG1
set_option linter.all false
section
set_option linter.unusedSimpArgs false
set_option linter.unusedVariables false
set_option maxRecDepth 20000
set_option maxHeartbeats 16000000
namespace Go.Proofs.YtjlnpngaiphnmaaGreat
open Go Go.Abs Go.Proofs
abbrev begC (h qv qS qG qM i : Nat) (b : BegS) : List AV := [.ptr h 0,.sc (.pointer none),.imm qv (dC b.ts) b.ts.length,.sc (.int .i64 ((2 * i : Nat) : Int)),.sc (.slice none 0 0),.sc (.slice none 0 0),.sc (.slice none 0 0),.imm qS (b.S.map eu) b.S.length,.imm qG (b.G.map eu) b.G.length,.imm qM (b.M.flatMap fL) b.M.length,.sc (.slice none 0 0)]
theorem begun_live (H : AH) : ACalls Tryz.prog 47 [] H fun v H' => ∃ h m r k kd,v = .tup [.agg (iD h r (fQ 5).ts 10 ((fQ 5).M.getD 0 noM).sgn ⟨[],[]⟩ (fQ 5).S (fQ 5).G (fQ 5).M []),.sc (.bool true)] ∧ r ≠ 0 ∧ k ≠ 0 ∧ kd ≠ 0 ∧ H r = none ∧ SS (H.set r (lgP ((fQ 5).M.getD 0 noM).sgn ⟨[],[]⟩ k kd)) H' h m 10 (fQ 5).ts := by
  have hn := fun H => new_ss H
  refine ao (c := ⟨Tryz.prog,124,[(7,[0,1,2,0,0,2,0,0]),(13,[0,0,0,0,0,0,0,0,0,0,0,0,0,0,1,0,2,0,0,0,0,0,0,0,0,0,2,0,0,0,0,0]),(15,[0,1,0,0,2,0,0,0,0,2,0,2,0,2]),(20,[1,0,0,0,2,0]),(4000020,[0,1]),(4000019,[0,2]),(4000018,[0,2]),(4000016,[0,2,17]),(4000015,[0,2,3,9,10,17]),(4000013,[0,2,3,7,8,9,10,17,82]),(4000011,[0,2,3,4,5,6,7,8,9,10,17]),(4000010,[0,2,3,4,5,6,7,8,9,17]),(4000009,[0,2,3,4,5,6,7,8,17]),(4000008,[0,2,3,4,5,6,7,17]),(4000007,[0,2,3,4,5,17])],[],[(7,(.op 0 0 (.op 3 0 (.op 1 4 (.or (.op 2 2 (.op 4 3 (.op 5 2 (.op 6 0 (.op 7 0 .nil))))) (.op 4 3 (.op 2 2 (.op 5 2 (.op 6 0 (.op 7 0 .nil)))))))))),(13,(.op 0 0 (.op 1 0 (.op 2 0 (.op 3 0 (.op 4 0 (.op 5 0 (.op 6 0 (.op 7 0 (.op 8 0 (.op 9 0 (.op 10 0 (.op 11 0 (.op 12 0 (.op 13 0 (.op 15 0 (.op 18 0 (.op 19 0 (.op 14 4 (.op 16 2 (.op 17 0 (.op 20 0 (.op 21 0 (.op 22 0 (.op 23 0 (.op 25 0 (.op 28 0 (.op 29 0 (.op 24 3 (.op 26 2 (.op 27 0 (.op 30 0 (.op 31 0 .nil))))))))))))))))))))))))))))))))),(15,(.op 0 0 (.op 2 0 (.op 3 0 (.op 5 0 (.op 7 0 (.op 8 0 (.op 1 4 (.op 6 4 (.op 4 3 (.op 10 0 (.op 9 3 (.op 11 2 (.op 12 0 (.op 13 2 .nil))))))))))))))),(20,(.op 1 0 (.op 0 4 (.or (.op 2 3 (.op 3 0 (.op 4 2 (.op 5 0 .nil)))) (.op 4 2 (.op 2 3 (.op 3 0 (.op 5 0 .nil))))))))]⟩) (rs := [ResultVar.cell 0 56,ResultVar.tmp 1]) Tryz.mixed Tryz.func47 rfl rfl rfl (Nat.le_of_ble_eq_true rfl) (by kernel_rfl) ?_
  simp (disch := omega) only [↓aI,↓zP,aD,zD,aS,simprocAttr,Tryz.facts,zA]
  intro b0 hb00 hb0
  try simp (disch := omega) only [↓aI,↓zP,aD,zD,aS,simprocAttr,Tryz.facts,zA]
  refine CallK.i (hn _) ?_
  rintro v E ⟨h,m,rfl,s0⟩
  try simp (disch := omega) only [↓aI,↓zP,aD,zD,aS,simprocAttr,Tryz.facts,zA]
  intro b2 hb20 hb2
  have f2 := s0.sub.free hb2
  have n02 := bK f2
  have f2H := am f2
  obtain ⟨B,hB⟩ : ∃ B,B = H.set b0 (.cells zBoth 56 11) := ⟨_,rfl⟩
  have hBs : Abs.Sub H B := by rw [hB]; exact Sub.set_new hb0
  have hB0 : B b0 = some (.cells zBoth 56 11) := by rw [hB,set_get]
  rw [← hB] at s0 f2
  have hn := f2
  try simp (disch := omega) only [↓aI,↓zP,aD,zD,aS,simprocAttr,Tryz.facts,zA,ah,ey]
  have s1 := s0.box (o := .cells [.ptr h 0,.sc (.pointer none),.sc (.slice none 0 0),.sc (.int .i64 0),.sc (.slice none 0 0),.sc (.slice none 0 0),.sc (.slice none 0 0),.sc (.slice none 0 0),.sc (.slice none 0 0),.sc (.slice none 0 0),.sc (.slice none 0 0)] 56 11) hb2
  have w0 : (E.set b2 (.cells [.ptr h 0,.sc (.pointer none),.sc (.slice none 0 0),.sc (.int .i64 0),.sc (.slice none 0 0),.sc (.slice none 0 0),.sc (.slice none 0 0),.sc (.slice none 0 0),.sc (.slice none 0 0),.sc (.slice none 0 0),.sc (.slice none 0 0)] 56 11)) b2 = some (.cells [.ptr h 0,.sc (.pointer none),.sc (.slice none 0 0),.sc (.int .i64 0),.sc (.slice none 0 0),.sc (.slice none 0 0),.sc (.slice none 0 0),.sc (.slice none 0 0),.sc (.slice none 0 0),.sc (.slice none 0 0),.sc (.slice none 0 0)] 56 11) := set_get
  have hD0 : (B.set b2 (.cells [.ptr h 0,.sc (.pointer none),.sc (.slice none 0 0),.sc (.int .i64 0),.sc (.slice none 0 0),.sc (.slice none 0 0),.sc (.slice none 0 0),.sc (.slice none 0 0),.sc (.slice none 0 0),.sc (.slice none 0 0),.sc (.slice none 0 0)] 56 11)) b0 = some (.cells zBoth 56 11) := by rw [aP n02]; exact hB0
  have hDs0 : Abs.Sub H (B.set b2 (.cells [.ptr h 0,.sc (.pointer none),.sc (.slice none 0 0),.sc (.int .i64 0),.sc (.slice none 0 0),.sc (.slice none 0 0),.sc (.slice none 0 0),.sc (.slice none 0 0),.sc (.slice none 0 0),.sc (.slice none 0 0),.sc (.slice none 0 0)] 56 11)) := hBs.set_free f2H
  have hD2 : (B.set b2 (.cells [.ptr h 0,.sc (.pointer none),.sc (.slice none 0 0),.sc (.int .i64 0),.sc (.slice none 0 0),.sc (.slice none 0 0),.sc (.slice none 0 0),.sc (.slice none 0 0),.sc (.slice none 0 0),.sc (.slice none 0 0),.sc (.slice none 0 0)] 56 11)) b2 = some (.cells [.ptr h 0,.sc (.pointer none),.sc (.slice none 0 0),.sc (.int .i64 0),.sc (.slice none 0 0),.sc (.slice none 0 0),.sc (.slice none 0 0),.sc (.slice none 0 0),.sc (.slice none 0 0),.sc (.slice none 0 0),.sc (.slice none 0 0)] 56 11) := set_get
  generalize hE0 : E.set b2 (.cells [.ptr h 0,.sc (.pointer none),.sc (.slice none 0 0),.sc (.int .i64 0),.sc (.slice none 0 0),.sc (.slice none 0 0),.sc (.slice none 0 0),.sc (.slice none 0 0),.sc (.slice none 0 0),.sc (.slice none 0 0),.sc (.slice none 0 0)] 56 11) = E0 at *
  generalize hDD : B.set b2 (.cells [.ptr h 0,.sc (.pointer none),.sc (.slice none 0 0),.sc (.int .i64 0),.sc (.slice none 0 0),.sc (.slice none 0 0),.sc (.slice none 0 0),.sc (.slice none 0 0),.sc (.slice none 0 0),.sc (.slice none 0 0),.sc (.slice none 0 0)] 56 11) = D0 at *
  refine tok_c b2 2 w0 rfl fun q2 hq20 hq2 => ?_
  have m2 := bA w0 hq2
  have g2 := s1.sub.free hq2
  have g2H := hDs0.free g2
  have s2 := (s1.box (o := .nilt) hq2).put (b := b2) (o' := .cells [.ptr h 0,.sc (.pointer none),.imm q2 [] 0,.sc (.int .i64 0),.sc (.slice none 0 0),.sc (.slice none 0 0),.sc (.slice none 0 0),.sc (.slice none 0 0),.sc (.slice none 0 0),.sc (.slice none 0 0),.sc (.slice none 0 0)] 56 11) (by rw [aP m2]; exact hD2)
  have w1 : ((E0.set q2 .nilt).set b2 (.cells [.ptr h 0,.sc (.pointer none),.imm q2 [] 0,.sc (.int .i64 0),.sc (.slice none 0 0),.sc (.slice none 0 0),.sc (.slice none 0 0),.sc (.slice none 0 0),.sc (.slice none 0 0),.sc (.slice none 0 0),.sc (.slice none 0 0)] 56 11)) b2 = some (.cells [.ptr h 0,.sc (.pointer none),.imm q2 [] 0,.sc (.int .i64 0),.sc (.slice none 0 0),.sc (.slice none 0 0),.sc (.slice none 0 0),.sc (.slice none 0 0),.sc (.slice none 0 0),.sc (.slice none 0 0),.sc (.slice none 0 0)] 56 11) := set_get
  have hD1z : ((D0.set q2 .nilt).set b2 (.cells [.ptr h 0,.sc (.pointer none),.imm q2 [] 0,.sc (.int .i64 0),.sc (.slice none 0 0),.sc (.slice none 0 0),.sc (.slice none 0 0),.sc (.slice none 0 0),.sc (.slice none 0 0),.sc (.slice none 0 0),.sc (.slice none 0 0)] 56 11)) b0 = some (.cells zBoth 56 11) := by rw [aP n02,aP (bA hD0 g2)]; exact hD0
  have hDs1 : Abs.Sub H ((D0.set q2 .nilt).set b2 (.cells [.ptr h 0,.sc (.pointer none),.imm q2 [] 0,.sc (.int .i64 0),.sc (.slice none 0 0),.sc (.slice none 0 0),.sc (.slice none 0 0),.sc (.slice none 0 0),.sc (.slice none 0 0),.sc (.slice none 0 0),.sc (.slice none 0 0)] 56 11)) := (hDs0.set_free g2H).set_free f2H
  have hD2 : ((D0.set q2 .nilt).set b2 (.cells [.ptr h 0,.sc (.pointer none),.imm q2 [] 0,.sc (.int .i64 0),.sc (.slice none 0 0),.sc (.slice none 0 0),.sc (.slice none 0 0),.sc (.slice none 0 0),.sc (.slice none 0 0),.sc (.slice none 0 0),.sc (.slice none 0 0)] 56 11)) b2 = some (.cells [.ptr h 0,.sc (.pointer none),.imm q2 [] 0,.sc (.int .i64 0),.sc (.slice none 0 0),.sc (.slice none 0 0),.sc (.slice none 0 0),.sc (.slice none 0 0),.sc (.slice none 0 0),.sc (.slice none 0 0),.sc (.slice none 0 0)] 56 11) := set_get
  have o2 : ((D0.set q2 .nilt).set b2 (.cells [.ptr h 0,.sc (.pointer none),.imm q2 [] 0,.sc (.int .i64 0),.sc (.slice none 0 0),.sc (.slice none 0 0),.sc (.slice none 0 0),.sc (.slice none 0 0),.sc (.slice none 0 0),.sc (.slice none 0 0),.sc (.slice none 0 0)] 56 11)) q2 = some .nilt := by rw [aP (fun e => m2 e.symm),set_get]
  have hD0 := hD1z
  rw [show (List.set ([.ptr h 0,.sc (.pointer none),.sc (.slice none 0 0),.sc (.int .i64 0),.sc (.slice none 0 0),.sc (.slice none 0 0),.sc (.slice none 0 0),.sc (.slice none 0 0),.sc (.slice none 0 0),.sc (.slice none 0 0),.sc (.slice none 0 0)] : List AV) 2 (.imm q2 [] 0)) = [.ptr h 0,.sc (.pointer none),.imm q2 [] 0,.sc (.int .i64 0),.sc (.slice none 0 0),.sc (.slice none 0 0),.sc (.slice none 0 0),.sc (.slice none 0 0),.sc (.slice none 0 0),.sc (.slice none 0 0),.sc (.slice none 0 0)] from rfl]
  generalize hE1 : (E0.set q2 .nilt).set b2 (.cells [.ptr h 0,.sc (.pointer none),.imm q2 [] 0,.sc (.int .i64 0),.sc (.slice none 0 0),.sc (.slice none 0 0),.sc (.slice none 0 0),.sc (.slice none 0 0),.sc (.slice none 0 0),.sc (.slice none 0 0),.sc (.slice none 0 0)] 56 11) = E1 at w1 s2 ⊢
  generalize hDD1 : (D0.set q2 .nilt).set b2 (.cells [.ptr h 0,.sc (.pointer none),.imm q2 [] 0,.sc (.int .i64 0),.sc (.slice none 0 0),.sc (.slice none 0 0),.sc (.slice none 0 0),.sc (.slice none 0 0),.sc (.slice none 0 0),.sc (.slice none 0 0),.sc (.slice none 0 0)] 56 11) = D1 at *
  refine tok_c b2 7 w1 rfl fun q7 hq70 hq7 => ?_
  have m7 := bA w1 hq7
  have g7 := s2.sub.free hq7
  have g7H := hDs1.free g7
  have d27 : ¬ q2 = q7 := fun e => by rw [← e] at g7; rw [o2] at g7; cases g7
  have s3 := (s2.box (o := .nilt) hq7).put (b := b2) (o' := .cells [.ptr h 0,.sc (.pointer none),.imm q2 [] 0,.sc (.int .i64 0),.sc (.slice none 0 0),.sc (.slice none 0 0),.sc (.slice none 0 0),.imm q7 [] 0,.sc (.slice none 0 0),.sc (.slice none 0 0),.sc (.slice none 0 0)] 56 11) (by rw [aP m7]; exact hD2)
  have w2 : ((E1.set q7 .nilt).set b2 (.cells [.ptr h 0,.sc (.pointer none),.imm q2 [] 0,.sc (.int .i64 0),.sc (.slice none 0 0),.sc (.slice none 0 0),.sc (.slice none 0 0),.imm q7 [] 0,.sc (.slice none 0 0),.sc (.slice none 0 0),.sc (.slice none 0 0)] 56 11)) b2 = some (.cells [.ptr h 0,.sc (.pointer none),.imm q2 [] 0,.sc (.int .i64 0),.sc (.slice none 0 0),.sc (.slice none 0 0),.sc (.slice none 0 0),.imm q7 [] 0,.sc (.slice none 0 0),.sc (.slice none 0 0),.sc (.slice none 0 0)] 56 11) := set_get
  have hD2z : ((D1.set q7 .nilt).set b2 (.cells [.ptr h 0,.sc (.pointer none),.imm q2 [] 0,.sc (.int .i64 0),.sc (.slice none 0 0),.sc (.slice none 0 0),.sc (.slice none 0 0),.imm q7 [] 0,.sc (.slice none 0 0),.sc (.slice none 0 0),.sc (.slice none 0 0)] 56 11)) b0 = some (.cells zBoth 56 11) := by rw [aP n02,aP (bA hD0 g7)]; exact hD0
  have hDs2 : Abs.Sub H ((D1.set q7 .nilt).set b2 (.cells [.ptr h 0,.sc (.pointer none),.imm q2 [] 0,.sc (.int .i64 0),.sc (.slice none 0 0),.sc (.slice none 0 0),.sc (.slice none 0 0),.imm q7 [] 0,.sc (.slice none 0 0),.sc (.slice none 0 0),.sc (.slice none 0 0)] 56 11)) := (hDs1.set_free g7H).set_free f2H
  have hD2 : ((D1.set q7 .nilt).set b2 (.cells [.ptr h 0,.sc (.pointer none),.imm q2 [] 0,.sc (.int .i64 0),.sc (.slice none 0 0),.sc (.slice none 0 0),.sc (.slice none 0 0),.imm q7 [] 0,.sc (.slice none 0 0),.sc (.slice none 0 0),.sc (.slice none 0 0)] 56 11)) b2 = some (.cells [.ptr h 0,.sc (.pointer none),.imm q2 [] 0,.sc (.int .i64 0),.sc (.slice none 0 0),.sc (.slice none 0 0),.sc (.slice none 0 0),.imm q7 [] 0,.sc (.slice none 0 0),.sc (.slice none 0 0),.sc (.slice none 0 0)] 56 11) := set_get
  have o7 : ((D1.set q7 .nilt).set b2 (.cells [.ptr h 0,.sc (.pointer none),.imm q2 [] 0,.sc (.int .i64 0),.sc (.slice none 0 0),.sc (.slice none 0 0),.sc (.slice none 0 0),.imm q7 [] 0,.sc (.slice none 0 0),.sc (.slice none 0 0),.sc (.slice none 0 0)] 56 11)) q7 = some .nilt := by rw [aP (fun e => m7 e.symm),set_get]
  have o2 : ((D1.set q7 .nilt).set b2 (.cells [.ptr h 0,.sc (.pointer none),.imm q2 [] 0,.sc (.int .i64 0),.sc (.slice none 0 0),.sc (.slice none 0 0),.sc (.slice none 0 0),.imm q7 [] 0,.sc (.slice none 0 0),.sc (.slice none 0 0),.sc (.slice none 0 0)] 56 11)) q2 = some .nilt := by rw [aP (fun e => m2 e.symm),aP d27]; exact o2
  have hD0 := hD2z
  rw [show (List.set ([.ptr h 0,.sc (.pointer none),.imm q2 [] 0,.sc (.int .i64 0),.sc (.slice none 0 0),.sc (.slice none 0 0),.sc (.slice none 0 0),.sc (.slice none 0 0),.sc (.slice none 0 0),.sc (.slice none 0 0),.sc (.slice none 0 0)] : List AV) 7 (.imm q7 [] 0)) = [.ptr h 0,.sc (.pointer none),.imm q2 [] 0,.sc (.int .i64 0),.sc (.slice none 0 0),.sc (.slice none 0 0),.sc (.slice none 0 0),.imm q7 [] 0,.sc (.slice none 0 0),.sc (.slice none 0 0),.sc (.slice none 0 0)] from rfl]
  generalize hE2 : (E1.set q7 .nilt).set b2 (.cells [.ptr h 0,.sc (.pointer none),.imm q2 [] 0,.sc (.int .i64 0),.sc (.slice none 0 0),.sc (.slice none 0 0),.sc (.slice none 0 0),.imm q7 [] 0,.sc (.slice none 0 0),.sc (.slice none 0 0),.sc (.slice none 0 0)] 56 11) = E2 at w2 s3 ⊢
  generalize hDD2 : (D1.set q7 .nilt).set b2 (.cells [.ptr h 0,.sc (.pointer none),.imm q2 [] 0,.sc (.int .i64 0),.sc (.slice none 0 0),.sc (.slice none 0 0),.sc (.slice none 0 0),.imm q7 [] 0,.sc (.slice none 0 0),.sc (.slice none 0 0),.sc (.slice none 0 0)] 56 11) = D2 at *
  refine tok_c b2 8 w2 rfl fun q8 hq80 hq8 => ?_
  have m8 := bA w2 hq8
  have g8 := s3.sub.free hq8
  have g8H := hDs2.free g8
  have d28 : ¬ q2 = q8 := fun e => by rw [← e] at g8; rw [o2] at g8; cases g8
  have d78 : ¬ q7 = q8 := fun e => by rw [← e] at g8; rw [o7] at g8; cases g8
  have s4 := (s3.box (o := .nilt) hq8).put (b := b2) (o' := .cells [.ptr h 0,.sc (.pointer none),.imm q2 [] 0,.sc (.int .i64 0),.sc (.slice none 0 0),.sc (.slice none 0 0),.sc (.slice none 0 0),.imm q7 [] 0,.imm q8 [] 0,.sc (.slice none 0 0),.sc (.slice none 0 0)] 56 11) (by rw [aP m8]; exact hD2)
  have w3 : ((E2.set q8 .nilt).set b2 (.cells [.ptr h 0,.sc (.pointer none),.imm q2 [] 0,.sc (.int .i64 0),.sc (.slice none 0 0),.sc (.slice none 0 0),.sc (.slice none 0 0),.imm q7 [] 0,.imm q8 [] 0,.sc (.slice none 0 0),.sc (.slice none 0 0)] 56 11)) b2 = some (.cells [.ptr h 0,.sc (.pointer none),.imm q2 [] 0,.sc (.int .i64 0),.sc (.slice none 0 0),.sc (.slice none 0 0),.sc (.slice none 0 0),.imm q7 [] 0,.imm q8 [] 0,.sc (.slice none 0 0),.sc (.slice none 0 0)] 56 11) := set_get
  have hD3z : ((D2.set q8 .nilt).set b2 (.cells [.ptr h 0,.sc (.pointer none),.imm q2 [] 0,.sc (.int .i64 0),.sc (.slice none 0 0),.sc (.slice none 0 0),.sc (.slice none 0 0),.imm q7 [] 0,.imm q8 [] 0,.sc (.slice none 0 0),.sc (.slice none 0 0)] 56 11)) b0 = some (.cells zBoth 56 11) := by rw [aP n02,aP (bA hD0 g8)]; exact hD0
  have hDs3 : Abs.Sub H ((D2.set q8 .nilt).set b2 (.cells [.ptr h 0,.sc (.pointer none),.imm q2 [] 0,.sc (.int .i64 0),.sc (.slice none 0 0),.sc (.slice none 0 0),.sc (.slice none 0 0),.imm q7 [] 0,.imm q8 [] 0,.sc (.slice none 0 0),.sc (.slice none 0 0)] 56 11)) := (hDs2.set_free g8H).set_free f2H
  have hD2 : ((D2.set q8 .nilt).set b2 (.cells [.ptr h 0,.sc (.pointer none),.imm q2 [] 0,.sc (.int .i64 0),.sc (.slice none 0 0),.sc (.slice none 0 0),.sc (.slice none 0 0),.imm q7 [] 0,.imm q8 [] 0,.sc (.slice none 0 0),.sc (.slice none 0 0)] 56 11)) b2 = some (.cells [.ptr h 0,.sc (.pointer none),.imm q2 [] 0,.sc (.int .i64 0),.sc (.slice none 0 0),.sc (.slice none 0 0),.sc (.slice none 0 0),.imm q7 [] 0,.imm q8 [] 0,.sc (.slice none 0 0),.sc (.slice none 0 0)] 56 11) := set_get
  have o8 : ((D2.set q8 .nilt).set b2 (.cells [.ptr h 0,.sc (.pointer none),.imm q2 [] 0,.sc (.int .i64 0),.sc (.slice none 0 0),.sc (.slice none 0 0),.sc (.slice none 0 0),.imm q7 [] 0,.imm q8 [] 0,.sc (.slice none 0 0),.sc (.slice none 0 0)] 56 11)) q8 = some .nilt := by rw [aP (fun e => m8 e.symm),set_get]
  have o2 : ((D2.set q8 .nilt).set b2 (.cells [.ptr h 0,.sc (.pointer none),.imm q2 [] 0,.sc (.int .i64 0),.sc (.slice none 0 0),.sc (.slice none 0 0),.sc (.slice none 0 0),.imm q7 [] 0,.imm q8 [] 0,.sc (.slice none 0 0),.sc (.slice none 0 0)] 56 11)) q2 = some .nilt := by rw [aP (fun e => m2 e.symm),aP d28]; exact o2
  have o7 : ((D2.set q8 .nilt).set b2 (.cells [.ptr h 0,.sc (.pointer none),.imm q2 [] 0,.sc (.int .i64 0),.sc (.slice none 0 0),.sc (.slice none 0 0),.sc (.slice none 0 0),.imm q7 [] 0,.imm q8 [] 0,.sc (.slice none 0 0),.sc (.slice none 0 0)] 56 11)) q7 = some .nilt := by rw [aP (fun e => m7 e.symm),aP d78]; exact o7
  have hD0 := hD3z
  rw [show (List.set ([.ptr h 0,.sc (.pointer none),.imm q2 [] 0,.sc (.int .i64 0),.sc (.slice none 0 0),.sc (.slice none 0 0),.sc (.slice none 0 0),.imm q7 [] 0,.sc (.slice none 0 0),.sc (.slice none 0 0),.sc (.slice none 0 0)] : List AV) 8 (.imm q8 [] 0)) = [.ptr h 0,.sc (.pointer none),.imm q2 [] 0,.sc (.int .i64 0),.sc (.slice none 0 0),.sc (.slice none 0 0),.sc (.slice none 0 0),.imm q7 [] 0,.imm q8 [] 0,.sc (.slice none 0 0),.sc (.slice none 0 0)] from rfl]
  generalize hE3 : (E2.set q8 .nilt).set b2 (.cells [.ptr h 0,.sc (.pointer none),.imm q2 [] 0,.sc (.int .i64 0),.sc (.slice none 0 0),.sc (.slice none 0 0),.sc (.slice none 0 0),.imm q7 [] 0,.imm q8 [] 0,.sc (.slice none 0 0),.sc (.slice none 0 0)] 56 11) = E3 at w3 s4 ⊢
  generalize hDD3 : (D2.set q8 .nilt).set b2 (.cells [.ptr h 0,.sc (.pointer none),.imm q2 [] 0,.sc (.int .i64 0),.sc (.slice none 0 0),.sc (.slice none 0 0),.sc (.slice none 0 0),.imm q7 [] 0,.imm q8 [] 0,.sc (.slice none 0 0),.sc (.slice none 0 0)] 56 11) = D3 at *
  refine tok_c b2 9 w3 rfl fun q9 hq90 hq9 => ?_
  have m9 := bA w3 hq9
  have g9 := s4.sub.free hq9
  have g9H := hDs3.free g9
  have d29 : ¬ q2 = q9 := fun e => by rw [← e] at g9; rw [o2] at g9; cases g9
  have d79 : ¬ q7 = q9 := fun e => by rw [← e] at g9; rw [o7] at g9; cases g9
  have d89 : ¬ q8 = q9 := fun e => by rw [← e] at g9; rw [o8] at g9; cases g9
  have s5 := (s4.box (o := .nilt) hq9).put (b := b2) (o' := .cells [.ptr h 0,.sc (.pointer none),.imm q2 [] 0,.sc (.int .i64 0),.sc (.slice none 0 0),.sc (.slice none 0 0),.sc (.slice none 0 0),.imm q7 [] 0,.imm q8 [] 0,.imm q9 [] 0,.sc (.slice none 0 0)] 56 11) (by rw [aP m9]; exact hD2)
  have w4 : ((E3.set q9 .nilt).set b2 (.cells [.ptr h 0,.sc (.pointer none),.imm q2 [] 0,.sc (.int .i64 0),.sc (.slice none 0 0),.sc (.slice none 0 0),.sc (.slice none 0 0),.imm q7 [] 0,.imm q8 [] 0,.imm q9 [] 0,.sc (.slice none 0 0)] 56 11)) b2 = some (.cells [.ptr h 0,.sc (.pointer none),.imm q2 [] 0,.sc (.int .i64 0),.sc (.slice none 0 0),.sc (.slice none 0 0),.sc (.slice none 0 0),.imm q7 [] 0,.imm q8 [] 0,.imm q9 [] 0,.sc (.slice none 0 0)] 56 11) := set_get
  have hD4z : ((D3.set q9 .nilt).set b2 (.cells [.ptr h 0,.sc (.pointer none),.imm q2 [] 0,.sc (.int .i64 0),.sc (.slice none 0 0),.sc (.slice none 0 0),.sc (.slice none 0 0),.imm q7 [] 0,.imm q8 [] 0,.imm q9 [] 0,.sc (.slice none 0 0)] 56 11)) b0 = some (.cells zBoth 56 11) := by rw [aP n02,aP (bA hD0 g9)]; exact hD0
  have hDs4 : Abs.Sub H ((D3.set q9 .nilt).set b2 (.cells [.ptr h 0,.sc (.pointer none),.imm q2 [] 0,.sc (.int .i64 0),.sc (.slice none 0 0),.sc (.slice none 0 0),.sc (.slice none 0 0),.imm q7 [] 0,.imm q8 [] 0,.imm q9 [] 0,.sc (.slice none 0 0)] 56 11)) := (hDs3.set_free g9H).set_free f2H
  have hD2 : ((D3.set q9 .nilt).set b2 (.cells [.ptr h 0,.sc (.pointer none),.imm q2 [] 0,.sc (.int .i64 0),.sc (.slice none 0 0),.sc (.slice none 0 0),.sc (.slice none 0 0),.imm q7 [] 0,.imm q8 [] 0,.imm q9 [] 0,.sc (.slice none 0 0)] 56 11)) b2 = some (.cells [.ptr h 0,.sc (.pointer none),.imm q2 [] 0,.sc (.int .i64 0),.sc (.slice none 0 0),.sc (.slice none 0 0),.sc (.slice none 0 0),.imm q7 [] 0,.imm q8 [] 0,.imm q9 [] 0,.sc (.slice none 0 0)] 56 11) := set_get
  have o9 : ((D3.set q9 .nilt).set b2 (.cells [.ptr h 0,.sc (.pointer none),.imm q2 [] 0,.sc (.int .i64 0),.sc (.slice none 0 0),.sc (.slice none 0 0),.sc (.slice none 0 0),.imm q7 [] 0,.imm q8 [] 0,.imm q9 [] 0,.sc (.slice none 0 0)] 56 11)) q9 = some .nilt := by rw [aP (fun e => m9 e.symm),set_get]
  have o2 : ((D3.set q9 .nilt).set b2 (.cells [.ptr h 0,.sc (.pointer none),.imm q2 [] 0,.sc (.int .i64 0),.sc (.slice none 0 0),.sc (.slice none 0 0),.sc (.slice none 0 0),.imm q7 [] 0,.imm q8 [] 0,.imm q9 [] 0,.sc (.slice none 0 0)] 56 11)) q2 = some .nilt := by rw [aP (fun e => m2 e.symm),aP d29]; exact o2
  have o7 : ((D3.set q9 .nilt).set b2 (.cells [.ptr h 0,.sc (.pointer none),.imm q2 [] 0,.sc (.int .i64 0),.sc (.slice none 0 0),.sc (.slice none 0 0),.sc (.slice none 0 0),.imm q7 [] 0,.imm q8 [] 0,.imm q9 [] 0,.sc (.slice none 0 0)] 56 11)) q7 = some .nilt := by rw [aP (fun e => m7 e.symm),aP d79]; exact o7
  have o8 : ((D3.set q9 .nilt).set b2 (.cells [.ptr h 0,.sc (.pointer none),.imm q2 [] 0,.sc (.int .i64 0),.sc (.slice none 0 0),.sc (.slice none 0 0),.sc (.slice none 0 0),.imm q7 [] 0,.imm q8 [] 0,.imm q9 [] 0,.sc (.slice none 0 0)] 56 11)) q8 = some .nilt := by rw [aP (fun e => m8 e.symm),aP d89]; exact o8
  have hD0 := hD4z
  rw [show (List.set ([.ptr h 0,.sc (.pointer none),.imm q2 [] 0,.sc (.int .i64 0),.sc (.slice none 0 0),.sc (.slice none 0 0),.sc (.slice none 0 0),.imm q7 [] 0,.imm q8 [] 0,.sc (.slice none 0 0),.sc (.slice none 0 0)] : List AV) 9 (.imm q9 [] 0)) = [.ptr h 0,.sc (.pointer none),.imm q2 [] 0,.sc (.int .i64 0),.sc (.slice none 0 0),.sc (.slice none 0 0),.sc (.slice none 0 0),.imm q7 [] 0,.imm q8 [] 0,.imm q9 [] 0,.sc (.slice none 0 0)] from rfl]
  generalize hE4 : (E3.set q9 .nilt).set b2 (.cells [.ptr h 0,.sc (.pointer none),.imm q2 [] 0,.sc (.int .i64 0),.sc (.slice none 0 0),.sc (.slice none 0 0),.sc (.slice none 0 0),.imm q7 [] 0,.imm q8 [] 0,.imm q9 [] 0,.sc (.slice none 0 0)] 56 11) = E4 at w4 s5 ⊢
  generalize hDD4 : (D3.set q9 .nilt).set b2 (.cells [.ptr h 0,.sc (.pointer none),.imm q2 [] 0,.sc (.int .i64 0),.sc (.slice none 0 0),.sc (.slice none 0 0),.sc (.slice none 0 0),.imm q7 [] 0,.imm q8 [] 0,.imm q9 [] 0,.sc (.slice none 0 0)] 56 11) = D4 at *
  clear hn w0 w1 w2 w3 s1 s2 s3 s4 hE0 hDD hDD1 hDD2 hDD3 hDD4 hE1 hE2 hE3 hE4
  refine br (c := ⟨Tryz.prog,124,[(7,[0,1,2,0,0,2,0,0]),(13,[0,0,0,0,0,0,0,0,0,0,0,0,0,0,1,0,2,0,0,0,0,0,0,0,0,0,2,0,0,0,0,0]),(15,[0,1,0,0,2,0,0,0,0,2,0,2,0,2]),(20,[1,0,0,0,2,0]),(4000020,[0,1]),(4000019,[0,2]),(4000018,[0,2]),(4000016,[0,2,17]),(4000015,[0,2,3,9,10,17]),(4000013,[0,2,3,7,8,9,10,17,82]),(4000011,[0,2,3,4,5,6,7,8,9,10,17]),(4000010,[0,2,3,4,5,6,7,8,9,17]),(4000009,[0,2,3,4,5,6,7,8,17]),(4000008,[0,2,3,4,5,6,7,17]),(4000007,[0,2,3,4,5,17])],[],[(7,(.op 0 0 (.op 3 0 (.op 1 4 (.or (.op 2 2 (.op 4 3 (.op 5 2 (.op 6 0 (.op 7 0 .nil))))) (.op 4 3 (.op 2 2 (.op 5 2 (.op 6 0 (.op 7 0 .nil)))))))))),(13,(.op 0 0 (.op 1 0 (.op 2 0 (.op 3 0 (.op 4 0 (.op 5 0 (.op 6 0 (.op 7 0 (.op 8 0 (.op 9 0 (.op 10 0 (.op 11 0 (.op 12 0 (.op 13 0 (.op 15 0 (.op 18 0 (.op 19 0 (.op 14 4 (.op 16 2 (.op 17 0 (.op 20 0 (.op 21 0 (.op 22 0 (.op 23 0 (.op 25 0 (.op 28 0 (.op 29 0 (.op 24 3 (.op 26 2 (.op 27 0 (.op 30 0 (.op 31 0 .nil))))))))))))))))))))))))))))))))),(15,(.op 0 0 (.op 2 0 (.op 3 0 (.op 5 0 (.op 7 0 (.op 8 0 (.op 1 4 (.op 6 4 (.op 4 3 (.op 10 0 (.op 9 3 (.op 11 2 (.op 12 0 (.op 13 2 .nil))))))))))))))),(20,(.op 1 0 (.op 0 4 (.or (.op 2 3 (.op 3 0 (.op 4 2 (.op 5 0 .nil)))) (.op 4 2 (.op 2 3 (.op 3 0 (.op 5 0 .nil))))))))]⟩) Tryz.mixed (by kernel_rfl) (fun mm σ E => ∃ (i : Nat) (D : AH) (qv qS qG qM : Nat) (oS oG oM : AObj),i + mm = 5 ∧ SS D E h m (2 * i) (fQ i).ts ∧ Abs.Sub H D ∧ D b0 = some (.cells zBoth 56 11) ∧ D b2 = some (.cells (begC h qv qS qG qM i (fQ i)) 56 11) ∧ D qS = some oS ∧ D qG = some oG ∧ D qM = some oM ∧ qS ≠ 0 ∧ qG ≠ 0 ∧ qM ≠ 0 ∧ ¬ qS = qG ∧ ¬ qS = qM ∧ ¬ qG = qM ∧
    cy 22 1 oS i ∧ cy 22 1 oG i ∧ cy 30 3 oM (i * 3) ∧ H qS = none ∧ H qG = none ∧ H qM = none ∧ σ 0 = .ptr b0 0 ∧ σ 2 = .ptr b2 0 ∧ σ 17 = .sc (.int .i64 (i : Nat))) 5 ?_ ?_
  · refine ⟨0,D4,q2,q7,q8,q9,.nilt,.nilt,.nilt,by omega,s5,hDs4,hD0,hD2,o7,o8,o9,hq70,hq80,hq90,d78,d79,d89,.inr ⟨rfl,rfl⟩,.inr ⟨rfl,rfl⟩,.inr ⟨rfl,rfl⟩,g7H,g8H,g9H,?_⟩
    simp (disch := omega) only [↓aI,↓zP,aD,zD,aS,simprocAttr,Tryz.facts,zA]
  · rintro mm σ E ⟨i,D,qv,qS,qG,qM,oS,oG,oM,him,sD,hDs,hD0,hD2,eS,eG,eM,nS,nG,nM,nSG,nSM,nGM,tS,tG,tM,fS,fG,fM,s0,s2,s17⟩
    have w2 := sD.sub _ _ hD2
    by_cases hlt : i < 5
    · obtain ⟨hl1,hl2,hl3⟩ := begM_len i
      have gt := begM_gt i
      have hb : fQ (i + 1) = begN (fQ i) i := rfl
      have hd1 := fun (G E : AH) (s : SS G E h m (2 * i) (fQ i).ts) => ja (by omega) (gt.mono (by omega)) s
      have hw : ∀ k,wfT (fJ k) := fun k => wf1 (by decide) (by rw [fe]; omega)
      have g1 := gt.num (hw (2 * i)) fun e => absurd (show (115 : UInt8) = 112 from e) (by decide)
      have hv1 := kT (fQ i).ts (2 * i) (by omega) gt.ok (by have := gt.len; omega)
      have lx : (fP (fQ i).ts (fJ (2 * i))).length = 32 := gW _ _
      unfold begN at hb
      simp only [] at hb
      rw [show fW ⟨115,[fh 8 (2 * i + 1)]⟩ (fC (fQ i).ts ⟨115,[fh 8 (2 * i + 1)]⟩).2 = fP (fQ i).ts (fJ (2 * i)) from rfl] at hv1
      change ∀ G E,_ → ACalls _ _ _ _ fun v H' => v = eu (fP (fQ i).ts (fJ (2 * i))) ∧ SS G H' h m (2 * i + 1) (fC (fQ i).ts (fJ (2 * i))).1 at hd1
      generalize fP (fQ i).ts (fJ (2 * i)) = x at *
      generalize (fC (fQ i).ts (fJ (2 * i))).1 = ts1 at *
      have hd2 := fun (G E : AH) (s : SS G E h m (2 * i + 1) ts1) => ja (by omega) (g1.mono (by omega)) s
      have g2 := g1.num (hw (2 * i + 1)) fun e => absurd (show (115 : UInt8) = 112 from e) (by decide)
      have hv2 := kT ts1 (2 * i + 1) (by omega) g1.ok (by have := g1.len; omega)
      have ly : (fP ts1 (fJ (2 * i + 1))).length = 32 := gW _ _
      rw [show fW ⟨115,[fh 8 (2 * i + 1 + 1)]⟩ (fC ts1 ⟨115,[fh 8 (2 * i + 1 + 1)]⟩).2 = fP ts1 (fJ (2 * i + 1)) from rfl] at hv2
      change ∀ G E,_ → ACalls _ _ _ _ fun v H' => v = eu (fP ts1 (fJ (2 * i + 1))) ∧ SS G H' h m (2 * i + 1 + 1) (fC ts1 (fJ (2 * i + 1))).1 at hd2
      generalize fP ts1 (fJ (2 * i + 1)) = y at *
      generalize (fC ts1 (fJ (2 * i + 1))).1 = ts2 at *
      have hp1 := fun (G E : AH) (s : SS G E h m (2 * i + 1 + 1) ts2) => pub_live (N := 4 * i + 1 + 1) (by omega) g2 lx s
      have g3 := g2.num (wf1 (k := 112) (a := x) (by decide) (by omega)) fun _ => by simp [fv]; omega
      have hvp := vpublic_pure ts2 (2 * i + 1 + 1) x (wf1 (k := 112) (a := x) (by decide) (by omega)).1 g2.ok (by have := g2.len; omega)
      rw [show fW ⟨112,[x]⟩ (fC ts2 ⟨112,[x]⟩).2 = fP ts2 ⟨112,[x]⟩ from rfl] at hvp
      generalize fP ts2 ⟨112,[x]⟩ = p at *
      generalize (fC ts2 ⟨112,[x]⟩).1 = ts3 at *
      have hs1 := fun (G E : AH) (s : SS G E h m (2 * i + 1 + 1) ts3) => sig_live (N := 4 * i + 1 + 1 + 1) (by omega) g3 ly s
      have g4 := g3.num (wf1 (k := 118) (a := y) (by decide) (by omega)) fun e => absurd (show (118 : UInt8) = 112 from e) (by decide)
      have hvs := vsigner_pure ts3 (2 * i + 1 + 1) y (wf1 (k := 118) (a := y) (by decide) (by omega)).1 g3.ok (by have := g3.len; omega)
      rw [show fW ⟨118,[y]⟩ (fC ts3 ⟨118,[y]⟩).2 = fP ts3 ⟨118,[y]⟩ from rfl] at hvs
      generalize fP ts3 ⟨118,[y]⟩ = sg at *
      generalize (fC ts3 ⟨118,[y]⟩).1 = ts4 at *
      rw [if_pos lx] at hvp
      rw [if_pos ly] at hvs
      have hC : begC h qv qS qG qM i (fQ i) = [.ptr h 0,.sc (.pointer none),.imm qv (dC (fQ i).ts) (fQ i).ts.length,.sc (.int .i64 ((2 * i : Nat) : Int)),.sc (.slice none 0 0),.sc (.slice none 0 0),.sc (.slice none 0 0),.imm qS ((fQ i).S.map eu) (fQ i).S.length,.imm qG ((fQ i).G.map eu) (fQ i).G.length,.imm qM ((fQ i).M.flatMap fL) (fQ i).M.length,.sc (.slice none 0 0)] := rfl
      simp (disch := omega) only [↓aI,↓zP,aD,zD,aS,simprocAttr,Tryz.facts,zA,s0,s2,s17,w2]
      refine eI (fun σ F => SS D F h m (2 * i + 1 + 1) ts2 ∧ σ 4 = eu x ∧ σ 5 = eu y ∧ σ 0 = .ptr b0 0 ∧ σ 2 = .ptr b2 0 ∧ σ 3 = .sc (.int .i64 (i : Nat)) ∧ σ 17 = .sc (.int .i64 (i : Nat))) ?_ ?_
      · simp (disch := omega) only [↓aI,↓zP,aD,zD,aS,simprocAttr,Tryz.facts,zA,s0,s2,s17,w2]
        refine And.intro ?_ ?_
        all_goals
          try simp (disch := omega) only [↓aI,↓zP,aD,zD,aS,simprocAttr,Tryz.facts,zA,s0,s2,s17,w2]
          refine CallK.i (hd1 _ _ sD) ?_
          rintro v E1 ⟨rfl,sD1⟩
          have w3 := sD1.sub _ _ hD2
          try simp (disch := omega) only [↓aI,↓zP,aD,zD,aS,simprocAttr,Tryz.facts,zA,s0,s2,s17,w2,w3]
          refine CallK.i (hd2 _ _ sD1) ?_
          rintro v E2 ⟨rfl,sD2⟩
          try simp (disch := omega) only [↓aI,↓zP,aD,zD,aS,simprocAttr,Tryz.facts,zA,s0,s2,s17,w2,w3]
          exact sD2
      · rintro σ F ⟨sF,s4,s5,s0,s2,s3,s17⟩
        have w2 := sF.sub _ _ hD2
        simp (disch := omega) only [↓aI,↓zP,aD,zD,aS,simprocAttr,Tryz.facts,zA,s0,s2,s3,s4,s5,s17,w2]
        first | refine CallK.p (hv1) ?_ | refine CallP.i (hv1) ?_
        simp (disch := omega) only [↓aI,↓zP,aD,zD,aS,simprocAttr,Tryz.facts,zA,s0,s2,s3,s4,s5,s17,w2]
        intro b6 hb60 hb6
        have n26 := bA w2 hb6
        have n62 : ¬ b6 = b2 := fun e => n26 e.symm
        have f6 := sF.sub.free hb6
        have n06 := bA hD0 f6
        try simp (disch := omega) only [↓aI,↓zP,aD,zD,aS,simprocAttr,Tryz.facts,zA,s0,s2,s3,s4,s5,s17,w2,ah,ey]
        first | refine CallK.p (hv2) ?_ | refine CallP.i (hv2) ?_
        simp (disch := omega) only [↓aI,↓zP,aD,zD,aS,simprocAttr,Tryz.facts,zA,s0,s2,s3,s4,s5,s17,w2,ah,ey]
        first | refine CallK.p (hvp) ?_ | refine CallP.i (hvp) ?_
        simp (disch := omega) only [↓aI,↓zP,aD,zD,aS,simprocAttr,Tryz.facts,zA,s0,s2,s3,s4,s5,s17,w2,ah,ey]
        first | refine CallK.p (hvs) ?_ | refine CallP.i (hvs) ?_
        simp (disch := omega) only [↓aI,↓zP,aD,zD,aS,simprocAttr,Tryz.facts,zA,s0,s2,s3,s4,s5,s17,w2,ah,ey,aP,n26,n62]
        have hS2 : 2 * i + 1 + 1 = 2 * (i + 1) := by omega
        have s6 := (sF.box (o := jD ts4 (2 * i + 1 + 1)) hb6).put (b := b2) (o' := .cells [.ptr h 0,.sc (.pointer none),.imm 0 (dC ts4) ts4.length,.sc (.int .i64 ((2 * i + 1 + 1 : Nat) : Int)),.sc (.slice none 0 0),.sc (.slice none 0 0),.sc (.slice none 0 0),.imm qS ((fQ i).S.map eu) (fQ i).S.length,.imm qG ((fQ i).G.map eu) (fQ i).G.length,.imm qM ((fQ i).M.flatMap fL) (fQ i).M.length,.sc (.slice none 0 0)] 56 11) (by rw [aP n26]; exact hD2)
        generalize hF1 : (F.set b6 _).set b2 _ = F1 at s6 ⊢
        have w2 := s6.sub b2 _ set_get
        refine jk ?_
        simp (disch := omega) only [↓aI,↓zP,aD,zD,aS,simprocAttr,Tryz.facts,zA,s0,s2,s3,s4,s5,s17,w2]
        refine CallK.i (hp1 _ _ s6) ?_
        rintro v E1 ⟨rfl,s7⟩
        have w2 := s7.sub b2 _ set_get
        try simp (disch := omega) only [↓aI,↓zP,aD,zD,aS,simprocAttr,Tryz.facts,zA,s0,s2,s3,s4,s5,s17,w2]
        refine CallK.i (hs1 _ _ s7) ?_
        rintro v E2 ⟨rfl,s8⟩
        have w2 := s8.sub b2 _ set_get
        try simp (disch := omega) only [↓aI,↓zP,aD,zD,aS,simprocAttr,Tryz.facts,zA,s0,s2,s3,s4,s5,s17,w2]
        have nb : ∀ {q : Nat} {o : AObj} {e : TypeId} {z mm : Nat},D q = some o → cy e z o mm → ¬ b2 = q := by
          rintro q o e z mm h1 h2 rfl
          rw [hD2] at h1
          cases h1
          rcases h2.cases3 with h | ⟨_,h⟩ | ⟨_,_,h⟩ <;> cases h
        have n2S := nb eS tS
        have n2G := nb eG tG
        have n2M := nb eM tM
        have hS : ((D.set b6 (jD ts4 (2 * i + 1 + 1))).set b2 (.cells [.ptr h 0,.sc (.pointer none),.imm 0 (dC ts4) ts4.length,.sc (.int .i64 ((2 * i + 1 + 1 : Nat) : Int)),.sc (.slice none 0 0),.sc (.slice none 0 0),.sc (.slice none 0 0),.imm qS ((fQ i).S.map eu) (fQ i).S.length,.imm qG ((fQ i).G.map eu) (fQ i).G.length,.imm qM ((fQ i).M.flatMap fL) (fQ i).M.length,.sc (.slice none 0 0)] 56 11)) qS = some oS := by rw [aP (fun e => n2S e.symm),aP (bA eS f6)]; exact eS
        have hG : ((D.set b6 (jD ts4 (2 * i + 1 + 1))).set b2 (.cells [.ptr h 0,.sc (.pointer none),.imm 0 (dC ts4) ts4.length,.sc (.int .i64 ((2 * i + 1 + 1 : Nat) : Int)),.sc (.slice none 0 0),.sc (.slice none 0 0),.sc (.slice none 0 0),.imm qS ((fQ i).S.map eu) (fQ i).S.length,.imm qG ((fQ i).G.map eu) (fQ i).G.length,.imm qM ((fQ i).M.flatMap fL) (fQ i).M.length,.sc (.slice none 0 0)] 56 11)) qG = some oG := by rw [aP (fun e => n2G e.symm),aP (bA eG f6)]; exact eG
        have hM : ((D.set b6 (jD ts4 (2 * i + 1 + 1))).set b2 (.cells [.ptr h 0,.sc (.pointer none),.imm 0 (dC ts4) ts4.length,.sc (.int .i64 ((2 * i + 1 + 1 : Nat) : Int)),.sc (.slice none 0 0),.sc (.slice none 0 0),.sc (.slice none 0 0),.imm qS ((fQ i).S.map eu) (fQ i).S.length,.imm qG ((fQ i).G.map eu) (fQ i).G.length,.imm qM ((fQ i).M.flatMap fL) (fQ i).M.length,.sc (.slice none 0 0)] 56 11)) qM = some oM := by rw [aP (fun e => n2M e.symm),aP (bA eM f6)]; exact eM
        have h0' : ((D.set b6 (jD ts4 (2 * i + 1 + 1))).set b2 (.cells [.ptr h 0,.sc (.pointer none),.imm 0 (dC ts4) ts4.length,.sc (.int .i64 ((2 * i + 1 + 1 : Nat) : Int)),.sc (.slice none 0 0),.sc (.slice none 0 0),.sc (.slice none 0 0),.imm qS ((fQ i).S.map eu) (fQ i).S.length,.imm qG ((fQ i).G.map eu) (fQ i).G.length,.imm qM ((fQ i).M.flatMap fL) (fQ i).M.length,.sc (.slice none 0 0)] 56 11)) b0 = some (.cells zBoth 56 11) := by rw [aP n02,aP n06]; exact hD0
        have hs6 := (hDs.set_free (o := jD ts4 (2 * i + 1 + 1)) (hDs.free f6)).set_free (o := .cells [.ptr h 0,.sc (.pointer none),.imm 0 (dC ts4) ts4.length,.sc (.int .i64 ((2 * i + 1 + 1 : Nat) : Int)),.sc (.slice none 0 0),.sc (.slice none 0 0),.sc (.slice none 0 0),.imm qS ((fQ i).S.map eu) (fQ i).S.length,.imm qG ((fQ i).G.map eu) (fQ i).G.length,.imm qM ((fQ i).M.flatMap fL) (fQ i).M.length,.sc (.slice none 0 0)] 56 11) f2H
        clear s6 s7
        generalize hD6 : (D.set b6 _).set b2 _ = D6 at *
        have hD62 : D6 b2 = some (.cells [.ptr h 0,.sc (.pointer none),.imm 0 (dC ts4) ts4.length,.sc (.int .i64 ((2 * i + 1 + 1 : Nat) : Int)),.sc (.slice none 0 0),.sc (.slice none 0 0),.sc (.slice none 0 0),.imm qS ((fQ i).S.map eu) (fQ i).S.length,.imm qG ((fQ i).G.map eu) (fQ i).G.length,.imm qM ((fQ i).M.flatMap fL) (fQ i).M.length,.sc (.slice none 0 0)] 56 11) := by rw [← hD6]; exact set_get
        have wS := s8.sub _ _ hS
        have wG := s8.sub _ _ hG
        have wM := s8.sub _ _ hM
        have c1 : ((fQ i).S.map eu).length = (fQ i).S.length := List.length_map _
        have c2 : ((fQ i).G.map eu).length = (fQ i).G.length := List.length_map _
        have c3 : ((fQ i).M.flatMap fL).length = (fQ i).M.length * 3 := fF fU _
        refine jk ?_
        simp (disch := omega) only [↓aI,↓zP,aD,zD,aS,simprocAttr,Tryz.facts,zA,s0,s2,s3,s4,s5,s17,w2,wS,wG,c1,c2,tS,tG,hl1,hl2]
        intro k1 o1 hk10 hk1 ho1
        have n2k1 := bA w2 hk1
        have nGk1 := bA wG hk1
        have nMk1 := bA wM hk1
        have nGS : ¬ qG = qS := fun e => nSG e.symm
        have nMS : ¬ qM = qS := fun e => nSM e.symm
        have nMG : ¬ qM = qG := fun e => nGM e.symm
        have w2a := ((aP (H := E2.kill qS) (o := o1) n2k1).trans (bZ n2S)).trans w2
        have wGa := ((aP (H := E2.kill qS) (o := o1) nGk1).trans (bZ nGS)).trans wG
        have wMa := ((aP (H := E2.kill qS) (o := o1) nMk1).trans (bZ nMS)).trans wM
        try simp (disch := omega) only [↓aI,↓zP,aD,zD,aS,simprocAttr,Tryz.facts,zA,s0,s2,s3,s4,s5,s17,w2a,wGa,c1,c2,tS,tG,hl1,hl2]
        intro k2 o2 hk20 hk2 ho2
        have n2k2 := bA w2a hk2
        have nMk2 := bA wMa hk2
        have w2b := ((aP (H := ((E2.kill qS).set k1 o1).kill qG) (o := o2) n2k2).trans (bZ n2G)).trans w2a
        have wMb := ((aP (H := ((E2.kill qS).set k1 o1).kill qG) (o := o2) nMk2).trans (bZ nMG)).trans wMa
        have nM2 : ¬ qM = b2 := fun e => n2M e.symm
        try simp (disch := omega) only [↓aI,↓zP,aD,zD,aS,simprocAttr,Tryz.facts,zA,s0,s2,s3,s4,s5,s17,w2b,wMb,c1,c2,c3,hl1,hl2,hl3,tM,aP,nM2,ah,ey]
        intro k3 o3 hk30 hk3 ho3
        have n2k3 : ¬ b2 = k3 := fun e => by rw [← e] at hk3; rw [set_get] at hk3; cases hk3
        try simp (disch := omega) only [↓aI,↓zP,aD,zD,aS,simprocAttr,Tryz.facts,zA,s0,s2,s3,s4,s5,s17,aP,n2k3,bZ,n2M,ah,ey]
        have nb0 : ∀ {q : Nat} {o : AObj} {e : TypeId} {z mm : Nat},D q = some o → cy e z o mm → ¬ b0 = q := by
          rintro q o e z mm h1 h2 rfl
          rw [hD0] at h1
          cases h1
          rcases h2.cases3 with h | ⟨_,h⟩ | ⟨_,_,h⟩ <;> cases h
        obtain ⟨D',r1,r2,r3,r4,r5,r6,r7,r8,r9,r10,r11,r12,r13⟩ := three_tok (o3 := o3) (C2 := .cells [.ptr h 0,.sc (.pointer none),.imm 0 (dC ts4) ts4.length,.sc (.int .i64 ((2 * i + 1 + 1 : Nat) : Int)),.sc (.slice none 0 0),.sc (.slice none 0 0),.sc (.slice none 0 0),.imm k1 ((fQ i).S.map eu ++ [eu x]) (i + 1),.imm k2 ((fQ i).G.map eu ++ [eu y]) (i + 1),.imm k3 ((fQ i).M.flatMap fL ++ [.sc (.int .i64 (i : Nat)),eu p,eu sg]) (i + 1),.sc (.slice none 0 0)] 56 11) s8 hs6 f2H h0' hD62 hS hG hM nGS nMS nMG n2S n2G n2M (nb0 eS tS) (nb0 eG tG) (nb0 eM tM) n02 fS fG fM hk1 hk2 hk3
        refine ⟨mm - 1,by omega,i + 1,D',0,k1,k2,k3,o1,o2,o3,by omega,?_,r2,r3,?_,r5,r6,r7,hk10,hk20,hk30,r8,r9,r10,?_,?_,?_,r11,r12,r13,?_⟩
        · rw [hb]
          exact r1
        · rw [r4,hb]
          simp [fL,hl1,hl2,hl3,Nat.mul_add]
          try omega
        · simpa [hl1] using ho1
        · simpa [hl2] using ho2
        · simpa [hl3,Nat.add_mul] using ho3
        · rfl
    · obtain rfl : i = 5 := by omega
      obtain ⟨hl1,hl2,hl3⟩ := begM_len 5
      have h32 := begM_32 5
      have hM2 : ((fQ 5).M.flatMap fL)[2]? = some (eu ((fQ 5).M.getD 0 noM).sgn) := by
        rw [mem_getD (by omega)]
        have := gu fU (l := (fQ 5).M) (i := 0) (j := 2) (by omega) (by decide)
        rw [Nat.zero_mul,Nat.zero_add] at this
        rw [this]; rfl
      have hMc : ((fQ 5).M.flatMap fL).length = (fQ 5).M.length * 3 := fF fU _
      have had : ((fQ 5).M.getD 0 noM).sgn.length = 32 := by
        rw [mem_getD (by omega)]
        exact (h32.2.2 _ (List.getElem_mem _)).2
      generalize ((fQ 5).M.getD 0 noM).sgn = ad at *
      generalize fQ 5 = bb at *
      have hnew := fun G => new_live21 G ad (by omega)
      simp (disch := omega) only [↓aI,↓zP,aD,zD,aS,simprocAttr,Tryz.facts,zA,s0,s2,s17,w2,hl3,hMc,hM2]
      refine CallK.i (hnew _) ?_
      rintro v E2 ⟨r,k,kd,rfl,hr0,hk0,hkd0,hf,hv,hsub⟩
      have sE := sD.up hsub
      have w2 := sE.sub _ _ hD2
      try simp (disch := omega) only [↓aI,↓zP,aD,zD,aS,simprocAttr,Tryz.facts,zA,s0,s2,s17,w2,hl3,hMc,hM2,ah,ey]
      have w0 := sE.sub _ _ hD0
      have fH : H r = none := hDs.free (sD.sub.free hf)
      have f1 : FS H E2 r (lgP ad ⟨[],[]⟩ k kd) [(b0,jm zBoth),(b2,jm (begC h qv qS qG qM 5 bb))] h m 10 bb.ts := by
        refine ⟨D.set r (lgP ad ⟨[],[]⟩ k kd),⟨set_get,?_,?_,?_⟩,?_⟩
        · intro p hp
          have n0r := bA hD0 (sD.sub.free hf)
          have n2r := bA hD2 (sD.sub.free hf)
          rcases List.mem_cons.1 hp with rfl | hp
          · exact ⟨(aP n0r).trans hD0,n0r,hb0⟩
          · rw [List.mem_singleton.1 hp]
            exact ⟨(aP n2r).trans hD2,n2r,f2H⟩
        · simpa using n02
        · intro x o hx hne
          rw [aP hne]
          exact hDs x o hx
        · refine (sD.box hf).up fun y o' hy => ?_
          by_cases e : y = r
          · subst e
            rw [set_get] at hy
            cases hy
            exact hv
          · rw [aP e] at hy
            exact hsub _ _ hy
      have f2 := (f1.put 1 (jm [.ptr h 0,.ptr r 0,.imm qv (dC bb.ts) bb.ts.length,.sc (.int .i64 (10 : Nat)),eu ad,kI,kI,.imm qS (bb.S.map eu) bb.S.length,.imm qG (bb.G.map eu) bb.G.length,.imm qM (bb.M.flatMap fL) bb.M.length,kI]) rfl).put 0 (jm [.ptr h 0,.ptr r 0,.imm qv (dC bb.ts) bb.ts.length,.sc (.int .i64 (10 : Nat)),eu ad,kI,kI,.imm qS (bb.S.map eu) bb.S.length,.imm qG (bb.G.map eu) bb.G.length,.imm qM (bb.M.flatMap fL) bb.M.length,kI]) rfl
      refine eI (fun σ F => F = (E2.set b2 (.cells [.ptr h 0,.ptr r 0,.imm qv (dC bb.ts) bb.ts.length,.sc (.int .i64 (10 : Nat)),eu ad,kI,kI,.imm qS (bb.S.map eu) bb.S.length,.imm qG (bb.G.map eu) bb.G.length,.imm qM (bb.M.flatMap fL) bb.M.length,kI] 56 11)).set b0 (.cells [.ptr h 0,.ptr r 0,.imm qv (dC bb.ts) bb.ts.length,.sc (.int .i64 (10 : Nat)),eu ad,kI,kI,.imm qS (bb.S.map eu) bb.S.length,.imm qG (bb.G.map eu) bb.G.length,.imm qM (bb.M.flatMap fL) bb.M.length,kI] 56 11) ∧ σ 0 = .ptr b0 0 ∧ σ 1 = .sc (.bool true)) ?_ ?_
      · simp (disch := omega) only [↓aI,↓zP,aD,zD,aS,simprocAttr,Tryz.facts,zA,s0,s2,s17,w2,w0,hl3,hMc,hM2,ah,ey,aP,n02]
      · rintro σ F ⟨rfl,s0,s1⟩
        simp (disch := omega) only [↓aI,↓zP,aD,zD,aS,simprocAttr,Tryz.facts,zA,s0,s1]
        refine ⟨_,rfl,_,Abs.Sub.refl _,h,m,r,k,kd,rfl,hr0,hk0,hkd0,fH,?_⟩
        exact f2.less
end Go.Proofs.YtjlnpngaiphnmaaGreat
end
section
set_option linter.unusedSimpArgs false
set_option linter.unusedVariables false
set_option maxRecDepth 20000
set_option maxHeartbeats 16000000
namespace Go.Proofs.YtjlnpngaiphnmaaGreat
open Go Go.Abs Go.Proofs
def ad5 : List UInt8 := ((fQ 5).M.getD 0 noM).sgn
theorem ad5_len : ad5.length = 32 := by
  unfold ad5
  rw [mem_getD (by rw [beg_ok.ml]; omega)]
  exact (beg_ok.m32 _ (List.getElem_mem _)).2
theorem begun_B (H : AH) : ACalls Tryz.prog 47 [] H fun v H' => ∃ h m r k kd,v = .tup [.agg (iD h r begB.ts begB.d ad5 begB.g (fQ 5).S (fQ 5).G (fQ 5).M begB.made),.sc (.bool true)] ∧ r ≠ 0 ∧ k ≠ 0 ∧ kd ≠ 0 ∧ H r = none ∧ SS (H.set r (lgP ad5 begB.g k kd)) H' h m begB.d begB.ts := begun_live H
theorem do_load {l : List DoM} {i : Nat} (h : i < l.length) : List.take 8 (List.drop (i * 8) (l.flatMap doC)) = [.sc (.int .u8 l[i].who.toNat),.sc (.bool l[i].strange),.sc (.bool l[i].auto),fY l[i].ends,.sc (.int .u8 l[i].by_.toNat),.sc (.bool l[i].take),.sc (.int .i64 l[i].at_),.sc (.int .u8 l[i].change.toNat)] := jZ doC_len h
abbrev j9 (l : List DoM) : BM := jS (fQ 5) ad5 begB l
theorem FS.begin {H E : AH} {r h m d b2 : Nat} {L Z : AObj} {ts : List Term} (s : SS ((H.set b2 Z).set r L) E h m d ts) (hb2 : H b2 = none) (hr : (H.set b2 Z) r = none) : FS H E r L [(b2,Z)] h m d ts := by
  have n2 := bK hr
  refine ⟨_,⟨set_get,?_,by simp,?_⟩,s⟩
  · intro p hp
    rw [List.mem_singleton.1 hp]
    exact ⟨(aP n2).trans set_get,n2,hb2⟩
  · intro x o hx hne
    rw [aP hne,aP (fun e => by rw [e,hb2] at hx; cases hx)]
    exact hx
theorem played_live (H : AH) (l : List DoM) (hl : l.length ≤ 100) (he : ∀ t ∈ l,t.ends.length ≤ 100000) : ACalls Tryz.prog 17 [dosV l] H fun v H' => ∃ h m r k kd,v = .tup [.agg (iD h r (j9 l).ts (j9 l).d ad5 (j9 l).g (fQ 5).S (fQ 5).G (fQ 5).M (j9 l).made),.sc (.bool true)] ∧ r ≠ 0 ∧ k ≠ 0 ∧ kd ≠ 0 ∧ H r = none ∧ SS (H.set r (lgP ad5 (j9 l).g k kd)) H' h m (j9 l).d (j9 l).ts := by
  have hbg := fun G => begun_B G
  have hc := beg_ok
  have h0 := begB_ok
  have had := ad5_len
  have hlc : (l.flatMap doC).length = l.length * 8 := fF doC_len l
  have hld := fun i (h : i < l.length) => do_load h
  unfold j9
  generalize ad5 = ad at *
  generalize fQ 5 = c at *
  generalize begB = B at *
  have hB0 : jS c ad B (l.take 0) = B := by rw [List.take_zero]; rfl
  have hBn : jS c ad B (l.take l.length) = jS c ad B l := by rw [List.take_length]
  have hBs : ∀ i (h : i < l.length),jS c ad B (l.take (i + 1)) = i8 c ad (jS c ad B (l.take i)) l[i] := fun i h => by rw [take_snoc h,playM_snoc]
  have hok : ∀ i,i ≤ l.length → OkB i (jS c ad B (l.take i)) := fun i h => by
    have hx : (l.take i).length = i := by rw [List.length_take]; omega
    have := play_ok (c := c) (ad := ad) (l.take i) h0 (by omega)
    rw [hx,Nat.zero_add] at this
    exact this
  rw [← hBn]
  generalize hP : (fun i => jS c ad B (l.take i)) = P at *
  have hP' : ∀ i,jS c ad B (l.take i) = P i := fun i => by rw [← hP]
  simp only [hP'] at *
  clear hP hP' hBn h0
  rw [← hB0] at hbg
  refine ao (c := ⟨Tryz.prog,30,[(1000004,[7])],[],[]⟩) (rs := [ResultVar.cell 2 56,ResultVar.tmp 3]) Tryz.mixed Tryz.func17 rfl rfl rfl (Nat.le_of_ble_eq_true rfl) (by kernel_rfl) ?_
  simp (disch := omega) only [↓aI,↓zP,aD,zD,aS,simprocAttr,Tryz.facts,zA]
  intro b2 hb20 hb2
  try simp (disch := omega) only [↓aI,↓zP,aD,zD,aS,simprocAttr,Tryz.facts,zA]
  refine CallK.i (hbg _) ?_
  rintro v E ⟨h,m,r,k,kd,rfl,hr0,hk,hkd,hr,s⟩
  have f0 := FS.begin s hb2 hr
  try simp (disch := omega) only [↓aI,↓zP,aD,zD,aS,simprocAttr,Tryz.facts,zA]
  intro b4 hb40 hb4
  have f := f0.box (jm (iD h r (P 0).ts (P 0).d ad (P 0).g c.S c.G c.M (P 0).made)) hb4
  try simp (disch := omega) only [↓aI,↓zP,aD,zD,aS,simprocAttr,Tryz.facts,zA,ah,ey]
  generalize hE : E.set b4 _ = E1 at *
  refine br (c := ⟨Tryz.prog,30,[(1000004,[7])],[],[]⟩) Tryz.mixed (by kernel_rfl) (fun mm σ E => ∃ (i k kd : Nat),i + mm = l.length ∧ k ≠ 0 ∧ kd ≠ 0 ∧ FS H E r (lgP ad (P i).g k kd) [(b2,zObjB),(b4,jm (iD h r (P i).ts (P i).d ad (P i).g c.S c.G c.M (P i).made))] h m (P i).d (P i).ts ∧
    σ 2 = .ptr b2 0 ∧ σ 4 = .ptr b4 0 ∧ σ 5 = .sc (.bool true) ∧ σ 12 = dosV l ∧ σ 13 = .sc (.int .i64 (l.length : Nat)) ∧ σ 14 = .sc (.int .i64 (i : Nat))) l.length ?_ ?_
  · refine ⟨0,k,kd,by omega,hk,hkd,f,?_⟩
    simp (disch := omega) only [↓aI,↓zP,aD,zD,aS,simprocAttr,Tryz.facts,zA]
    try rfl
  · clear f f0 hE s
    rintro mm σ E ⟨i,k,kd,him,hk,hkd,f,s2,s4,s5,s12,s13,s14⟩
    have v2 := f.at 0 rfl
    have v4 := f.at 1 rfl
    have n24 := f.ne 0 1 rfl rfl (by decide)
    by_cases hlt : i < l.length
    · have hld := hld i hlt
      have hcx : i * 8 + 8 ≤ l.length * 8 := by omega
      have ht := he _ (List.getElem_mem hlt)
      have hD := fun (E : AH) (bs : List (Nat × AObj)) (f : FS H E r (lgP ad (P i).g k kd) bs h m (P i).d (P i).ts) => f.does hc (hok i (by omega)) (by omega) l[i] ht hr0 hk hkd had
      rw [← hBs i hlt] at hD
      unfold doC at hD
      have f1 := fun k' kd' (F : AH) (g : FS H F r (lgP ad (P (i + 1)).g k' kd') [(b2,zObjB),(b4,jm (iD h r (P i).ts (P i).d ad (P i).g c.S c.G c.M (P i).made))] h m (P (i + 1)).d (P (i + 1)).ts) => g.put 1 (jm (iD h r (P (i + 1)).ts (P (i + 1)).d ad (P (i + 1)).g c.S c.G c.M (P (i + 1)).made)) rfl
      generalize l[i] = t at *
      generalize hQ : P (i + 1) = Q at *
      generalize P i = Pi at *
      obtain ⟨who,strange,auto,ends,by_,take,at_,change⟩ := t
      simp only [] at *
      simp (disch := omega) only [↓aI,↓zP,aD,zD,aS,simprocAttr,Tryz.facts,zA,s2,s4,s5,s12,s13,s14,hlc,hld,hcx,v2,v4]
      intro b7 hb70 hb7
      have n47 := bA v4 hb7
      try simp (disch := omega) only [↓aI,↓zP,aD,zD,aS,simprocAttr,Tryz.facts,zA,s2,s4,s5,s12,s13,s14,v4,aP,n47,aj hb7,ah]
      refine CallK.i (hD _ _ f) ?_
      rintro v E2 ⟨rfl,k',kd',hk',hkd',g⟩
      have v4 := g.at 1 rfl
      try simp (disch := omega) only [↓aI,↓zP,aD,zD,aS,simprocAttr,Tryz.facts,zA,s2,s4,s5,s12,s13,s14,v4,ah]
      refine ⟨mm - 1,by omega,i + 1,k',kd',by omega,hk',hkd',?_,?_⟩
      · rw [hQ]
        exact f1 _ _ _ g
      · rfl
    · obtain rfl : i = l.length := by omega
      have f2 := f.put 0 (jm (iD h r (P l.length).ts (P l.length).d ad (P l.length).g c.S c.G c.M (P l.length).made)) rfl
      generalize P l.length = Q at *
      simp (disch := omega) only [↓aI,↓zP,aD,zD,aS,simprocAttr,Tryz.facts,zA,s2,s4,s5,s12,s13,s14,v2,v4,ah]
      exact ⟨_,rfl,_,Abs.Sub.refl _,h,m,r,k,kd,rfl,hr0,hk,hkd,am hr,f2.less⟩
end Go.Proofs.YtjlnpngaiphnmaaGreat
end
section
set_option linter.unusedSimpArgs false
set_option linter.unusedVariables false
set_option maxRecDepth 20000
set_option maxHeartbeats 16000000
namespace Go.Proofs.YtjlnpngaiphnmaaGreat
open Go Go.Abs Go.Proofs
theorem small_len {l : List DoM} (h : smallM l = true) : l.length ≤ 12 := by
  unfold smallM at h
  rw [Bool.and_eq_true] at h
  simpa using h.1
theorem small_ends {l : List DoM} (h : smallM l = true) : ∀ t ∈ l,t.ends.length ≤ 100 := by
  have hl := small_len h
  unfold smallM at h
  rw [Bool.and_eq_true] at h
  have h2 := h.2
  rw [List.take_of_length_le (by omega),decide_eq_true_eq] at h2
  clear h hl
  induction l with
  | nil => intro t ht; cases ht
  | cons x l ih =>
    rw [sumE] at h2
    intro t ht
    rcases List.mem_cons.1 ht with rfl | ht
    · omega
    · exact ih (by omega) t ht
abbrev awkD : DoM := ⟨3,false,true,[],2,true,0,0⟩
theorem awk_len : (j9 [awkD]).g.L.length = 1 := by decide +kernel
theorem awk_made : (j9 [awkD]).made.length = 1 := by decide +kernel
theorem awk_mems : (jN (j9 [awkD]).g 1).length = 2 := by decide +kernel
section
variable {H : AH} {ad : List UInt8} {g : LogM} {r k kd : Nat}
theorem dig_any (hg : OkG g) (hr0 : r ≠ 0) (hr : H r = some (lgP ad g k kd)) (n : Int) : ACalls Tryz.prog 25 [.ptr r 0,.sc (.int .i64 n)] H fun v H' => v = eu (iZ g.D n) ∧ H' = H := by
  have hlen := hg.len
  have hfew := hg.few
  by_cases h1 : 1 ≤ n ∧ n ≤ 100000
  · obtain ⟨i,rfl⟩ : ∃ i : Nat,n = (i : Int) := ⟨n.toNat,by omega⟩
    exact dig_live hg hr0 hr i (by omega)
  · have hz : iZ g.D n = [] := by unfold iZ; rw [if_pos (by omega)]
    rw [hz]
    have h2 := kL H r k (eu ad) (.imm kd (g.D.map eu) g.D.length) (g.L.map iF) hr0 (by rw [← lgP_B]; exact hr)
    rw [List.length_map] at h2
    by_cases h3 : n < 1
    · refine ao (c := ⟨Tryz.prog,23,[],[13],[]⟩) (rs := [ResultVar.tmp 4]) Tryz.mixed Tryz.func25 rfl rfl rfl (Nat.le_of_ble_eq_true rfl) (by kernel_rfl) ?_
      simp (disch := omega) only [↓aI,↓zP,aD,zD,aS,simprocAttr,Tryz.facts,zA,hr]
      exact ⟨_,rfl,_,Abs.Sub.refl _,rfl,rfl⟩
    · refine ao (c := ⟨Tryz.prog,23,[],[13],[]⟩) (rs := [ResultVar.tmp 4]) Tryz.mixed Tryz.func25 rfl rfl rfl (Nat.le_of_ble_eq_true rfl) (by kernel_rfl) ?_
      simp (disch := omega) only [↓aI,↓zP,aD,zD,aS,simprocAttr,Tryz.facts,zA,hr]
      refine CallK.i h2 ?_
      rintro v E ⟨rfl,rfl⟩
      simp (disch := omega) only [↓aI,↓zP,aD,zD,aS,simprocAttr,Tryz.facts,zA,hr]
      exact ⟨_,rfl,_,Abs.Sub.refl _,rfl,rfl⟩
theorem last_any (hr0 : r ≠ 0) (hr : H r = some (lgP ad g k kd)) : ACalls Tryz.prog 24 [.ptr r 0] H fun v H' => v = .sc (.int .i64 (g.L.length : Nat)) ∧ H' = H := by
  have h2 := kL H r k (eu ad) (.imm kd (g.D.map eu) g.D.length) (g.L.map iF) hr0 (by rw [← lgP_B]; exact hr)
  rwa [List.length_map] at h2
end
theorem rawake_pure : APure Tryz.prog 5 [] (.sc (.bool true)) := by
  have hpl := fun G => played_live G [awkD] (by decide) (by intro t ht; rw [List.mem_singleton.1 ht]; decide)
  have hl := awk_len
  have hmd := awk_made
  have hmm := awk_mems
  have hok := play_ok (c := fQ 5) (ad := ad5) [awkD] begB_ok (by decide)
  change OkB _ (j9 [awkD]) at hok
  have hms : (jN (j9 [awkD]).g ((1 : Int))).length = 2 := hmm
  generalize j9 [awkD] = B at *
  generalize ad5 = ad at *
  generalize fQ 5 = c at *
  have hg := hok.g
  refine az (c := ⟨Tryz.prog,29,[(1000001,[1])],[],[]⟩) (rs := [ResultVar.tmp 0]) Tryz.mixed Tryz.func5 rfl rfl rfl (Nat.le_of_ble_eq_true rfl) (by kernel_rfl) fun H => ?_
  simp (disch := omega) only [↓aI,↓zP,aD,zD,aS,simprocAttr,Tryz.facts,zA]
  refine CallK.i (hpl _) ?_
  rintro v E ⟨h,m,r,k,kd,rfl,hr0,hk,hkd,hr,s⟩
  have hsb := (Sub.set_new (o := lgP ad B.g k kd) hr).trans s.sub
  have hv := s.sub r _ set_get
  have hla := last_any hr0 hv
  have hme := mems_live hg hr0 hv 1 (by decide) (by decide)
  rw [hl] at hla
  try simp (disch := omega) only [↓aI,↓zP,aD,zD,aS,simprocAttr,Tryz.facts,zA]
  intro b1 hb10 hb1
  try simp (disch := omega) only [↓aI,↓zP,aD,zD,aS,simprocAttr,Tryz.facts,zA,ah,aj hb1]
  refine CallK.i hla ?_
  rintro v E' ⟨rfl,rfl⟩
  try simp (disch := omega) only [↓aI,↓zP,aD,zD,aS,simprocAttr,Tryz.facts,zA,ah]
  refine CallK.i hme ?_
  rintro v E' ⟨rfl,rfl⟩
  try simp (disch := omega) only [↓aI,↓zP,aD,zD,aS,simprocAttr,Tryz.facts,zA,hmd,hms,ah]
  exact hsb
end Go.Proofs.YtjlnpngaiphnmaaGreat
end
