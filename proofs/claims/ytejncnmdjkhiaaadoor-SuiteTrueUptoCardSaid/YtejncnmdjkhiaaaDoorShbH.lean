/-
  The document's codes and derived keys.
  Conditions: none. Lemmas only.
-/
import Derived.Test.YtejncnmdjkhiaaaDoorShaG1
import Derived.Test.YtejncnmdjkhiaaaDoorShaY
import Derived.Test.YtejncnmdjkhiaaaDoorSuiG1
import Derived.Test.YtejncnmdjkhiaaaDoorAbsG6
set_option linter.all false
set_option linter.unusedSimpArgs false
set_option linter.unusedVariables false
set_option maxRecDepth 20000
set_option maxHeartbeats 4000000
namespace Go.Proofs.YtejncnmdjkhiaaaDoor
open Go Go.Abs Go.Proofs Go.Sha
theorem join_pure (a b : List UInt8) (ha : a.length ≤ 1000000000) (hb : b.length ≤ 1000000000) : APure Tryd.prog 20 [eu a,eu b] (eu (a ++ b)) := by
  have hea := gz a
  have heb := gz b
  unfold eu
  refine az (c := ⟨Tryd.prog,10,[],[5],[]⟩) (rs := [ResultVar.tmp 4]) Tryd.mixed Tryd.func20 rfl rfl rfl (Nat.le_of_ble_eq_true rfl) (by kernel_rfl) fun H => ?_
  simp (disch := omega) only [↓aI,↓zP,aD,zD,aS,Nat.reduceBEq,Nat.reduceLT,reduceCtorEq,↓reduceIte,Nat.reduceMul,Nat.reduceAdd,Nat.reduceLeDiff,Nat.reduceEqDiff,Int.reduceToNat,Nat.reduceSub,Nat.reduceMod,Nat.reduceDiv,Int.reducePow,Int.reduceLE,Int.reduceNeg,Int.reduceLT,Int.reduceBEq,Int.reduceBNe,Int.reduceEq,Tryd.facts]
  intro k hk0 hk
  simp (disch := omega) only [↓aI,↓zP,aD,zD,aS,Nat.reduceBEq,Nat.reduceLT,reduceCtorEq,↓reduceIte,Nat.reduceMul,Nat.reduceAdd,Nat.reduceLeDiff,Nat.reduceEqDiff,Int.reduceToNat,Nat.reduceSub,Nat.reduceMod,Nat.reduceDiv,Int.reducePow,Int.reduceLE,Int.reduceNeg,Int.reduceLT,Int.reduceBEq,Int.reduceBNe,Int.reduceEq,Tryd.facts,hk0,hea]
  intro k2 o2 hk20 hk2 ho2
  simp (disch := omega) only [↓aI,↓zP,aD,zD,aS,Nat.reduceBEq,Nat.reduceLT,reduceCtorEq,↓reduceIte,Nat.reduceMul,Nat.reduceAdd,Nat.reduceLeDiff,Nat.reduceEqDiff,Int.reduceToNat,Nat.reduceSub,Nat.reduceMod,Nat.reduceDiv,Int.reducePow,Int.reduceLE,Int.reduceNeg,Int.reduceLT,Int.reduceBEq,Int.reduceBNe,Int.reduceEq,Tryd.facts,hk20,ho2,hea,heb]
  intro k3 o3 hk30 hk3 ho3
  simp (disch := omega) only [↓aI,↓zP,aD,zD,aS,Nat.reduceBEq,Nat.reduceLT,reduceCtorEq,↓reduceIte,Nat.reduceMul,Nat.reduceAdd,Nat.reduceLeDiff,Nat.reduceEqDiff,Int.reduceToNat,Nat.reduceSub,Nat.reduceMod,Nat.reduceDiv,Int.reducePow,Int.reduceLE,Int.reduceNeg,Int.reduceLT,Int.reduceBEq,Int.reduceBNe,Int.reduceEq,Tryd.facts,List.length_append,encB_append]
  rw [ef (am hk2)]
  exact Sub.set_new (am hk3)
theorem dsum256_pure (b : List UInt8) (hb : b.length ≤ 100000000) : APure Tryd.prog 23 [eu b] (eu (shaM b)) := by
  have h1 := small_pure
  have h2 := dsum_pure b hb
  refine az (c := ⟨Tryd.prog,6,[],[],[]⟩) (rs := [ResultVar.tmp 2]) Tryd.mixed Tryd.func23 rfl rfl rfl (Nat.le_of_ble_eq_true rfl) (by kernel_rfl) fun H => ?_
  simp (disch := omega) only [↓aI,↓zP,aD,zD,aS,Nat.reduceBEq,Nat.reduceLT,reduceCtorEq,↓reduceIte,Nat.reduceMul,Nat.reduceAdd,Nat.reduceLeDiff,Nat.reduceEqDiff,Int.reduceToNat,Nat.reduceSub,Nat.reduceMod,Nat.reduceDiv,Int.reducePow,Int.reduceLE,Int.reduceNeg,Int.reduceLT,Int.reduceBEq,Int.reduceBNe,Int.reduceEq,Tryd.facts]
  first | refine CallK.p (h1) ?_ | refine CallP.i (h1) ?_
  simp (disch := omega) only [↓aI,↓zP,aD,zD,aS,Nat.reduceBEq,Nat.reduceLT,reduceCtorEq,↓reduceIte,Nat.reduceMul,Nat.reduceAdd,Nat.reduceLeDiff,Nat.reduceEqDiff,Int.reduceToNat,Nat.reduceSub,Nat.reduceMod,Nat.reduceDiv,Int.reducePow,Int.reduceLE,Int.reduceNeg,Int.reduceLT,Int.reduceBEq,Int.reduceBNe,Int.reduceEq,Tryd.facts]
  first | refine CallK.p (h2) ?_ | refine CallP.i (h2) ?_
  simp (disch := omega) only [↓aI,↓zP,aD,zD,aS,Nat.reduceBEq,Nat.reduceLT,reduceCtorEq,↓reduceIte,Nat.reduceMul,Nat.reduceAdd,Nat.reduceLeDiff,Nat.reduceEqDiff,Int.reduceToNat,Nat.reduceSub,Nat.reduceMod,Nat.reduceDiv,Int.reducePow,Int.reduceLE,Int.reduceNeg,Int.reduceLT,Int.reduceBEq,Int.reduceBNe,Int.reduceEq,Tryd.facts]
  first | exact Abs.Sub.refl _ | trace_state
theorem whole_at (key : List UInt8) (x : UInt8) {i : Nat} (h : i < 64) : (wholeB key x).take (i + 1) = (wholeB key x).take i ++ [(keyB key).getD i 0 ^^^ x] := by
  have hl := wholeB_len key x
  rw [List.take_succ_eq_append_getElem (by omega)]
  congr 1
  simp [wholeB]
theorem tok_two {H E : AH} {a b a' : Nat} {oa ob oa' : AObj} (hs : Abs.Sub H E) (ea : E a = some oa) (eb : E b = some ob) (hab : a ≠ b) (ha : H a = none) (hb : H b = none) (hn : E a' = none) :
    Abs.Sub H ((E.kill a).set a' oa') ∧ ((E.kill a).set a' oa') a' = some oa' ∧ ((E.kill a).set a' oa') b = some ob ∧ a' ≠ b ∧ H a' = none := by
  have h1 : a' ≠ b := fun e => by rw [e,eb] at hn; cases hn
  have h2 : H a' = none := by
    cases e : H a' with
    | none => rfl
    | some y => rw [hs _ _ e] at hn; cases hn
  refine ⟨?_,by simp [AH.set],by simp [AH.set,AH.kill,Ne.symm h1,Ne.symm hab,eb],h1,h2⟩
  intro x y hx
  have e1 : x ≠ a := fun e => by rw [e,ha] at hx; cases hx
  have e2 : x ≠ a' := fun e => by rw [e,h2] at hx; cases hx
  simp [AH.set,AH.kill,e1,e2,hs _ _ hx]
theorem keyB_len' (key : List UInt8) : (keyB key).length ≤ 64 := by
  unfold keyB
  split
  · rw [shaM_len]; decide
  · omega
theorem dmac_pure (key b : List UInt8) (hk : key.length ≤ 1000000) (hb : b.length ≤ 1000000) : APure Tryd.prog 39 [kindS,eu key,eu b] (eu (hmacM key b)) := by
  have hkl := keyB_len' key
  have hks := dsum_pure key (by omega)
  have l1 := wholeB_len key 54
  have l2 := wholeB_len key 92
  have t1 := fun i h => whole_at key 54 (i := i) h
  have t2 := fun i h => whole_at key 92 (i := i) h
  have hj1 := join_pure (wholeB key 54) b (by omega) (by omega)
  have hs1 := dsum_pure (wholeB key 54 ++ b) (by rw [List.length_append]; omega)
  have hl1 := shaM_len (wholeB key 54 ++ b)
  have hj2 := join_pure (wholeB key 92) (shaM (wholeB key 54 ++ b)) (by omega) (by omega)
  have hs2 := dsum_pure (wholeB key 92 ++ shaM (wholeB key 54 ++ b)) (by rw [List.length_append]; omega)
  have hres : hmacM key b = shaM (wholeB key 92 ++ shaM (wholeB key 54 ++ b)) := rfl
  rw [hres]
  generalize hA : wholeB key 54 = A at *
  generalize hB : wholeB key 92 = B at *
  generalize shaM (A ++ b) = S1 at *
  generalize shaM (B ++ S1) = S2 at *
  unfold kindS KS FS at *
  generalize digA keys256 = ks at *
  generalize digA first256 = fs at *
  unfold kindV at *
  refine az (c := ⟨Tryd.prog,48,[(12,[1,0,1,0,0,0,0,0,0,0]),(1000000,[3])],[],[]⟩) (rs := [ResultVar.tmp 6]) Tryd.mixed Tryd.func39 rfl rfl rfl (Nat.le_of_ble_eq_true rfl) (by kernel_rfl) fun H => ?_
  simp (disch := omega) only [↓aI,↓zP,aD,zD,aS,Nat.reduceBEq,Nat.reduceLT,reduceCtorEq,↓reduceIte,Nat.reduceMul,Nat.reduceAdd,Nat.reduceLeDiff,Nat.reduceEqDiff,Int.reduceToNat,Nat.reduceSub,Nat.reduceMod,Nat.reduceDiv,Int.reducePow,Int.reduceLE,Int.reduceNeg,Int.reduceLT,Int.reduceBEq,Int.reduceBNe,Int.reduceEq,Tryd.facts]
  intro k hk0 hk2
  by_cases h64 : 64 < key.length
  · have hkb : keyB key = shaM key := if_pos h64
    have hb3 : decide ((64 : Int) < (key.length : Int)) = true := dT (by omega)
    rw [← hkb] at hks
    generalize keyB key = KB at *
    simp (disch := omega) only [↓aI,↓zP,aD,zD,aS,Nat.reduceBEq,Nat.reduceLT,reduceCtorEq,↓reduceIte,Nat.reduceMul,Nat.reduceAdd,Nat.reduceLeDiff,Nat.reduceEqDiff,Int.reduceToNat,Nat.reduceSub,Nat.reduceMod,Nat.reduceDiv,Int.reducePow,Int.reduceLE,Int.reduceNeg,Int.reduceLT,Int.reduceBEq,Int.reduceBNe,Int.reduceEq,Tryd.facts,hb3]
    first | refine CallK.p (hks) ?_ | refine CallP.i (hks) ?_
    simp (disch := omega) only [↓aI,↓zP,aD,zD,aS,Nat.reduceBEq,Nat.reduceLT,reduceCtorEq,↓reduceIte,Nat.reduceMul,Nat.reduceAdd,Nat.reduceLeDiff,Nat.reduceEqDiff,Int.reduceToNat,Nat.reduceSub,Nat.reduceMod,Nat.reduceDiv,Int.reducePow,Int.reduceLE,Int.reduceNeg,Int.reduceLT,Int.reduceBEq,Int.reduceBNe,Int.reduceEq,Tryd.facts]
    refine jn 7 (by simp (disch := omega) only [↓aI,↓zP,aD,zD,aS,Nat.reduceBEq,Nat.reduceLT,reduceCtorEq,↓reduceIte,Nat.reduceMul,Nat.reduceAdd,Nat.reduceLeDiff,Nat.reduceEqDiff,Int.reduceToNat,Nat.reduceSub,Nat.reduceMod,Nat.reduceDiv,Int.reducePow,Int.reduceLE,Int.reduceNeg,Int.reduceLT,Int.reduceBEq,Int.reduceBNe,Int.reduceEq,Tryd.facts]) fun ka hka0 hka => ?_
    refine jn 8 (by simp (disch := omega) only [↓aI,↓zP,aD,zD,aS,Nat.reduceBEq,Nat.reduceLT,reduceCtorEq,↓reduceIte,Nat.reduceMul,Nat.reduceAdd,Nat.reduceLeDiff,Nat.reduceEqDiff,Int.reduceToNat,Nat.reduceSub,Nat.reduceMod,Nat.reduceDiv,Int.reducePow,Int.reduceLE,Int.reduceNeg,Int.reduceLT,Int.reduceBEq,Int.reduceBNe,Int.reduceEq,Tryd.facts]) fun kc hkc0 hkc => ?_
    refine br (c := ⟨Tryd.prog,48,[(12,[1,0,1,0,0,0,0,0,0,0]),(1000000,[3])],[],[]⟩) Tryd.mixed (by kernel_rfl) (fun m σ H' => ∃ i ki oi ko oo,i + m = 64 ∧ σ 1 = eu KB ∧ σ 2 = eu b ∧ σ 3 = .ip (AV.cellsOf (kindV (.imm 0 ks 64) (.imm 0 fs 8))) 0 ∧ σ 9 = .sc (.int .i64 (i : Nat)) ∧ Abs.Sub H H' ∧ H' ki = some oi ∧ H' ko = some oo ∧ ki ≠ ko ∧ ki ≠ 0 ∧ ko ≠ 0 ∧ H ki = none ∧ H ko = none ∧ cy 5 1 oi i ∧ cy 5 1 oo i ∧ σ 7 = .imm ki (bw (A.take i)) i ∧ σ 8 = .imm ko (bw (B.take i)) i) 64 ?_ ?_
    · rw [ef hk2] at hka hkc
      have nac := bK hkc
      refine ⟨0,ka,.nilt,kc,.nilt,by omega,?_⟩
      simp (disch := omega) only [↓aI,↓zP,aD,zD,aS,Nat.reduceBEq,Nat.reduceLT,reduceCtorEq,↓reduceIte,Nat.reduceMul,Nat.reduceAdd,Nat.reduceLeDiff,Nat.reduceEqDiff,Int.reduceToNat,Nat.reduceSub,Nat.reduceMod,Nat.reduceDiv,Int.reducePow,Int.reduceLE,Int.reduceNeg,Int.reduceLT,Int.reduceBEq,Int.reduceBNe,Int.reduceEq,Tryd.facts,aj hk2,kindV]
      exact ⟨(Sub.set_new hka).trans (Sub.set_new hkc),by simp [AH.set,nac],nac,hka0,hkc0,hka,am hkc,rfl,rfl⟩
    · clear hka0 hka hkc0 hkc
      clear ka kc
      rintro m σ H' ⟨i,ki,oi,ko,oo,hi,g1,g2,g3,g9,hsub,ea,eb,hab,hki0,hko0,nea,neb,toi,too,g7,g8⟩
      have hal : (A.take i).length = i := by rw [List.length_take]; omega
      have hbl : (B.take i).length = i := by rw [List.length_take]; omega
      by_cases hlt : i < 64
      · have hb2 : decide ((i : Int) < 64) = true := by simp; omega
        have u1 := t1 i hlt
        have u2 := t2 i hlt
        have hkbl := gz KB
        by_cases hil : i < KB.length
        · have hb3 : decide ((i : Int) < (KB.length : Int)) = true := by simp; omega
          have hat := encB_get hil
          have x1 := n8xor (KB.getD i 0) 54
          have x2 := n8xor (KB.getD i 0) 92
          rw [show (((54 : UInt8).toNat : Nat) : Int) = 54 from rfl] at x1
          rw [show (((92 : UInt8).toNat : Nat) : Int) = 92 from rfl] at x2
          generalize KB.getD i 0 = x at *
          simp (disch := omega) only [↓aI,↓zP,aD,zD,aS,Nat.reduceBEq,Nat.reduceLT,reduceCtorEq,↓reduceIte,Nat.reduceMul,Nat.reduceAdd,Nat.reduceLeDiff,Nat.reduceEqDiff,Int.reduceToNat,Nat.reduceSub,Nat.reduceMod,Nat.reduceDiv,Int.reducePow,Int.reduceLE,Int.reduceNeg,Int.reduceLT,Int.reduceBEq,Int.reduceBNe,Int.reduceEq,Tryd.facts,g1,g2,g3,g7,g8,g9,hb2,hb3,hat,hkbl,x1,x2,ea,hki0,toi,hal]
          intro k' o' hk0' hk' ho'
          obtain ⟨q1,q2,q3,q4,q5⟩ := tok_two (oa' := o') hsub ea eb hab nea neb hk'
          simp (disch := omega) only [↓aI,↓zP,aD,zD,aS,Nat.reduceBEq,Nat.reduceLT,reduceCtorEq,↓reduceIte,Nat.reduceMul,Nat.reduceAdd,Nat.reduceLeDiff,Nat.reduceEqDiff,Int.reduceToNat,Nat.reduceSub,Nat.reduceMod,Nat.reduceDiv,Int.reducePow,Int.reduceLE,Int.reduceNeg,Int.reduceLT,Int.reduceBEq,Int.reduceBNe,Int.reduceEq,Tryd.facts,g1,g2,g3,g7,g8,g9,x1,x2,q3,hko0,too,hbl]
          intro k'' o'' hk0'' hk'' ho''
          obtain ⟨r1,r2,r3,r4,r5⟩ := tok_two (oa' := o'') q1 q3 q2 (Ne.symm q4) neb q5 hk''
          exact ⟨m - 1,by omega,i + 1,k',o',k'',o'',by omega,rfl,r1,r3,r2,Ne.symm r4,hk0',hk0'',q5,r5,ho',ho'',by rw [u1]; first | done | rfl,by rw [u2]; first | done | rfl⟩
        · have hb3 : decide ((i : Int) < (KB.length : Int)) = false := by simp; omega
          have hz : KB.getD i 0 = 0 := by simp [List.getD,List.getElem?_eq_none (Nat.le_of_not_lt hil)]
          have x1 : bits .xor .u8 (0 : Int) 54 = (((0 : UInt8) ^^^ 54).toNat : Int) := n8xor 0 54
          have x2 : bits .xor .u8 (0 : Int) 92 = (((0 : UInt8) ^^^ 92).toNat : Int) := n8xor 0 92
          rw [hz] at u1 u2
          simp (disch := omega) only [↓aI,↓zP,aD,zD,aS,Nat.reduceBEq,Nat.reduceLT,reduceCtorEq,↓reduceIte,Nat.reduceMul,Nat.reduceAdd,Nat.reduceLeDiff,Nat.reduceEqDiff,Int.reduceToNat,Nat.reduceSub,Nat.reduceMod,Nat.reduceDiv,Int.reducePow,Int.reduceLE,Int.reduceNeg,Int.reduceLT,Int.reduceBEq,Int.reduceBNe,Int.reduceEq,Tryd.facts,g1,g2,g3,g7,g8,g9,hb2,hb3,hkbl,x1,x2,ea,hki0,toi,hal]
          intro k' o' hk0' hk' ho'
          obtain ⟨q1,q2,q3,q4,q5⟩ := tok_two (oa' := o') hsub ea eb hab nea neb hk'
          simp (disch := omega) only [↓aI,↓zP,aD,zD,aS,Nat.reduceBEq,Nat.reduceLT,reduceCtorEq,↓reduceIte,Nat.reduceMul,Nat.reduceAdd,Nat.reduceLeDiff,Nat.reduceEqDiff,Int.reduceToNat,Nat.reduceSub,Nat.reduceMod,Nat.reduceDiv,Int.reducePow,Int.reduceLE,Int.reduceNeg,Int.reduceLT,Int.reduceBEq,Int.reduceBNe,Int.reduceEq,Tryd.facts,g1,g2,g3,g7,g8,g9,x1,x2,q3,hko0,too,hbl]
          intro k'' o'' hk0'' hk'' ho''
          obtain ⟨r1,r2,r3,r4,r5⟩ := tok_two (oa' := o'') q1 q3 q2 (Ne.symm q4) neb q5 hk''
          exact ⟨m - 1,by omega,i + 1,k',o',k'',o'',by omega,rfl,r1,r3,r2,Ne.symm r4,hk0',hk0'',q5,r5,ho',ho'',by rw [u1]; first | done | rfl,by rw [u2]; first | done | rfl⟩
      · obtain rfl : i = 64 := by omega
        have hb2 : decide (((64 : Nat) : Int) < 64) = false := by decide
        rw [List.take_of_length_le (by omega)] at g7 g8
        have hA2 : eu A = .imm 0 (bw A) 64 := by unfold eu; rw [l1]
        have hB2 : eu B = .imm 0 (bw B) 64 := by unfold eu; rw [l2]
        have hAb : eu (A ++ b) = .imm 0 (bw (A ++ b)) (A.length + b.length) := by unfold eu; rw [List.length_append]
        have hBs : eu (B ++ S1) = .imm 0 (bw (B ++ S1)) (B.length + S1.length) := by unfold eu; rw [List.length_append]
        rw [hA2] at hj1
        rw [hB2] at hj2
        rw [hAb] at hs1
        rw [hBs] at hs2
        simp (disch := omega) only [↓aI,↓zP,aD,zD,aS,Nat.reduceBEq,Nat.reduceLT,reduceCtorEq,↓reduceIte,Nat.reduceMul,Nat.reduceAdd,Nat.reduceLeDiff,Nat.reduceEqDiff,Int.reduceToNat,Nat.reduceSub,Nat.reduceMod,Nat.reduceDiv,Int.reducePow,Int.reduceLE,Int.reduceNeg,Int.reduceLT,Int.reduceBEq,Int.reduceBNe,Int.reduceEq,Tryd.facts,g1,g2,g3,g7,g8,g9,hb2,kindV]
        first | refine CallK.p (hj1) ?_ | refine CallP.i (hj1) ?_
        simp (disch := omega) only [↓aI,↓zP,aD,zD,aS,Nat.reduceBEq,Nat.reduceLT,reduceCtorEq,↓reduceIte,Nat.reduceMul,Nat.reduceAdd,Nat.reduceLeDiff,Nat.reduceEqDiff,Int.reduceToNat,Nat.reduceSub,Nat.reduceMod,Nat.reduceDiv,Int.reducePow,Int.reduceLE,Int.reduceNeg,Int.reduceLT,Int.reduceBEq,Int.reduceBNe,Int.reduceEq,Tryd.facts,g2,g3,g7,g8,kindV]
        first | refine CallK.p (hs1) ?_ | refine CallP.i (hs1) ?_
        simp (disch := omega) only [↓aI,↓zP,aD,zD,aS,Nat.reduceBEq,Nat.reduceLT,reduceCtorEq,↓reduceIte,Nat.reduceMul,Nat.reduceAdd,Nat.reduceLeDiff,Nat.reduceEqDiff,Int.reduceToNat,Nat.reduceSub,Nat.reduceMod,Nat.reduceDiv,Int.reducePow,Int.reduceLE,Int.reduceNeg,Int.reduceLT,Int.reduceBEq,Int.reduceBNe,Int.reduceEq,Tryd.facts,g2,g3,g7,g8,kindV]
        first | refine CallK.p (hj2) ?_ | refine CallP.i (hj2) ?_
        simp (disch := omega) only [↓aI,↓zP,aD,zD,aS,Nat.reduceBEq,Nat.reduceLT,reduceCtorEq,↓reduceIte,Nat.reduceMul,Nat.reduceAdd,Nat.reduceLeDiff,Nat.reduceEqDiff,Int.reduceToNat,Nat.reduceSub,Nat.reduceMod,Nat.reduceDiv,Int.reducePow,Int.reduceLE,Int.reduceNeg,Int.reduceLT,Int.reduceBEq,Int.reduceBNe,Int.reduceEq,Tryd.facts,g2,g3,g7,g8,kindV]
        first | refine CallK.p (hs2) ?_ | refine CallP.i (hs2) ?_
        simp (disch := omega) only [↓aI,↓zP,aD,zD,aS,Nat.reduceBEq,Nat.reduceLT,reduceCtorEq,↓reduceIte,Nat.reduceMul,Nat.reduceAdd,Nat.reduceLeDiff,Nat.reduceEqDiff,Int.reduceToNat,Nat.reduceSub,Nat.reduceMod,Nat.reduceDiv,Int.reducePow,Int.reduceLE,Int.reduceNeg,Int.reduceLT,Int.reduceBEq,Int.reduceBNe,Int.reduceEq,Tryd.facts,g2,g3,g7,g8,kindV]
        exact hsub
  · have hkb : key = keyB key := (if_neg h64).symm
    have hb3 : decide ((64 : Int) < (key.length : Int)) = false := dF (by omega)
    obtain ⟨KB,hKB⟩ : ∃ KB,KB = keyB key := ⟨_,rfl⟩
    rw [← hKB] at hkb hkl t1 t2
    subst hkb
    clear hks
    simp (disch := omega) only [↓aI,↓zP,aD,zD,aS,Nat.reduceBEq,Nat.reduceLT,reduceCtorEq,↓reduceIte,Nat.reduceMul,Nat.reduceAdd,Nat.reduceLeDiff,Nat.reduceEqDiff,Int.reduceToNat,Nat.reduceSub,Nat.reduceMod,Nat.reduceDiv,Int.reducePow,Int.reduceLE,Int.reduceNeg,Int.reduceLT,Int.reduceBEq,Int.reduceBNe,Int.reduceEq,Tryd.facts,hb3]
    refine jn 7 (by simp (disch := omega) only [↓aI,↓zP,aD,zD,aS,Nat.reduceBEq,Nat.reduceLT,reduceCtorEq,↓reduceIte,Nat.reduceMul,Nat.reduceAdd,Nat.reduceLeDiff,Nat.reduceEqDiff,Int.reduceToNat,Nat.reduceSub,Nat.reduceMod,Nat.reduceDiv,Int.reducePow,Int.reduceLE,Int.reduceNeg,Int.reduceLT,Int.reduceBEq,Int.reduceBNe,Int.reduceEq,Tryd.facts]) fun ka hka0 hka => ?_
    refine jn 8 (by simp (disch := omega) only [↓aI,↓zP,aD,zD,aS,Nat.reduceBEq,Nat.reduceLT,reduceCtorEq,↓reduceIte,Nat.reduceMul,Nat.reduceAdd,Nat.reduceLeDiff,Nat.reduceEqDiff,Int.reduceToNat,Nat.reduceSub,Nat.reduceMod,Nat.reduceDiv,Int.reducePow,Int.reduceLE,Int.reduceNeg,Int.reduceLT,Int.reduceBEq,Int.reduceBNe,Int.reduceEq,Tryd.facts]) fun kc hkc0 hkc => ?_
    refine br (c := ⟨Tryd.prog,48,[(12,[1,0,1,0,0,0,0,0,0,0]),(1000000,[3])],[],[]⟩) Tryd.mixed (by kernel_rfl) (fun m σ H' => ∃ i ki oi ko oo,i + m = 64 ∧ σ 1 = eu key ∧ σ 2 = eu b ∧ σ 3 = .ip (AV.cellsOf (kindV (.imm 0 ks 64) (.imm 0 fs 8))) 0 ∧ σ 9 = .sc (.int .i64 (i : Nat)) ∧ Abs.Sub H H' ∧ H' ki = some oi ∧ H' ko = some oo ∧ ki ≠ ko ∧ ki ≠ 0 ∧ ko ≠ 0 ∧ H ki = none ∧ H ko = none ∧ cy 5 1 oi i ∧ cy 5 1 oo i ∧ σ 7 = .imm ki (bw (A.take i)) i ∧ σ 8 = .imm ko (bw (B.take i)) i) 64 ?_ ?_
    · rw [ef hk2] at hka hkc
      have nac := bK hkc
      refine ⟨0,ka,.nilt,kc,.nilt,by omega,?_⟩
      simp (disch := omega) only [↓aI,↓zP,aD,zD,aS,Nat.reduceBEq,Nat.reduceLT,reduceCtorEq,↓reduceIte,Nat.reduceMul,Nat.reduceAdd,Nat.reduceLeDiff,Nat.reduceEqDiff,Int.reduceToNat,Nat.reduceSub,Nat.reduceMod,Nat.reduceDiv,Int.reducePow,Int.reduceLE,Int.reduceNeg,Int.reduceLT,Int.reduceBEq,Int.reduceBNe,Int.reduceEq,Tryd.facts,aj hk2,kindV]
      exact ⟨(Sub.set_new hka).trans (Sub.set_new hkc),by simp [AH.set,nac],nac,hka0,hkc0,hka,am hkc,rfl,rfl⟩
    · clear hka0 hka hkc0 hkc
      clear ka kc
      rintro m σ H' ⟨i,ki,oi,ko,oo,hi,g1,g2,g3,g9,hsub,ea,eb,hab,hki0,hko0,nea,neb,toi,too,g7,g8⟩
      have hal : (A.take i).length = i := by rw [List.length_take]; omega
      have hbl : (B.take i).length = i := by rw [List.length_take]; omega
      by_cases hlt : i < 64
      · have hb2 : decide ((i : Int) < 64) = true := by simp; omega
        have u1 := t1 i hlt
        have u2 := t2 i hlt
        have hkbl := gz key
        by_cases hil : i < key.length
        · have hb3 : decide ((i : Int) < (key.length : Int)) = true := by simp; omega
          have hat := encB_get hil
          have x1 := n8xor (key.getD i 0) 54
          have x2 := n8xor (key.getD i 0) 92
          rw [show (((54 : UInt8).toNat : Nat) : Int) = 54 from rfl] at x1
          rw [show (((92 : UInt8).toNat : Nat) : Int) = 92 from rfl] at x2
          generalize key.getD i 0 = x at *
          simp (disch := omega) only [↓aI,↓zP,aD,zD,aS,Nat.reduceBEq,Nat.reduceLT,reduceCtorEq,↓reduceIte,Nat.reduceMul,Nat.reduceAdd,Nat.reduceLeDiff,Nat.reduceEqDiff,Int.reduceToNat,Nat.reduceSub,Nat.reduceMod,Nat.reduceDiv,Int.reducePow,Int.reduceLE,Int.reduceNeg,Int.reduceLT,Int.reduceBEq,Int.reduceBNe,Int.reduceEq,Tryd.facts,g1,g2,g3,g7,g8,g9,hb2,hb3,hat,hkbl,x1,x2,ea,hki0,toi,hal]
          intro k' o' hk0' hk' ho'
          obtain ⟨q1,q2,q3,q4,q5⟩ := tok_two (oa' := o') hsub ea eb hab nea neb hk'
          simp (disch := omega) only [↓aI,↓zP,aD,zD,aS,Nat.reduceBEq,Nat.reduceLT,reduceCtorEq,↓reduceIte,Nat.reduceMul,Nat.reduceAdd,Nat.reduceLeDiff,Nat.reduceEqDiff,Int.reduceToNat,Nat.reduceSub,Nat.reduceMod,Nat.reduceDiv,Int.reducePow,Int.reduceLE,Int.reduceNeg,Int.reduceLT,Int.reduceBEq,Int.reduceBNe,Int.reduceEq,Tryd.facts,g1,g2,g3,g7,g8,g9,x1,x2,q3,hko0,too,hbl]
          intro k'' o'' hk0'' hk'' ho''
          obtain ⟨r1,r2,r3,r4,r5⟩ := tok_two (oa' := o'') q1 q3 q2 (Ne.symm q4) neb q5 hk''
          exact ⟨m - 1,by omega,i + 1,k',o',k'',o'',by omega,rfl,r1,r3,r2,Ne.symm r4,hk0',hk0'',q5,r5,ho',ho'',by rw [u1]; first | done | rfl,by rw [u2]; first | done | rfl⟩
        · have hb3 : decide ((i : Int) < (key.length : Int)) = false := by simp; omega
          have hz : key.getD i 0 = 0 := by simp [List.getD,List.getElem?_eq_none (Nat.le_of_not_lt hil)]
          have x1 : bits .xor .u8 (0 : Int) 54 = (((0 : UInt8) ^^^ 54).toNat : Int) := n8xor 0 54
          have x2 : bits .xor .u8 (0 : Int) 92 = (((0 : UInt8) ^^^ 92).toNat : Int) := n8xor 0 92
          rw [hz] at u1 u2
          simp (disch := omega) only [↓aI,↓zP,aD,zD,aS,Nat.reduceBEq,Nat.reduceLT,reduceCtorEq,↓reduceIte,Nat.reduceMul,Nat.reduceAdd,Nat.reduceLeDiff,Nat.reduceEqDiff,Int.reduceToNat,Nat.reduceSub,Nat.reduceMod,Nat.reduceDiv,Int.reducePow,Int.reduceLE,Int.reduceNeg,Int.reduceLT,Int.reduceBEq,Int.reduceBNe,Int.reduceEq,Tryd.facts,g1,g2,g3,g7,g8,g9,hb2,hb3,hkbl,x1,x2,ea,hki0,toi,hal]
          intro k' o' hk0' hk' ho'
          obtain ⟨q1,q2,q3,q4,q5⟩ := tok_two (oa' := o') hsub ea eb hab nea neb hk'
          simp (disch := omega) only [↓aI,↓zP,aD,zD,aS,Nat.reduceBEq,Nat.reduceLT,reduceCtorEq,↓reduceIte,Nat.reduceMul,Nat.reduceAdd,Nat.reduceLeDiff,Nat.reduceEqDiff,Int.reduceToNat,Nat.reduceSub,Nat.reduceMod,Nat.reduceDiv,Int.reducePow,Int.reduceLE,Int.reduceNeg,Int.reduceLT,Int.reduceBEq,Int.reduceBNe,Int.reduceEq,Tryd.facts,g1,g2,g3,g7,g8,g9,x1,x2,q3,hko0,too,hbl]
          intro k'' o'' hk0'' hk'' ho''
          obtain ⟨r1,r2,r3,r4,r5⟩ := tok_two (oa' := o'') q1 q3 q2 (Ne.symm q4) neb q5 hk''
          exact ⟨m - 1,by omega,i + 1,k',o',k'',o'',by omega,rfl,r1,r3,r2,Ne.symm r4,hk0',hk0'',q5,r5,ho',ho'',by rw [u1]; first | done | rfl,by rw [u2]; first | done | rfl⟩
      · obtain rfl : i = 64 := by omega
        have hb2 : decide (((64 : Nat) : Int) < 64) = false := by decide
        rw [List.take_of_length_le (by omega)] at g7 g8
        have hA2 : eu A = .imm 0 (bw A) 64 := by unfold eu; rw [l1]
        have hB2 : eu B = .imm 0 (bw B) 64 := by unfold eu; rw [l2]
        have hAb : eu (A ++ b) = .imm 0 (bw (A ++ b)) (A.length + b.length) := by unfold eu; rw [List.length_append]
        have hBs : eu (B ++ S1) = .imm 0 (bw (B ++ S1)) (B.length + S1.length) := by unfold eu; rw [List.length_append]
        rw [hA2] at hj1
        rw [hB2] at hj2
        rw [hAb] at hs1
        rw [hBs] at hs2
        simp (disch := omega) only [↓aI,↓zP,aD,zD,aS,Nat.reduceBEq,Nat.reduceLT,reduceCtorEq,↓reduceIte,Nat.reduceMul,Nat.reduceAdd,Nat.reduceLeDiff,Nat.reduceEqDiff,Int.reduceToNat,Nat.reduceSub,Nat.reduceMod,Nat.reduceDiv,Int.reducePow,Int.reduceLE,Int.reduceNeg,Int.reduceLT,Int.reduceBEq,Int.reduceBNe,Int.reduceEq,Tryd.facts,g1,g2,g3,g7,g8,g9,hb2,kindV]
        first | refine CallK.p (hj1) ?_ | refine CallP.i (hj1) ?_
        simp (disch := omega) only [↓aI,↓zP,aD,zD,aS,Nat.reduceBEq,Nat.reduceLT,reduceCtorEq,↓reduceIte,Nat.reduceMul,Nat.reduceAdd,Nat.reduceLeDiff,Nat.reduceEqDiff,Int.reduceToNat,Nat.reduceSub,Nat.reduceMod,Nat.reduceDiv,Int.reducePow,Int.reduceLE,Int.reduceNeg,Int.reduceLT,Int.reduceBEq,Int.reduceBNe,Int.reduceEq,Tryd.facts,g2,g3,g7,g8,kindV]
        first | refine CallK.p (hs1) ?_ | refine CallP.i (hs1) ?_
        simp (disch := omega) only [↓aI,↓zP,aD,zD,aS,Nat.reduceBEq,Nat.reduceLT,reduceCtorEq,↓reduceIte,Nat.reduceMul,Nat.reduceAdd,Nat.reduceLeDiff,Nat.reduceEqDiff,Int.reduceToNat,Nat.reduceSub,Nat.reduceMod,Nat.reduceDiv,Int.reducePow,Int.reduceLE,Int.reduceNeg,Int.reduceLT,Int.reduceBEq,Int.reduceBNe,Int.reduceEq,Tryd.facts,g2,g3,g7,g8,kindV]
        first | refine CallK.p (hj2) ?_ | refine CallP.i (hj2) ?_
        simp (disch := omega) only [↓aI,↓zP,aD,zD,aS,Nat.reduceBEq,Nat.reduceLT,reduceCtorEq,↓reduceIte,Nat.reduceMul,Nat.reduceAdd,Nat.reduceLeDiff,Nat.reduceEqDiff,Int.reduceToNat,Nat.reduceSub,Nat.reduceMod,Nat.reduceDiv,Int.reducePow,Int.reduceLE,Int.reduceNeg,Int.reduceLT,Int.reduceBEq,Int.reduceBNe,Int.reduceEq,Tryd.facts,g2,g3,g7,g8,kindV]
        first | refine CallK.p (hs2) ?_ | refine CallP.i (hs2) ?_
        simp (disch := omega) only [↓aI,↓zP,aD,zD,aS,Nat.reduceBEq,Nat.reduceLT,reduceCtorEq,↓reduceIte,Nat.reduceMul,Nat.reduceAdd,Nat.reduceLeDiff,Nat.reduceEqDiff,Int.reduceToNat,Nat.reduceSub,Nat.reduceMod,Nat.reduceDiv,Int.reducePow,Int.reduceLE,Int.reduceNeg,Int.reduceLT,Int.reduceBEq,Int.reduceBNe,Int.reduceEq,Tryd.facts,g2,g3,g7,g8,kindV]
        exact hsub
theorem dMac_pure (key b : List UInt8) (hk : key.length ≤ 1000000) (hb : b.length ≤ 1000000) : APure Tryd.prog 40 [eu key,eu b] (eu (hmacM key b)) := by
  have h1 := small_pure
  have h2 := dmac_pure key b hk hb
  refine az (c := ⟨Tryd.prog,9,[],[],[]⟩) (rs := [ResultVar.tmp 4]) Tryd.mixed Tryd.func40 rfl rfl rfl (Nat.le_of_ble_eq_true rfl) (by kernel_rfl) fun H => ?_
  simp (disch := omega) only [↓aI,↓zP,aD,zD,aS,Nat.reduceBEq,Nat.reduceLT,reduceCtorEq,↓reduceIte,Nat.reduceMul,Nat.reduceAdd,Nat.reduceLeDiff,Nat.reduceEqDiff,Int.reduceToNat,Nat.reduceSub,Nat.reduceMod,Nat.reduceDiv,Int.reducePow,Int.reduceLE,Int.reduceNeg,Int.reduceLT,Int.reduceBEq,Int.reduceBNe,Int.reduceEq,Tryd.facts]
  first | refine CallK.p (h1) ?_ | refine CallP.i (h1) ?_
  simp (disch := omega) only [↓aI,↓zP,aD,zD,aS,Nat.reduceBEq,Nat.reduceLT,reduceCtorEq,↓reduceIte,Nat.reduceMul,Nat.reduceAdd,Nat.reduceLeDiff,Nat.reduceEqDiff,Int.reduceToNat,Nat.reduceSub,Nat.reduceMod,Nat.reduceDiv,Int.reducePow,Int.reduceLE,Int.reduceNeg,Int.reduceLT,Int.reduceBEq,Int.reduceBNe,Int.reduceEq,Tryd.facts]
  first | refine CallK.p (h2) ?_ | refine CallP.i (h2) ?_
  simp (disch := omega) only [↓aI,↓zP,aD,zD,aS,Nat.reduceBEq,Nat.reduceLT,reduceCtorEq,↓reduceIte,Nat.reduceMul,Nat.reduceAdd,Nat.reduceLeDiff,Nat.reduceEqDiff,Int.reduceToNat,Nat.reduceSub,Nat.reduceMod,Nat.reduceDiv,Int.reducePow,Int.reduceLE,Int.reduceNeg,Int.reduceLT,Int.reduceBEq,Int.reduceBNe,Int.reduceEq,Tryd.facts]
  first | exact Abs.Sub.refl _ | trace_state
theorem dextract_pure (key : List UInt8) (hk : key.length ≤ 1000000) : APure Tryd.prog 28 [eu [],eu key] (eu (hmacM [] key)) := by
  have h2 := dMac_pure (List.replicate 32 0) key (by simp) hk
  rw [hmac_none] at h2
  unfold eu at *
  refine az (c := ⟨Tryd.prog,12,[],[4000008],[]⟩) (rs := [ResultVar.tmp 4]) Tryd.mixed Tryd.func28 rfl rfl rfl (Nat.le_of_ble_eq_true rfl) (by kernel_rfl) fun H => ?_
  simp (disch := omega) only [↓aI,↓zP,aD,zD,aS,Nat.reduceBEq,Nat.reduceLT,reduceCtorEq,↓reduceIte,Nat.reduceMul,Nat.reduceAdd,Nat.reduceLeDiff,Nat.reduceEqDiff,Int.reduceToNat,Nat.reduceSub,Nat.reduceMod,Nat.reduceDiv,Int.reducePow,Int.reduceLE,Int.reduceNeg,Int.reduceLT,Int.reduceBEq,Int.reduceBNe,Int.reduceEq,Tryd.facts]
  first | refine CallK.p (h2) ?_ | refine CallP.i (h2) ?_
  simp (disch := omega) only [↓aI,↓zP,aD,zD,aS,Nat.reduceBEq,Nat.reduceLT,reduceCtorEq,↓reduceIte,Nat.reduceMul,Nat.reduceAdd,Nat.reduceLeDiff,Nat.reduceEqDiff,Int.reduceToNat,Nat.reduceSub,Nat.reduceMod,Nat.reduceDiv,Int.reducePow,Int.reduceLE,Int.reduceNeg,Int.reduceLT,Int.reduceBEq,Int.reduceBNe,Int.reduceEq,Tryd.facts]
  first | exact Abs.Sub.refl _ | trace_state
theorem join_raw (H : AH) (a b : List UInt8) (ha : a.length ≤ 1000000000) (hb : b.length ≤ 1000000000) : ACalls Tryd.prog 20 [eu a,eu b] H fun v H' => ∃ k o,k ≠ 0 ∧ H k = none ∧ v = .imm k (bw (a ++ b)) (a.length + b.length) ∧ cy 5 1 o (a.length + b.length) ∧ H' k = some o ∧ Abs.Sub H H' := by
  have hea := gz a
  have heb := gz b
  unfold eu
  refine acalls_raw (c := ⟨Tryd.prog,10,[],[5],[]⟩) (t := 4) Tryd.mixed Tryd.func20 rfl rfl rfl (Nat.le_of_ble_eq_true rfl) (by kernel_rfl) ?_
  simp (disch := omega) only [↓aI,↓zP,aD,zD,aS,Nat.reduceBEq,Nat.reduceLT,reduceCtorEq,↓reduceIte,Nat.reduceMul,Nat.reduceAdd,Nat.reduceLeDiff,Nat.reduceEqDiff,Int.reduceToNat,Nat.reduceSub,Nat.reduceMod,Nat.reduceDiv,Int.reducePow,Int.reduceLE,Int.reduceNeg,Int.reduceLT,Int.reduceBEq,Int.reduceBNe,Int.reduceEq,Tryd.facts,PostR_ret]
  intro k hk0 hk
  simp (disch := omega) only [↓aI,↓zP,aD,zD,aS,Nat.reduceBEq,Nat.reduceLT,reduceCtorEq,↓reduceIte,Nat.reduceMul,Nat.reduceAdd,Nat.reduceLeDiff,Nat.reduceEqDiff,Int.reduceToNat,Nat.reduceSub,Nat.reduceMod,Nat.reduceDiv,Int.reducePow,Int.reduceLE,Int.reduceNeg,Int.reduceLT,Int.reduceBEq,Int.reduceBNe,Int.reduceEq,Tryd.facts,hk0,hea,PostR_ret]
  intro k2 o2 hk20 hk2 ho2
  simp (disch := omega) only [↓aI,↓zP,aD,zD,aS,Nat.reduceBEq,Nat.reduceLT,reduceCtorEq,↓reduceIte,Nat.reduceMul,Nat.reduceAdd,Nat.reduceLeDiff,Nat.reduceEqDiff,Int.reduceToNat,Nat.reduceSub,Nat.reduceMod,Nat.reduceDiv,Int.reducePow,Int.reduceLE,Int.reduceNeg,Int.reduceLT,Int.reduceBEq,Int.reduceBNe,Int.reduceEq,Tryd.facts,hk20,ho2,hea,heb,PostR_ret]
  intro k3 o3 hk30 hk3 ho3
  simp (disch := omega) only [↓aI,↓zP,aD,zD,aS,Nat.reduceBEq,Nat.reduceLT,reduceCtorEq,↓reduceIte,Nat.reduceMul,Nat.reduceAdd,Nat.reduceLeDiff,Nat.reduceEqDiff,Int.reduceToNat,Nat.reduceSub,Nat.reduceMod,Nat.reduceDiv,Int.reducePow,Int.reduceLE,Int.reduceNeg,Int.reduceLT,Int.reduceBEq,Int.reduceBNe,Int.reduceEq,Tryd.facts,List.length_append,encB_append,PostR_ret]
  rw [ef (am hk2)]
  exact ⟨_,Abs.Sub.refl _,k3,o3,hk30,am hk3,rfl,ho3,set_get,Sub.set_new (am hk3)⟩
theorem dexpand_pure (key info : List UInt8) (hk : key.length ≤ 1000000) (hi : info.length ≤ 900000) : APure Tryd.prog 27 [eu key,eu info,.sc (.int .i64 32)] (.tup [eu (hmacM key (info ++ [1])),.sc (.int .i64 0)]) := by
  have h1 := small_pure
  have h3 := dmac_pure key (info ++ [1]) hk (by simp; omega)
  have hl := hmacM_len key (info ++ [1])
  have hil := gz info
  generalize hmacM key (info ++ [1]) = R at *
  have h4 := join_pure [] R (by simp) (by omega)
  rw [List.nil_append] at h4
  unfold kindS KS FS at *
  generalize digA keys256 = ks at *
  generalize digA first256 = fs at *
  unfold kindV at *
  refine az (c := ⟨Tryd.prog,41,[(8,[0,0,0,0,0,0,0,2,2,0,0]),(1000003,[8]),(2000008,[0,1,2,3,5,6,7,4,8,9,10])],[],[]⟩) (rs := [ResultVar.tmp 6,ResultVar.tmp 7]) Tryd.mixed Tryd.func27 rfl rfl rfl (Nat.le_of_ble_eq_true rfl) (by kernel_rfl) fun H => ?_
  simp (disch := omega) only [↓aI,↓zP,aD,zD,aS,Nat.reduceBEq,Nat.reduceLT,reduceCtorEq,↓reduceIte,Nat.reduceMul,Nat.reduceAdd,Nat.reduceLeDiff,Nat.reduceEqDiff,Int.reduceToNat,Nat.reduceSub,Nat.reduceMod,Nat.reduceDiv,Int.reducePow,Int.reduceLE,Int.reduceNeg,Int.reduceLT,Int.reduceBEq,Int.reduceBNe,Int.reduceEq,Tryd.facts,zA]
  first | refine CallK.p (h1) ?_ | refine CallP.i (h1) ?_
  simp (disch := omega) only [↓aI,↓zP,aD,zD,aS,Nat.reduceBEq,Nat.reduceLT,reduceCtorEq,↓reduceIte,Nat.reduceMul,Nat.reduceAdd,Nat.reduceLeDiff,Nat.reduceEqDiff,Int.reduceToNat,Nat.reduceSub,Nat.reduceMod,Nat.reduceDiv,Int.reducePow,Int.reduceLE,Int.reduceNeg,Int.reduceLT,Int.reduceBEq,Int.reduceBNe,Int.reduceEq,Tryd.facts]
  intro kb hkb0 hkb
  simp (disch := omega) only [↓aI,↓zP,aD,zD,aS,Nat.reduceBEq,Nat.reduceLT,reduceCtorEq,↓reduceIte,Nat.reduceMul,Nat.reduceAdd,Nat.reduceLeDiff,Nat.reduceEqDiff,Int.reduceToNat,Nat.reduceSub,Nat.reduceMod,Nat.reduceDiv,Int.reducePow,Int.reduceLE,Int.reduceNeg,Int.reduceLT,Int.reduceBEq,Int.reduceBNe,Int.reduceEq,Tryd.facts,ah]
  refine br (c := ⟨Tryd.prog,41,[(8,[0,0,0,0,0,0,0,2,2,0,0]),(1000003,[8]),(2000008,[0,1,2,3,5,6,7,4,8,9,10])],[],[]⟩) Tryd.mixed (by kernel_rfl) (fun m σ H' => Abs.Sub H H' ∧ σ 2 = .sc (.int .i64 32) ∧
    ((m = 1 ∧ σ 0 = eu key ∧ σ 1 = eu info ∧ σ 8 = .ip (AV.cellsOf (kindV (.imm 0 ks 64) (.imm 0 fs 8))) 0 ∧ σ 9 = .sc (.slice none 0 0) ∧ σ 10 = .sc (.slice none 0 0) ∧ σ 11 = .sc (.int .i64 1)) ∨
     (m = 0 ∧ σ 9 = eu R))) 1 ?_ ?_
  · simp (disch := omega) only [↓aI,↓zP,aD,zD,aS,Nat.reduceBEq,Nat.reduceLT,reduceCtorEq,↓reduceIte,Nat.reduceMul,Nat.reduceAdd,Nat.reduceLeDiff,Nat.reduceEqDiff,Int.reduceToNat,Nat.reduceSub,Nat.reduceMod,Nat.reduceDiv,Int.reducePow,Int.reduceLE,Int.reduceNeg,Int.reduceLT,Int.reduceBEq,Int.reduceBNe,Int.reduceEq,Tryd.facts,aj hkb,kindV]
    exact ⟨Abs.Sub.refl _,.inl trivial⟩
  · rintro m σ H' ⟨hsub,g2,hor⟩
    rcases hor with ⟨rfl,g0,g1,g8,g9,g10,g11⟩ | ⟨rfl,g9⟩
    · have hb : decide ((0 : Int) < 32) = true := by decide
      have hw : IntKind.u8.wrap 1 = 1 := by decide
      simp (disch := omega) only [↓aI,↓zP,aD,zD,aS,Nat.reduceBEq,Nat.reduceLT,reduceCtorEq,↓reduceIte,Nat.reduceMul,Nat.reduceAdd,Nat.reduceLeDiff,Nat.reduceEqDiff,Int.reduceToNat,Nat.reduceSub,Nat.reduceMod,Nat.reduceDiv,Int.reducePow,Int.reduceLE,Int.reduceNeg,Int.reduceLT,Int.reduceBEq,Int.reduceBNe,Int.reduceEq,Tryd.facts,g0,g1,g2,g8,g9,g10,g11,hb,hw,kindV]
      refine CallK.i (join_raw H' [] info (by simp) (by omega)) ?_
      rintro v E ⟨kj,oj,hkj0,hkj,rfl,hoj,hej,hsj⟩
      rw [List.nil_append,List.length_nil,Nat.zero_add] at *
      simp (disch := omega) only [↓aI,↓zP,aD,zD,aS,Nat.reduceBEq,Nat.reduceLT,reduceCtorEq,↓reduceIte,Nat.reduceMul,Nat.reduceAdd,Nat.reduceLeDiff,Nat.reduceEqDiff,Int.reduceToNat,Nat.reduceSub,Nat.reduceMod,Nat.reduceDiv,Int.reducePow,Int.reduceLE,Int.reduceNeg,Int.reduceLT,Int.reduceBEq,Int.reduceBNe,Int.reduceEq,Tryd.facts,g0,g1,g2,g8,g9,g10,g11,hkj0,hej,hoj,hil]
      intro k2 o2 hk20 hk2 ho2
      have hi1 : eu (info ++ [1]) = .imm 0 (bw info ++ [AV.sc (.int .u8 1)]) (info.length + 1) := by unfold eu; rw [List.length_append,← encB_append]; rfl
      rw [hi1] at h3
      first | refine CallK.p (h3) ?_ | refine CallP.i (h3) ?_
      simp (disch := omega) only [↓aI,↓zP,aD,zD,aS,Nat.reduceBEq,Nat.reduceLT,reduceCtorEq,↓reduceIte,Nat.reduceMul,Nat.reduceAdd,Nat.reduceLeDiff,Nat.reduceEqDiff,Int.reduceToNat,Nat.reduceSub,Nat.reduceMod,Nat.reduceDiv,Int.reducePow,Int.reduceLE,Int.reduceNeg,Int.reduceLT,Int.reduceBEq,Int.reduceBNe,Int.reduceEq,Tryd.facts,g0,g1,g2,g8,g9,g10,g11,kindV]
      have hEk : Abs.Sub H ((E.kill kj).set k2 o2) := by
        have h1 := hsub.trans hsj
        have n1 : H kj = none := hsub.free hkj
        exact (h1.kill_free n1).set_free (h1.free hk2)
      first | refine CallK.p (h4) ?_ | refine CallP.i (h4) ?_
      simp (disch := omega) only [↓aI,↓zP,aD,zD,aS,Nat.reduceBEq,Nat.reduceLT,reduceCtorEq,↓reduceIte,Nat.reduceMul,Nat.reduceAdd,Nat.reduceLeDiff,Nat.reduceEqDiff,Int.reduceToNat,Nat.reduceSub,Nat.reduceMod,Nat.reduceDiv,Int.reducePow,Int.reduceLE,Int.reduceNeg,Int.reduceLT,Int.reduceBEq,Int.reduceBNe,Int.reduceEq,Tryd.facts,g0,g1,g2,g8,g9,g10,g11,kindV]
      exact ⟨0,by omega,hEk,.inr rfl⟩
    · have hb : decide ((32 : Int) < 32) = false := by decide
      have hb2 : decide ((R.length : Int) < 32) = false := by rw [hl]; decide
      have her := gz R
      simp (disch := omega) only [↓aI,↓zP,aD,zD,aS,Nat.reduceBEq,Nat.reduceLT,reduceCtorEq,↓reduceIte,Nat.reduceMul,Nat.reduceAdd,Nat.reduceLeDiff,Nat.reduceEqDiff,Int.reduceToNat,Nat.reduceSub,Nat.reduceMod,Nat.reduceDiv,Int.reducePow,Int.reduceLE,Int.reduceNeg,Int.reduceLT,Int.reduceBEq,Int.reduceBNe,Int.reduceEq,Tryd.facts,g2,g9,hb,hb2,her,hl]
      refine ⟨?_,hsub⟩
      rw [List.take_of_length_le (by rw [her,hl]; exact Nat.le_refl _)]
      unfold eu
      rw [hl]
theorem dderive_pure (key info : List UInt8) (hk : key.length ≤ 1000000) (hi : info.length ≤ 900000) : APure Tryd.prog 19 [eu [],eu key,eu info,.sc (.int .i64 32)] (.tup [eu (derivM key info),.sc (.int .i64 0)]) := by
  have h1 := dextract_pure key hk
  have hl := hmacM_len [] key
  have h2 := dexpand_pure (hmacM [] key) info (by omega) hi
  unfold derivM
  refine az (c := ⟨Tryd.prog,18,[],[],[]⟩) (rs := [ResultVar.tmp 8,ResultVar.tmp 9]) Tryd.mixed Tryd.func19 rfl rfl rfl (Nat.le_of_ble_eq_true rfl) (by kernel_rfl) fun H => ?_
  simp (disch := omega) only [↓aI,↓zP,aD,zD,aS,Nat.reduceBEq,Nat.reduceLT,reduceCtorEq,↓reduceIte,Nat.reduceMul,Nat.reduceAdd,Nat.reduceLeDiff,Nat.reduceEqDiff,Int.reduceToNat,Nat.reduceSub,Nat.reduceMod,Nat.reduceDiv,Int.reducePow,Int.reduceLE,Int.reduceNeg,Int.reduceLT,Int.reduceBEq,Int.reduceBNe,Int.reduceEq,Tryd.facts]
  first | refine CallK.p (h1) ?_ | refine CallP.i (h1) ?_
  simp (disch := omega) only [↓aI,↓zP,aD,zD,aS,Nat.reduceBEq,Nat.reduceLT,reduceCtorEq,↓reduceIte,Nat.reduceMul,Nat.reduceAdd,Nat.reduceLeDiff,Nat.reduceEqDiff,Int.reduceToNat,Nat.reduceSub,Nat.reduceMod,Nat.reduceDiv,Int.reducePow,Int.reduceLE,Int.reduceNeg,Int.reduceLT,Int.reduceBEq,Int.reduceBNe,Int.reduceEq,Tryd.facts]
  first | refine CallK.p (h2) ?_ | refine CallP.i (h2) ?_
  simp (disch := omega) only [↓aI,↓zP,aD,zD,aS,Nat.reduceBEq,Nat.reduceLT,reduceCtorEq,↓reduceIte,Nat.reduceMul,Nat.reduceAdd,Nat.reduceLeDiff,Nat.reduceEqDiff,Int.reduceToNat,Nat.reduceSub,Nat.reduceMod,Nat.reduceDiv,Int.reducePow,Int.reduceLE,Int.reduceNeg,Int.reduceLT,Int.reduceBEq,Int.reduceBNe,Int.reduceEq,Tryd.facts]
  first | exact Abs.Sub.refl _ | trace_state
theorem dhash_pure (b : List UInt8) (hb : b.length ≤ 10000000) : APure Tryd.prog 10 [eu b] (eu (shaM b)) := by
  have h1 := dsum256_pure b (by omega)
  refine az (c := ⟨Tryd.prog,5,[],[],[]⟩) (rs := [ResultVar.tmp 2]) Tryd.mixed Tryd.func10 rfl rfl rfl (Nat.le_of_ble_eq_true rfl) (by kernel_rfl) fun H => ?_
  simp (disch := omega) only [↓aI,↓zP,aD,zD,aS,Nat.reduceBEq,Nat.reduceLT,reduceCtorEq,↓reduceIte,Nat.reduceMul,Nat.reduceAdd,Nat.reduceLeDiff,Nat.reduceEqDiff,Int.reduceToNat,Nat.reduceSub,Nat.reduceMod,Nat.reduceDiv,Int.reducePow,Int.reduceLE,Int.reduceNeg,Int.reduceLT,Int.reduceBEq,Int.reduceBNe,Int.reduceEq,Tryd.facts]
  first | refine CallK.p (h1) ?_ | refine CallP.i (h1) ?_
  simp (disch := omega) only [↓aI,↓zP,aD,zD,aS,Nat.reduceBEq,Nat.reduceLT,reduceCtorEq,↓reduceIte,Nat.reduceMul,Nat.reduceAdd,Nat.reduceLeDiff,Nat.reduceEqDiff,Int.reduceToNat,Nat.reduceSub,Nat.reduceMod,Nat.reduceDiv,Int.reducePow,Int.reduceLE,Int.reduceNeg,Int.reduceLT,Int.reduceBEq,Int.reduceBNe,Int.reduceEq,Tryd.facts]
  first | exact Abs.Sub.refl _ | trace_state
theorem ddraw_pure (seed : List UInt8) (k : Nat) (hs : seed.length ≤ 1000000) (hk : k ≤ 1000000) : APure Tryd.prog 8 [eu seed,.sc (.int .i64 k)] (eu (derivM seed ([100,114,97,119] ++ fh 8 k))) := by
  have h1 := Eight_pure k (by omega)
  have hll : (fh 8 k).length = 8 := fe ..
  have h2 := join_pure [100,114,97,119] (fh 8 k) (by simp) (by omega)
  have h3 := dderive_pure seed ([100,114,97,119] ++ fh 8 k) hs (by simp [hll])
  generalize fh 8 k = lw at *
  refine az (c := ⟨Tryd.prog,17,[],[],[]⟩) (rs := [ResultVar.tmp 4]) Tryd.mixed Tryd.func8 rfl rfl rfl (Nat.le_of_ble_eq_true rfl) (by kernel_rfl) fun H => ?_
  simp (disch := omega) only [↓aI,↓zP,aD,zD,aS,Nat.reduceBEq,Nat.reduceLT,reduceCtorEq,↓reduceIte,Nat.reduceMul,Nat.reduceAdd,Nat.reduceLeDiff,Nat.reduceEqDiff,Int.reduceToNat,Nat.reduceSub,Nat.reduceMod,Nat.reduceDiv,Int.reducePow,Int.reduceLE,Int.reduceNeg,Int.reduceLT,Int.reduceBEq,Int.reduceBNe,Int.reduceEq,Tryd.facts]
  first | refine CallK.p (h1) ?_ | refine CallP.i (h1) ?_
  simp (disch := omega) only [↓aI,↓zP,aD,zD,aS,Nat.reduceBEq,Nat.reduceLT,reduceCtorEq,↓reduceIte,Nat.reduceMul,Nat.reduceAdd,Nat.reduceLeDiff,Nat.reduceEqDiff,Int.reduceToNat,Nat.reduceSub,Nat.reduceMod,Nat.reduceDiv,Int.reducePow,Int.reduceLE,Int.reduceNeg,Int.reduceLT,Int.reduceBEq,Int.reduceBNe,Int.reduceEq,Tryd.facts]
  first | refine CallK.p (h2) ?_ | refine CallP.i (h2) ?_
  simp (disch := omega) only [↓aI,↓zP,aD,zD,aS,Nat.reduceBEq,Nat.reduceLT,reduceCtorEq,↓reduceIte,Nat.reduceMul,Nat.reduceAdd,Nat.reduceLeDiff,Nat.reduceEqDiff,Int.reduceToNat,Nat.reduceSub,Nat.reduceMod,Nat.reduceDiv,Int.reducePow,Int.reduceLE,Int.reduceNeg,Int.reduceLT,Int.reduceBEq,Int.reduceBNe,Int.reduceEq,Tryd.facts]
  first | refine CallK.p (h3) ?_ | refine CallP.i (h3) ?_
  simp (disch := omega) only [↓aI,↓zP,aD,zD,aS,Nat.reduceBEq,Nat.reduceLT,reduceCtorEq,↓reduceIte,Nat.reduceMul,Nat.reduceAdd,Nat.reduceLeDiff,Nat.reduceEqDiff,Int.reduceToNat,Nat.reduceSub,Nat.reduceMod,Nat.reduceDiv,Int.reducePow,Int.reduceLE,Int.reduceNeg,Int.reduceLT,Int.reduceBEq,Int.reduceBNe,Int.reduceEq,Tryd.facts]
  first | exact Abs.Sub.refl _ | trace_state
theorem dderiv_yes (key info : List UInt8) (hk : key.length = 32) (hi : info.length ≤ 900000) : APure Tryd.prog 12 [eu key,eu info] (eu (derivM key info)) := by
  have h1 := dderive_pure key info (by omega) hi
  have hb : ((key.length : Int) != 32) = false := by rw [hk]; rfl
  refine az (c := ⟨Tryd.prog,17,[],[],[]⟩) (rs := [ResultVar.tmp 4]) Tryd.mixed Tryd.func12 rfl rfl rfl (Nat.le_of_ble_eq_true rfl) (by kernel_rfl) fun H => ?_
  simp (disch := omega) only [↓aI,↓zP,aD,zD,aS,Nat.reduceBEq,Nat.reduceLT,reduceCtorEq,↓reduceIte,Nat.reduceMul,Nat.reduceAdd,Nat.reduceLeDiff,Nat.reduceEqDiff,Int.reduceToNat,Nat.reduceSub,Nat.reduceMod,Nat.reduceDiv,Int.reducePow,Int.reduceLE,Int.reduceNeg,Int.reduceLT,Int.reduceBEq,Int.reduceBNe,Int.reduceEq,Tryd.facts,hb]
  first | refine CallK.p (h1) ?_ | refine CallP.i (h1) ?_
  simp (disch := omega) only [↓aI,↓zP,aD,zD,aS,Nat.reduceBEq,Nat.reduceLT,reduceCtorEq,↓reduceIte,Nat.reduceMul,Nat.reduceAdd,Nat.reduceLeDiff,Nat.reduceEqDiff,Int.reduceToNat,Nat.reduceSub,Nat.reduceMod,Nat.reduceDiv,Int.reducePow,Int.reduceLE,Int.reduceNeg,Int.reduceLT,Int.reduceBEq,Int.reduceBNe,Int.reduceEq,Tryd.facts]
  first | exact Abs.Sub.refl _ | trace_state
theorem dderiv_no (key info : List UInt8) (hk : ¬ key.length = 32) : APure Tryd.prog 12 [eu key,eu info] (eu []) := by
  have hb : ((key.length : Int) != 32) = true := by simp; omega
  refine az (c := ⟨Tryd.prog,17,[],[],[]⟩) (rs := [ResultVar.tmp 4]) Tryd.mixed Tryd.func12 rfl rfl rfl (Nat.le_of_ble_eq_true rfl) (by kernel_rfl) fun H => ?_
  simp (disch := omega) only [↓aI,↓zP,aD,zD,aS,Nat.reduceBEq,Nat.reduceLT,reduceCtorEq,↓reduceIte,Nat.reduceMul,Nat.reduceAdd,Nat.reduceLeDiff,Nat.reduceEqDiff,Int.reduceToNat,Nat.reduceSub,Nat.reduceMod,Nat.reduceDiv,Int.reducePow,Int.reduceLE,Int.reduceNeg,Int.reduceLT,Int.reduceBEq,Int.reduceBNe,Int.reduceEq,Tryd.facts,hb]
  exact ⟨rfl,Abs.Sub.refl _⟩
end Go.Proofs.YtejncnmdjkhiaaaDoor
