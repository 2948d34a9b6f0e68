/-
  The document's SHA-256.
  Conditions: none. Lemmas only.
-/
import Derived.Test.YtejncnmdjkhiaaaDoorShaX
import Derived.Test.YtejncnmdjkhiaaaDoorLetG1
set_option linter.all false
set_option linter.unusedSimpArgs false
set_option linter.unusedVariables false
set_option maxRecDepth 20000
set_option maxHeartbeats 4000000
namespace Go.Proofs.YtejncnmdjkhiaaaDoor
open Go Go.Abs Go.Proofs Go.Sha
theorem lenB_take (n : Nat) {j : Nat} (h : j < 8) : (lenB n).take (j + 1) = (lenB n).take j ++ [UInt8.ofNat (n * 8 / 2 ^ (56 - 8 * j))] := by
  match j,h with
  | 0,_ | 1,_ | 2,_ | 3,_ | 4,_ | 5,_ | 6,_ => rfl
  | 7,_ =>
    show _ = _ ++ [UInt8.ofNat (n * 8 / 2 ^ 0)]
    rw [Nat.pow_zero,Nat.div_one]
    rfl
theorem told_at (s : St) {i j : Nat} (hi : i < 8) (hj : j < 4) : (toldM s).take (4 * i + j + 1) = (toldM s).take (4 * i + j) ++ [UInt8.ofNat ((stL s).getD i 0 / 2 ^ (24 - 8 * j))] := by
  match j,hj with
  | 0,_ | 1,_ | 2,_ =>
    match i,hi with
    | 0,_ | 1,_ | 2,_ | 3,_ | 4,_ | 5,_ | 6,_ | 7,_ => rfl
  | 3,_ =>
    rw [show 24 - 8 * 3 = 0 from rfl,Nat.pow_zero,Nat.div_one]
    match i,hi with
    | 0,_ | 1,_ | 2,_ | 3,_ | 4,_ | 5,_ | 6,_ | 7,_ => rfl
theorem told_len (s : St) : (toldM s).length = 32 := rfl
theorem ofNat_mod (x : Nat) : UInt8.ofNat (x % 256) = UInt8.ofNat x := UInt8.toNat.inj (by simp)
def padZ (b : List UInt8) (j : Nat) : List UInt8 := b ++ [128] ++ List.replicate j 0
theorem padZ_len (b : List UInt8) (j : Nat) : (padZ b j).length = b.length + 1 + j := by simp [padZ]; omega
theorem padZ_snoc (b : List UInt8) (j : Nat) : padZ b (j + 1) = padZ b j ++ [0] := by simp [padZ,List.replicate_succ']
theorem dsum_pure (b : List UInt8) (hb : b.length ≤ 100000000) : APure Tryd.prog 34 [kindS,eu b] (eu (shaM b)) := by
  have hblk := fun v hv c hc => dblock_pure v hv c hc
  unfold eu kindS KS FS at *
  rw [show digA first256 = digA (stL firstS) from rfl] at *
  generalize hks : digA keys256 = ks at *
  have hel := gz b
  refine az (c := ⟨Tryd.prog,101,[(17,[1,0,0,0,0,0,0,0,0,0]),(1000000,[2]),(4000025,[2,9,11,12,13]),(4000017,[2,5,6,9,10]),(4000012,[1,2,5,6,8]),(4000006,[1,2,5,6,7,38]),(4000003,[1,2,5,6,30]),(4000002,[1,2,5,6])],[17],[]⟩) (rs := [ResultVar.tmp 4]) Tryd.mixed Tryd.func34 rfl rfl rfl (Nat.le_of_ble_eq_true rfl) (by kernel_rfl) fun H => ?_
  simp (disch := omega) only [↓aI,↓zP,aD,zD,aS,Nat.reduceBEq,Nat.reduceLT,reduceCtorEq,↓reduceIte,Nat.reduceMul,Nat.reduceAdd,Nat.reduceLeDiff,Nat.reduceEqDiff,Int.reduceToNat,Nat.reduceSub,Nat.reduceMod,Nat.reduceDiv,Int.reducePow,Int.reduceLE,Int.reduceNeg,Int.reduceLT,Int.reduceBEq,Int.reduceBNe,Int.reduceEq,Tryd.facts,kindV]
  intro k hk0 hk k2 hk20 hk2
  simp (disch := omega) only [↓aI,↓zP,aD,zD,aS,Nat.reduceBEq,Nat.reduceLT,reduceCtorEq,↓reduceIte,Nat.reduceMul,Nat.reduceAdd,Nat.reduceLeDiff,Nat.reduceEqDiff,Int.reduceToNat,Nat.reduceSub,Nat.reduceMod,Nat.reduceDiv,Int.reducePow,Int.reduceLE,Int.reduceNeg,Int.reduceLT,Int.reduceBEq,Int.reduceBNe,Int.reduceEq,Tryd.facts,hk20,kindV]
  intro k3 o3 hk30 hk3 ho3
  simp (disch := omega) only [↓aI,↓zP,aD,zD,aS,Nat.reduceBEq,Nat.reduceLT,reduceCtorEq,↓reduceIte,Nat.reduceMul,Nat.reduceAdd,Nat.reduceLeDiff,Nat.reduceEqDiff,Int.reduceToNat,Nat.reduceSub,Nat.reduceMod,Nat.reduceDiv,Int.reducePow,Int.reduceLE,Int.reduceNeg,Int.reduceLT,Int.reduceBEq,Int.reduceBNe,Int.reduceEq,Tryd.facts,hk30,ho3,kindV,encB_snoc]
  intro k4 o4 hk40 hk4 ho4
  rw [ef hk] at hk2
  have h32 : IntKind.i64.wrap (Int.tdiv 32 4) = 8 := by decide
  refine br (c := ⟨Tryd.prog,101,[(17,[1,0,0,0,0,0,0,0,0,0]),(1000000,[2]),(4000025,[2,9,11,12,13]),(4000017,[2,5,6,9,10]),(4000012,[1,2,5,6,8]),(4000006,[1,2,5,6,7,38]),(4000003,[1,2,5,6,30]),(4000002,[1,2,5,6])],[17],[]⟩) Tryd.mixed (by kernel_rfl) (fun m σ H' => ∃ j : Nat,j + m = zerosN b.length ∧ σ 1 = .imm 0 (bw b) b.length ∧ σ 2 = AV.ip (AV.cellsOf (kindV (.imm 0 ks 64) (.imm 0 (digA (stL firstS)) 8))) 0 ∧ σ 5 = .sc (.int .i64 64) ∧ ∃ k o,k ≠ 0 ∧ H k = none ∧ H' = H.set k o ∧ cy 5 1 o (b.length + 1 + j) ∧ σ 6 = .imm k (bw (padZ b j)) (b.length + 1 + j)) (zerosN b.length) ?_ ?_
  · refine ⟨0,by omega,?_⟩
    simp (disch := omega) only [↓aI,↓zP,aD,zD,aS,Nat.reduceBEq,Nat.reduceLT,reduceCtorEq,↓reduceIte,Nat.reduceMul,Nat.reduceAdd,Nat.reduceLeDiff,Nat.reduceEqDiff,Int.reduceToNat,Nat.reduceSub,Nat.reduceMod,Nat.reduceDiv,Int.reducePow,Int.reduceLE,Int.reduceNeg,Int.reduceLT,Int.reduceBEq,Int.reduceBNe,Int.reduceEq,Tryd.facts,kindV]
    rw [ef hk2] at hk4
    exact ⟨rfl,k4,o4,hk40,am hk4,by rw [ef (am hk3)],ho4,by rw [show padZ b 0 = b ++ [128] by simp [padZ],← encB_append]; rfl⟩
  · rintro m σ H' ⟨j,hj,g1,g2,g5,k,o,hk0,hk,rfl,ho,g6⟩
    have hzl : (bw (padZ b j)).length = b.length + 1 + j := by rw [gz,padZ_len]
    have w1 : IntKind.i64.wrap (((b.length + 1 + j : Nat) : Int) + 8) = ((b.length + 1 + j + 8 : Nat) : Int) := by rw [iw (by unfold zerosN at hj; omega)]; rfl
    have hzn : zerosN b.length < 64 := Nat.mod_lt _ (by decide)
    by_cases hlt : j < zerosN b.length
    · have hne : ((((b.length + 1 + j + 8) % 64 : Nat) : Int) != 0) = true := nT (by unfold zerosN at hlt; omega)
      simp (disch := omega) only [↓aI,↓zP,aD,zD,aS,Nat.reduceBEq,Nat.reduceLT,reduceCtorEq,↓reduceIte,Nat.reduceMul,Nat.reduceAdd,Nat.reduceLeDiff,Nat.reduceEqDiff,Int.reduceToNat,Nat.reduceSub,Nat.reduceMod,Nat.reduceDiv,Int.reducePow,Int.reduceLE,Int.reduceNeg,Int.reduceLT,Int.reduceBEq,Int.reduceBNe,Int.reduceEq,Tryd.facts,g1,g2,g5,g6,kindV,h32,w1,jd,hne,hk0,ho,hzl]
      intro k' o' hk0' hk' ho'
      exact ⟨m - 1,by omega,j + 1,by omega,k',o',hk0',am hk',rfl,ho',by rw [padZ_snoc,← encB_append]; rfl⟩
    · obtain rfl : j = zerosN b.length := by omega
      have hne : ((((b.length + 1 + zerosN b.length + 8) % 64 : Nat) : Int) != 0) = false := nF (by unfold zerosN; omega)
      simp (disch := omega) only [↓aI,↓zP,aD,zD,aS,Nat.reduceBEq,Nat.reduceLT,reduceCtorEq,↓reduceIte,Nat.reduceMul,Nat.reduceAdd,Nat.reduceLeDiff,Nat.reduceEqDiff,Int.reduceToNat,Nat.reduceSub,Nat.reduceMod,Nat.reduceDiv,Int.reducePow,Int.reduceLE,Int.reduceNeg,Int.reduceLT,Int.reduceBEq,Int.reduceBNe,Int.reduceEq,Tryd.facts,g1,g2,g5,g6,kindV,h32,w1,jd,hne]
      have hpe : padS b b.length = padZ b (zerosN b.length) ++ lenB b.length := rfl
      have hN8 : (b.length + 1 + zerosN b.length + 8) % 64 = 0 := by unfold zerosN; omega
      have hpl := padZ_len b (zerosN b.length)
      generalize padZ b (zerosN b.length) = P1 at *
      generalize hN1 : b.length + 1 + zerosN b.length = N1 at *
      have hN1l : N1 ≤ 100000100 := by omega
      refine br (c := ⟨Tryd.prog,101,[(17,[1,0,0,0,0,0,0,0,0,0]),(1000000,[2]),(4000025,[2,9,11,12,13]),(4000017,[2,5,6,9,10]),(4000012,[1,2,5,6,8]),(4000006,[1,2,5,6,7,38]),(4000003,[1,2,5,6,30]),(4000002,[1,2,5,6])],[17],[]⟩) Tryd.mixed (by kernel_rfl) (fun m2 σ2 H2 => m2 = 0 ∧ σ2 1 = .imm 0 (bw b) b.length ∧ σ2 2 = AV.ip (AV.cellsOf (kindV (.imm 0 ks 64) (.imm 0 (digA (stL firstS)) 8))) 0 ∧ σ2 5 = .sc (.int .i64 64) ∧ σ2 7 = .sc (.int .i64 8) ∧ H2 = H.set k o ∧ σ2 6 = .imm k (bw P1) N1) 0 ?_ ?_
      · simp (disch := omega) only [↓aI,↓zP,aD,zD,aS,Nat.reduceBEq,Nat.reduceLT,reduceCtorEq,↓reduceIte,Nat.reduceMul,Nat.reduceAdd,Nat.reduceLeDiff,Nat.reduceEqDiff,Int.reduceToNat,Nat.reduceSub,Nat.reduceMod,Nat.reduceDiv,Int.reducePow,Int.reduceLE,Int.reduceNeg,Int.reduceLT,Int.reduceBEq,Int.reduceBNe,Int.reduceEq,Tryd.facts,g1,g2,g5,g6,kindV]
      · rintro m2 σ2 H2 ⟨rfl,q1,q2,q5,q7,rfl,q6⟩
        simp (disch := omega) only [↓aI,↓zP,aD,zD,aS,Nat.reduceBEq,Nat.reduceLT,reduceCtorEq,↓reduceIte,Nat.reduceMul,Nat.reduceAdd,Nat.reduceLeDiff,Nat.reduceEqDiff,Int.reduceToNat,Nat.reduceSub,Nat.reduceMod,Nat.reduceDiv,Int.reducePow,Int.reduceLE,Int.reduceNeg,Int.reduceLT,Int.reduceBEq,Int.reduceBNe,Int.reduceEq,Tryd.facts,q1,q2,q5,q6,q7,kindV,h32]
        refine br (c := ⟨Tryd.prog,101,[(17,[1,0,0,0,0,0,0,0,0,0]),(1000000,[2]),(4000025,[2,9,11,12,13]),(4000017,[2,5,6,9,10]),(4000012,[1,2,5,6,8]),(4000006,[1,2,5,6,7,38]),(4000003,[1,2,5,6,30]),(4000002,[1,2,5,6])],[17],[]⟩) Tryd.mixed (by kernel_rfl) (fun m2 σ2 H2 => ∃ (j : Nat) (z : Int),j + m2 = 8 ∧ z = 7 - (j : Int) ∧ σ2 1 = .imm 0 (bw b) b.length ∧ σ2 2 = AV.ip (AV.cellsOf (kindV (.imm 0 ks 64) (.imm 0 (digA (stL firstS)) 8))) 0 ∧ σ2 5 = .sc (.int .i64 64) ∧ σ2 8 = .sc (.int .i64 z) ∧ ∃ k o,k ≠ 0 ∧ H k = none ∧ H2 = H.set k o ∧ cy 5 1 o (N1 + j) ∧ σ2 6 = .imm k (bw (P1 ++ (lenB b.length).take j)) (N1 + j)) 8 ?_ ?_
        · refine ⟨0,7,by omega,by omega,?_⟩
          simp (disch := omega) only [↓aI,↓zP,aD,zD,aS,Nat.reduceBEq,Nat.reduceLT,reduceCtorEq,↓reduceIte,Nat.reduceMul,Nat.reduceAdd,Nat.reduceLeDiff,Nat.reduceEqDiff,Int.reduceToNat,Nat.reduceSub,Nat.reduceMod,Nat.reduceDiv,Int.reducePow,Int.reduceLE,Int.reduceNeg,Int.reduceLT,Int.reduceBEq,Int.reduceBNe,Int.reduceEq,Tryd.facts,q1,q2,q5,q6,q7,kindV]
          exact ⟨k,o,hk0,hk,rfl,ho,by simp⟩
        · clear q1 q2 q5 q6 q7 g1 g2 g5 g6 ho hk hk0 hzl
          clear k o
          rintro m3 σ3 H3 ⟨j,z,hj,hz,q1,q2,q5,q8,k,o,hk0,hk,rfl,ho,q6⟩
          have hjl : (bw (P1 ++ (lenB b.length).take j)).length = N1 + j := by rw [gz,List.length_append,List.length_take,hpl]; show _ + min j 8 = _; omega
          by_cases hlt : j < 8
          · have htk := lenB_take b.length hlt
            obtain ⟨r,hr⟩ : ∃ r : Nat,r = 7 - j := ⟨_,rfl⟩
            obtain rfl : z = (r : Int) := by omega
            have hb3 : decide ((0 : Int) ≤ (r : Int)) = true := by simp
            have w1 : IntKind.i64.wrap (8 * (r : Int)) = ((8 * r : Nat) : Int) := by rw [iw (by omega)]; omega
            have w2 : IntKind.u64.wrap (b.length : Int) = (b.length : Int) := jw (by omega)
            have w3 : IntKind.u64.wrap ((b.length : Int) * 8) = ((b.length * 8 : Nat) : Int) := umul64n (n := 8) (by show b.length * 8 < _; omega)
            have c1 := shift_pure (b.length * 8) (8 * r) (by omega) (by omega)
            rw [show 56 - 8 * j = 8 * r by omega] at htk
            generalize hsx : b.length * 8 / 2 ^ (8 * r) = sx at *
            generalize hlb : (lenB b.length).take (j + 1) = l2 at *
            generalize (lenB b.length).take j = l1 at *
            simp (disch := omega) only [↓aI,↓zP,aD,zD,aS,Nat.reduceBEq,Nat.reduceLT,reduceCtorEq,↓reduceIte,Nat.reduceMul,Nat.reduceAdd,Nat.reduceLeDiff,Nat.reduceEqDiff,Int.reduceToNat,Nat.reduceSub,Nat.reduceMod,Nat.reduceDiv,Int.reducePow,Int.reduceLE,Int.reduceNeg,Int.reduceLT,Int.reduceBEq,Int.reduceBNe,Int.reduceEq,Tryd.facts,q1,q2,q5,q6,q8,kindV,hb3,w1,w2,w3,hel]
            first | refine CallK.p (c1) ?_ | refine CallP.i (c1) ?_
            simp (disch := omega) only [↓aI,↓zP,aD,zD,aS,Nat.reduceBEq,Nat.reduceLT,reduceCtorEq,↓reduceIte,Nat.reduceMul,Nat.reduceAdd,Nat.reduceLeDiff,Nat.reduceEqDiff,Int.reduceToNat,Nat.reduceSub,Nat.reduceMod,Nat.reduceDiv,Int.reducePow,Int.reduceLE,Int.reduceNeg,Int.reduceLT,Int.reduceBEq,Int.reduceBNe,Int.reduceEq,Tryd.facts,q1,q2,q5,q6,q8,kindV,hb3,w1,w2,w3,jd,jC,hk0,ho,hjl]
            intro k' o' hk0' hk' ho'
            have hl1 : P1.length + l1.length = N1 + j := by rw [gz,List.length_append] at hjl; exact hjl
            rw [hl1] at ho'
            exact ⟨m3 - 1,by omega,j + 1,(r : Int) - 1,by omega,by omega,rfl,k',o',hk0',am hk',rfl,ho',by rw [hlb,htk,← List.append_assoc,ofNat_mod]; rfl⟩
          · obtain rfl : j = 8 := by omega
            obtain rfl : z = -1 := by omega
            have hb3 : decide ((0 : Int) ≤ -1) = false := by decide
            rw [show (lenB b.length).take 8 = lenB b.length from rfl,← hpe] at q6
            simp (disch := omega) only [↓aI,↓zP,aD,zD,aS,Nat.reduceBEq,Nat.reduceLT,reduceCtorEq,↓reduceIte,Nat.reduceMul,Nat.reduceAdd,Nat.reduceLeDiff,Nat.reduceEqDiff,Int.reduceToNat,Nat.reduceSub,Nat.reduceMod,Nat.reduceDiv,Int.reducePow,Int.reduceLE,Int.reduceNeg,Int.reduceLT,Int.reduceBEq,Int.reduceBNe,Int.reduceEq,Tryd.facts,q1,q2,q5,q6,q8,kindV,hb3]
            have hpn : (padS b b.length).length = N1 + 8 := by rw [← hjl,show (lenB b.length).take 8 = lenB b.length from rfl,← hpe,gz]
            have hpm := padS_len b b.length
            have hsh : shaM b = toldM (blocksM firstS (padS b b.length) ((padS b b.length).length / 64)) := rfl
            have hfo : OkS firstS := ⟨by decide,by decide,by decide,by decide,by decide,by decide,by decide,by decide⟩
            have hbo := fun i => blocksM_ok hfo (padS b b.length) i
            have hbs : ∀ i,blocksM firstS (padS b b.length) (i + 1) = blockM (blocksM firstS (padS b b.length) i) (((padS b b.length).drop (i * 64)).take 64) := fun i => rfl
            have hb0 : blocksM firstS (padS b b.length) 0 = firstS := rfl
            rw [hsh]
            generalize padS b b.length = p at *
            have hpl2 := gz p
            rw [← hpn] at q6 ho
            obtain ⟨nb,hnb⟩ : ∃ nb,nb = p.length / 64 := ⟨_,rfl⟩
            rw [← hnb]
            refine br (c := ⟨Tryd.prog,101,[(17,[1,0,0,0,0,0,0,0,0,0]),(1000000,[2]),(4000025,[2,9,11,12,13]),(4000017,[2,5,6,9,10]),(4000012,[1,2,5,6,8]),(4000006,[1,2,5,6,7,38]),(4000003,[1,2,5,6,30]),(4000002,[1,2,5,6])],[17],[]⟩) Tryd.mixed (by kernel_rfl) (fun m4 σ4 H4 => ∃ i : Nat,i + m4 = nb ∧ σ4 2 = AV.ip (AV.cellsOf (kindV (.imm 0 ks 64) (.imm 0 (digA (stL firstS)) 8))) 0 ∧ σ4 5 = .sc (.int .i64 64) ∧ σ4 10 = .sc (.int .i64 (i * 64 : Nat)) ∧ H4 = H.set k o ∧ σ4 6 = .imm k (bw p) p.length ∧ σ4 9 = .imm 0 (digA (stL (blocksM firstS p i))) 8) nb ?_ ?_
            · refine ⟨0,by omega,?_⟩
              simp (disch := omega) only [↓aI,↓zP,aD,zD,aS,Nat.reduceBEq,Nat.reduceLT,reduceCtorEq,↓reduceIte,Nat.reduceMul,Nat.reduceAdd,Nat.reduceLeDiff,Nat.reduceEqDiff,Int.reduceToNat,Nat.reduceSub,Nat.reduceMod,Nat.reduceDiv,Int.reducePow,Int.reduceLE,Int.reduceNeg,Int.reduceLT,Int.reduceBEq,Int.reduceBNe,Int.reduceEq,Tryd.facts,q1,q2,q5,q6,q8,kindV]
              rfl
            · rintro m4 σ4 H4 ⟨i,hi,r2,r5,r10,rfl,r6,r9⟩
              by_cases hil : i < nb
              · have hb4 : decide (((i * 64 : Nat) : Int) < (p.length : Int)) = true := dT (by omega)
                have w1 : IntKind.i64.wrap (((i * 64 : Nat) : Int) + 64) = ((i * 64 + 64 : Nat) : Int) := by rw [iw (by omega)]; rfl
                have hcl : ((p.drop (i * 64)).take 64).length = 64 := by rw [List.length_take,List.length_drop]; omega
                have c1 := hblk _ (hbo i) _ hcl
                have hst := hbs i
                generalize hcc : (p.drop (i * 64)).take 64 = cc at *
                simp (disch := omega) only [↓aI,↓zP,aD,zD,aS,Nat.reduceBEq,Nat.reduceLT,reduceCtorEq,↓reduceIte,Nat.reduceMul,Nat.reduceAdd,Nat.reduceLeDiff,Nat.reduceEqDiff,Int.reduceToNat,Nat.reduceSub,Nat.reduceMod,Nat.reduceDiv,Int.reducePow,Int.reduceLE,Int.reduceNeg,Int.reduceLT,Int.reduceBEq,Int.reduceBNe,Int.reduceEq,Tryd.facts,r2,r5,r10,r6,r9,kindV,hb4,w1,hpl2]
                rw [show i * 64 + 64 - i * 64 = 64 by omega,encB_drop,encB_take,hcc]
                first | refine CallK.p (c1) ?_ | refine CallP.i (c1) ?_
                simp (disch := omega) only [↓aI,↓zP,aD,zD,aS,Nat.reduceBEq,Nat.reduceLT,reduceCtorEq,↓reduceIte,Nat.reduceMul,Nat.reduceAdd,Nat.reduceLeDiff,Nat.reduceEqDiff,Int.reduceToNat,Nat.reduceSub,Nat.reduceMod,Nat.reduceDiv,Int.reducePow,Int.reduceLE,Int.reduceNeg,Int.reduceLT,Int.reduceBEq,Int.reduceBNe,Int.reduceEq,Tryd.facts,r2,r5,r10,r6,r9,kindV,w1]
                exact ⟨m4 - 1,by omega,i + 1,by omega,by first | rfl | (rw [Nat.add_mul]),by rw [hst]⟩
              · obtain rfl : i = nb := by omega
                have hb4 : decide (((i * 64 : Nat) : Int) < (p.length : Int)) = false := dF (by omega)
                simp (disch := omega) only [↓aI,↓zP,aD,zD,aS,Nat.reduceBEq,Nat.reduceLT,reduceCtorEq,↓reduceIte,Nat.reduceMul,Nat.reduceAdd,Nat.reduceLeDiff,Nat.reduceEqDiff,Int.reduceToNat,Nat.reduceSub,Nat.reduceMod,Nat.reduceDiv,Int.reducePow,Int.reduceLE,Int.reduceNeg,Int.reduceLT,Int.reduceBEq,Int.reduceBNe,Int.reduceEq,Tryd.facts,r2,r5,r10,r6,r9,kindV,hb4,hpl2]
                have hS := hbo i
                generalize blocksM firstS p i = S at *
                refine jn 11 (by simp (disch := omega) only [↓aI,↓zP,aD,zD,aS,Nat.reduceBEq,Nat.reduceLT,reduceCtorEq,↓reduceIte,Nat.reduceMul,Nat.reduceAdd,Nat.reduceLeDiff,Nat.reduceEqDiff,Int.reduceToNat,Nat.reduceSub,Nat.reduceMod,Nat.reduceDiv,Int.reducePow,Int.reduceLE,Int.reduceNeg,Int.reduceLT,Int.reduceBEq,Int.reduceBNe,Int.reduceEq,Tryd.facts]) fun kt hkt0 hkt => ?_
                have hgs : ∀ i,i < 8 → (digA (stL S))[i]? = some (.sc (.int .u64 ((stL S).getD i 0 : Nat))) := fun i hi => digA_at hi
                have hsl : (digA (stL S)).length = 8 := rfl
                have hlt := stL_lt hS
                have hta := fun i j hi hj => told_at S (i := i) (j := j) hi hj
                have htl : ∀ n,n ≤ 32 → (bw ((toldM S).take n)).length = n := fun n hn => by rw [gz,List.length_take,told_len]; omega
                have htf : (toldM S).take 32 = toldM S := List.take_of_length_le (Nat.le_refl _)
                have htz : (toldM S).take 0 = [] := rfl
                have hml := told_len S
                generalize hsr : digA (stL S) = sr at *
                generalize toldM S = T at *
                refine br (c := ⟨Tryd.prog,101,[(17,[1,0,0,0,0,0,0,0,0,0]),(1000000,[2]),(4000025,[2,9,11,12,13]),(4000017,[2,5,6,9,10]),(4000012,[1,2,5,6,8]),(4000006,[1,2,5,6,7,38]),(4000003,[1,2,5,6,30]),(4000002,[1,2,5,6])],[17],[]⟩) Tryd.mixed (by kernel_rfl) (fun m5 σ5 H5 => ∃ i : Nat,i + m5 = 8 ∧ σ5 2 = AV.ip (AV.cellsOf (kindV (.imm 0 ks 64) (.imm 0 (digA (stL firstS)) 8))) 0 ∧ σ5 9 = .imm 0 sr 8 ∧ σ5 12 = .sc (.int .i64 i) ∧ ∃ kt ot,kt ≠ 0 ∧ (H.set k o) kt = none ∧ H5 = (H.set k o).set kt ot ∧ cy 5 1 ot (4 * i) ∧ σ5 11 = .imm kt (bw (T.take (4 * i))) (4 * i)) 8 ?_ ?_
                · refine ⟨0,by omega,?_⟩
                  simp (disch := omega) only [↓aI,↓zP,aD,zD,aS,Nat.reduceBEq,Nat.reduceLT,reduceCtorEq,↓reduceIte,Nat.reduceMul,Nat.reduceAdd,Nat.reduceLeDiff,Nat.reduceEqDiff,Int.reduceToNat,Nat.reduceSub,Nat.reduceMod,Nat.reduceDiv,Int.reducePow,Int.reduceLE,Int.reduceNeg,Int.reduceLT,Int.reduceBEq,Int.reduceBNe,Int.reduceEq,Tryd.facts,r2,r5,r10,r6,r9,kindV]
                  exact ⟨kt,_,hkt0,hkt,rfl,.inr ⟨rfl,rfl⟩,rfl⟩
                · clear hkt hkt0
                  clear kt
                  rintro m5 σ5 H5 ⟨i5,hi5,s2,s9,s12,kt,ot,hkt0,hkt,rfl,hot,s11⟩
                  by_cases hil5 : i5 < 8
                  · have hb5 : decide ((i5 : Int) < 8) = true := by simp; omega
                    have h88 : IntKind.i64.wrap (32 - 8) = 24 := by decide
                    have a1 := hgs i5 hil5
                    have b1 := hlt i5
                    have d1 := fun j hj => hta i5 j hil5 hj
                    generalize (stL S).getD i5 0 = x at *
                    simp (disch := omega) only [↓aI,↓zP,aD,zD,aS,Nat.reduceBEq,Nat.reduceLT,reduceCtorEq,↓reduceIte,Nat.reduceMul,Nat.reduceAdd,Nat.reduceLeDiff,Nat.reduceEqDiff,Int.reduceToNat,Nat.reduceSub,Nat.reduceMod,Nat.reduceDiv,Int.reducePow,Int.reduceLE,Int.reduceNeg,Int.reduceLT,Int.reduceBEq,Int.reduceBNe,Int.reduceEq,Tryd.facts,s2,s9,s11,s12,kindV,hb5,h88]
                    refine br (c := ⟨Tryd.prog,101,[(17,[1,0,0,0,0,0,0,0,0,0]),(1000000,[2]),(4000025,[2,9,11,12,13]),(4000017,[2,5,6,9,10]),(4000012,[1,2,5,6,8]),(4000006,[1,2,5,6,7,38]),(4000003,[1,2,5,6,30]),(4000002,[1,2,5,6])],[17],[]⟩) Tryd.mixed (by kernel_rfl) (fun m6 σ6 H6 => ∃ (j : Nat) (z : Int),j + m6 = 4 ∧ z = 24 - 8 * (j : Int) ∧ σ6 2 = AV.ip (AV.cellsOf (kindV (.imm 0 ks 64) (.imm 0 (digA (stL firstS)) 8))) 0 ∧ σ6 9 = .imm 0 sr 8 ∧ σ6 12 = .sc (.int .i64 i5) ∧ σ6 13 = .sc (.int .i64 z) ∧ ∃ kt ot,kt ≠ 0 ∧ (H.set k o) kt = none ∧ H6 = (H.set k o).set kt ot ∧ cy 5 1 ot (4 * i5 + j) ∧ σ6 11 = .imm kt (bw (T.take (4 * i5 + j))) (4 * i5 + j)) 4 ?_ ?_
                    · refine ⟨0,24,by omega,by omega,?_⟩
                      simp (disch := omega) only [↓aI,↓zP,aD,zD,aS,Nat.reduceBEq,Nat.reduceLT,reduceCtorEq,↓reduceIte,Nat.reduceMul,Nat.reduceAdd,Nat.reduceLeDiff,Nat.reduceEqDiff,Int.reduceToNat,Nat.reduceSub,Nat.reduceMod,Nat.reduceDiv,Int.reducePow,Int.reduceLE,Int.reduceNeg,Int.reduceLT,Int.reduceBEq,Int.reduceBNe,Int.reduceEq,Tryd.facts,s2,s9,s11,s12,kindV]
                      exact ⟨kt,ot,hkt0,hkt,rfl,hot,rfl⟩
                    · clear hkt hkt0 s11 hot
                      clear kt ot
                      rintro m6 σ6 H6 ⟨j,z,hj,hz,s2,s9,s12,s13,kt,ot,hkt0,hkt,rfl,hot,s11⟩
                      by_cases hjl : j < 4
                      · obtain ⟨r,hr⟩ : ∃ r : Nat,r = 24 - 8 * j := ⟨_,rfl⟩
                        obtain rfl : z = (r : Int) := by omega
                        have hb6 : decide ((0 : Int) ≤ (r : Int)) = true := by simp
                        have htk := d1 j hjl
                        rw [show 24 - 8 * j = r by omega] at htk
                        have c1 := shift_pure x r (by omega) (by omega)
                        have hle := htl (4 * i5 + j) (by omega)
                        have w1 : IntKind.i64.wrap ((r : Int) - 8) = (r : Int) - 8 := iw (by omega)
                        generalize hsx : x / 2 ^ r = sx at *
                        generalize hT2 : T.take (4 * i5 + j + 1) = T2 at *
                        generalize T.take (4 * i5 + j) = T1 at *
                        simp (disch := omega) only [↓aI,↓zP,aD,zD,aS,Nat.reduceBEq,Nat.reduceLT,reduceCtorEq,↓reduceIte,Nat.reduceMul,Nat.reduceAdd,Nat.reduceLeDiff,Nat.reduceEqDiff,Int.reduceToNat,Nat.reduceSub,Nat.reduceMod,Nat.reduceDiv,Int.reducePow,Int.reduceLE,Int.reduceNeg,Int.reduceLT,Int.reduceBEq,Int.reduceBNe,Int.reduceEq,Tryd.facts,s2,s9,s11,s12,s13,kindV,hb6,a1,hsl]
                        first | refine CallK.p (c1) ?_ | refine CallP.i (c1) ?_
                        simp (disch := omega) only [↓aI,↓zP,aD,zD,aS,Nat.reduceBEq,Nat.reduceLT,reduceCtorEq,↓reduceIte,Nat.reduceMul,Nat.reduceAdd,Nat.reduceLeDiff,Nat.reduceEqDiff,Int.reduceToNat,Nat.reduceSub,Nat.reduceMod,Nat.reduceDiv,Int.reducePow,Int.reduceLE,Int.reduceNeg,Int.reduceLT,Int.reduceBEq,Int.reduceBNe,Int.reduceEq,Tryd.facts,s2,s9,s11,s12,s13,kindV,jd,jC,hkt0,hot,hle,w1]
                        intro k' o' hk0' hk' ho'
                        have hl1 : T1.length = 4 * i5 + j := by rw [gz] at hle; exact hle
                        rw [hl1] at ho'
                        exact ⟨m6 - 1,by omega,j + 1,(r : Int) - 8,by omega,by omega,rfl,k',o',hk0',am hk',rfl,ho',by rw [← Nat.add_assoc,hT2,htk,ofNat_mod]⟩
                      · obtain rfl : j = 4 := by omega
                        obtain rfl : z = -8 := by omega
                        have hb6 : decide ((0 : Int) ≤ -8) = false := by decide
                        simp (disch := omega) only [↓aI,↓zP,aD,zD,aS,Nat.reduceBEq,Nat.reduceLT,reduceCtorEq,↓reduceIte,Nat.reduceMul,Nat.reduceAdd,Nat.reduceLeDiff,Nat.reduceEqDiff,Int.reduceToNat,Nat.reduceSub,Nat.reduceMod,Nat.reduceDiv,Int.reducePow,Int.reduceLE,Int.reduceNeg,Int.reduceLT,Int.reduceBEq,Int.reduceBNe,Int.reduceEq,Tryd.facts,s2,s9,s11,s12,s13,kindV,hb6]
                        exact ⟨m5 - 1,by omega,i5 + 1,by omega,rfl,kt,ot,hkt0,hkt,rfl,hot,rfl⟩
                  · obtain rfl : i5 = 8 := by omega
                    have hb5 : decide (((8 : Nat) : Int) < 8) = false := by decide
                    rw [show 4 * 8 = 32 from rfl,htf] at s11
                    simp (disch := omega) only [↓aI,↓zP,aD,zD,aS,Nat.reduceBEq,Nat.reduceLT,reduceCtorEq,↓reduceIte,Nat.reduceMul,Nat.reduceAdd,Nat.reduceLeDiff,Nat.reduceEqDiff,Int.reduceToNat,Nat.reduceSub,Nat.reduceMod,Nat.reduceDiv,Int.reducePow,Int.reduceLE,Int.reduceNeg,Int.reduceLT,Int.reduceBEq,Int.reduceBNe,Int.reduceEq,Tryd.facts,s2,s9,s11,s12,kindV,hb5,hml]
                    exact (Sub.set_new hk).trans (Sub.set_new hkt)
end Go.Proofs.YtejncnmdjkhiaaaDoor
