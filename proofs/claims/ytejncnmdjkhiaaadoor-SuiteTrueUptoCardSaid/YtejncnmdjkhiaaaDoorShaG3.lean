/-
  Several texts in one: each says what it proves.
  Conditions: none. Lemmas only.
-/
import Derived.Test.YtejncnmdjkhiaaaDoorShaG2
set_option linter.all false
section
set_option linter.unusedSimpArgs false
set_option linter.unusedVariables false
set_option maxRecDepth 20000
namespace Go.Proofs.YtejncnmdjkhiaaaDoor
open Go Go.Abs Go.Proofs Go.Sha
def digA (l : List Nat) : List AV := l.map fun x : Nat => AV.sc (.int .u64 x)
theorem digA_length (l : List Nat) : (digA l).length = l.length := by simp [digA]
theorem digA_at {l : List Nat} {i : Nat} (h : i < l.length) : (digA l)[i]? = some (.sc (.int .u64 (l.getD i 0 : Nat))) := by simp [digA,List.getD,h]
theorem digA_put {l : List Nat} {i x : Nat} (h : i < l.length) : bG (digA l) i [.sc (.int .u64 x)] = digA (l.set i x) := by
  rw [bG,List.set_eq_take_append_cons_drop,if_pos h]
  simp [digA]
theorem repA_dig (n : Nat) : aQ [.sc (.int .u64 0)] n = digA (List.replicate n 0) := by
  induction n with
  | zero => rfl
  | succ n ih => rw [aQ,ih,List.replicate_succ]; rfl
theorem mul_live (H : AH) (h : Nat) (a b : List Nat) (ha : Dig a) (hb : Dig b) (hla : a.length ≤ 100) (hlb : b.length ≤ 100) (hh : H h = some (.cells (digA b) 47 1)) : ACalls Tryd.prog 62 [.imm 0 (digA a) a.length,.own h 0 b.length] H fun v H' => ∃ k,k ≠ 0 ∧ H k = none ∧ v = .own k 0 (a.length + b.length) ∧ H' = H.set k (.cells (digA (mulM a b)) 47 1) := by
  have hal := digA_length a
  have hbl := digA_length b
  refine ao (c := ⟨Tryd.prog,63,[(9,[0,0,0,0,0,1,0,0,0,1,0,0,0,1,0,0,0,0,0]),(4000012,[0,1,5,6]),(4000010,[0,1,5,6,8,9]),(4000009,[0,1,5,6,8,9]),(4000001,[0,1,5])],[],[]⟩) (rs := [ResultVar.tmp 4]) Tryd.mixed Tryd.func62 rfl rfl rfl (Nat.le_of_ble_eq_true rfl) (by kernel_rfl) ?_
  simp (disch := omega) only [↓aI,↓zP,aD,zD,aS,Nat.reduceBEq,Nat.reduceLT,reduceCtorEq,↓reduceIte,Nat.reduceMul,Nat.reduceAdd,Nat.reduceLeDiff,Nat.reduceEqDiff,Int.reduceToNat,Nat.reduceSub,Nat.reduceMod,Nat.reduceDiv,Int.reducePow,Int.reduceLE,Int.reduceNeg,Int.reduceLT,Int.reduceBEq,Int.reduceBNe,Int.reduceEq,Tryd.facts]
  intro k hk0 hk
  have hkh : ∀ o,(H.set k o) h = some (.cells (digA b) 47 1) := fun o => by
    rw [← hh]
    exact if_neg fun e => by rw [e,hk] at hh; cases hh
  refine br (c := ⟨Tryd.prog,63,[(9,[0,0,0,0,0,1,0,0,0,1,0,0,0,1,0,0,0,0,0]),(4000012,[0,1,5,6]),(4000010,[0,1,5,6,8,9]),(4000009,[0,1,5,6,8,9]),(4000001,[0,1,5])],[],[]⟩) Tryd.mixed (by kernel_rfl) (fun m σ H' => ∃ i : Nat,i + m = a.length ∧ σ 0 = .imm 0 (digA a) a.length ∧ σ 1 = .own h 0 b.length ∧ σ 5 = .own k 0 (a.length + b.length) ∧ σ 6 = .sc (.int .i64 i) ∧ H' = H.set k (.cells (digA (mulI a b i)) 47 1)) a.length ?_ ?_
  · refine ⟨0,by omega,?_⟩
    simp (disch := omega) only [↓aI,↓zP,aD,zD,aS,Nat.reduceBEq,Nat.reduceLT,reduceCtorEq,↓reduceIte,Nat.reduceMul,Nat.reduceAdd,Nat.reduceLeDiff,Nat.reduceEqDiff,Int.reduceToNat,Nat.reduceSub,Nat.reduceMod,Nat.reduceDiv,Int.reducePow,Int.reduceLE,Int.reduceNeg,Int.reduceLT,Int.reduceBEq,Int.reduceBNe,Int.reduceEq,Tryd.facts]
    rw [repA_dig]; rfl
  · rintro m σ H' ⟨i,hi,h0,h1,h5,h6,rfl⟩
    by_cases hlt : i < a.length
    · have hb1 : decide ((i : Int) < (a.length : Int)) = true := by simp; omega
      have hat := digA_at hlt
      have haD := dig_getD ha i
      obtain ⟨hd1,hd2,hd3⟩ := mulI_spec ha hb i (by omega)
      have hne : mulI a b (i + 1) = (mulK (a.getD i 0) b i b.length (mulI a b i,0)).1.set (i + b.length) (mulK (a.getD i 0) b i b.length (mulI a b i,0)).2 := rfl
      generalize hps : mulI a b (i + 1) = o' at *
      generalize mulI a b i = o at *
      generalize a.getD i 0 = ai at *
      simp (disch := omega) only [↓aI,↓zP,aD,zD,aS,Nat.reduceBEq,Nat.reduceLT,reduceCtorEq,↓reduceIte,Nat.reduceMul,Nat.reduceAdd,Nat.reduceLeDiff,Nat.reduceEqDiff,Int.reduceToNat,Nat.reduceSub,Nat.reduceMod,Nat.reduceDiv,Int.reducePow,Int.reduceLE,Int.reduceNeg,Int.reduceLT,Int.reduceBEq,Int.reduceBNe,Int.reduceEq,Tryd.facts,h0,h1,h5,h6,hb1]
      refine br (c := ⟨Tryd.prog,63,[(9,[0,0,0,0,0,1,0,0,0,1,0,0,0,1,0,0,0,0,0]),(4000012,[0,1,5,6]),(4000010,[0,1,5,6,8,9]),(4000009,[0,1,5,6,8,9]),(4000001,[0,1,5])],[],[]⟩) Tryd.mixed (by kernel_rfl) (fun m2 σ2 H2 => ∃ j : Nat,j + m2 = b.length ∧ σ2 0 = .imm 0 (digA a) a.length ∧ σ2 1 = .own h 0 b.length ∧ σ2 5 = .own k 0 (a.length + b.length) ∧ σ2 6 = .sc (.int .i64 i) ∧ σ2 7 = .sc (.int .u64 ((mulK ai b i j (o,0)).2 : Nat)) ∧ σ2 8 = .sc (.int .i64 j) ∧ H2 = H.set k (.cells (digA (mulK ai b i j (o,0)).1) 47 1)) b.length ?_ ?_
      · refine ⟨0,by omega,?_⟩
        simp (disch := omega) only [↓aI,↓zP,aD,zD,aS,Nat.reduceBEq,Nat.reduceLT,reduceCtorEq,↓reduceIte,Nat.reduceMul,Nat.reduceAdd,Nat.reduceLeDiff,Nat.reduceEqDiff,Int.reduceToNat,Nat.reduceSub,Nat.reduceMod,Nat.reduceDiv,Int.reducePow,Int.reduceLE,Int.reduceNeg,Int.reduceLT,Int.reduceBEq,Int.reduceBNe,Int.reduceEq,Tryd.facts,h0,h1,h5,h6,mulK]
      · rintro m2 σ2 H2 ⟨j,hj,g0,g1,g5,g6,g7,g8,rfl⟩
        obtain hsp := mulK_spec (ai := ai) (i := i) haD hb j hd1 (by omega) (by omega)
        by_cases hltj : j < b.length
        · have hb2 : decide ((j : Int) < (b.length : Int)) = true := by simp; omega
          have hbt := digA_at hltj
          have hbD := dig_getD hb j
          have hst : mulK ai b i (j + 1) (o,0) = ((mulK ai b i j (o,0)).1.set (i + j) (((mulK ai b i j (o,0)).1.getD (i + j) 0 + ai * b.getD j 0 + (mulK ai b i j (o,0)).2) % 65536),((mulK ai b i j (o,0)).1.getD (i + j) 0 + ai * b.getD j 0 + (mulK ai b i j (o,0)).2) / 65536) := rfl
          generalize hz : mulK ai b i j (o,0) = z at *
          obtain ⟨zo,zc⟩ := z
          generalize b.getD j 0 = bj at *
          obtain ⟨p1,p2,p3,p4,p5⟩ := hsp
          simp only at p1 p2 p3 g7 hst
          have hw0 := dig_getD p1 (i + j)
          have hzt := digA_at (l := zo) (i := i + j) (by omega)
          generalize hgw : zo.getD (i + j) 0 = w at *
          have hP : ai * bj ≤ 65535 * 65535 := Nat.mul_le_mul (by omega) (by omega)
          have hw1 : IntKind.u64.wrap ((ai : Int) * (bj : Int)) = ((ai * bj : Nat) : Int) := by rw [← Int.natCast_mul,jw (by omega)]
          generalize ai * bj = pr at *
          have hw2 : IntKind.u64.wrap ((w : Int) + (pr : Int)) = ((w + pr : Nat) : Int) := uadd64 (by omega)
          have hw3 : IntKind.u64.wrap (((w + pr : Nat) : Int) + (zc : Int)) = ((w + pr + zc : Nat) : Int) := uadd64 (by omega)
          generalize hS : w + pr + zc = S at *
          have hw4 : IntKind.u64.wrap ((S / 65536 : Nat) : Int) = ((S / 65536 : Nat) : Int) := jw (by omega)
          have hput := digA_put (l := zo) (i := i + j) (x := S % 65536) (by omega)
          have hzl := digA_length zo
          simp (disch := omega) only [↓aI,↓zP,aD,zD,aS,Nat.reduceBEq,Nat.reduceLT,reduceCtorEq,↓reduceIte,Nat.reduceMul,Nat.reduceAdd,Nat.reduceLeDiff,Nat.reduceEqDiff,Int.reduceToNat,Nat.reduceSub,Nat.reduceMod,Nat.reduceDiv,Int.reducePow,Int.reduceLE,Int.reduceNeg,Int.reduceLT,Int.reduceBEq,Int.reduceBNe,Int.reduceEq,Tryd.facts,g0,g1,g5,g6,g7,g8,hb2,hkh,hat,hbt,hal,hbl,hzt,hw1,hw2,hw3,hw4,jd,tdivN,hput,hzl]
          first | exact ⟨m2 - 1,by omega,j + 1,by omega,by rw [hst],rfl,by rw [hst]⟩ | trace_state
        · obtain rfl : j = b.length := by omega
          have hb2 : decide ((b.length : Int) < (b.length : Int)) = false := by simp
          obtain ⟨p1,p2,p3,p4,p5⟩ := hsp
          generalize mulK ai b i b.length (o,0) = z at *
          have hput := digA_put (l := z.1) (i := i + b.length) (x := z.2) (by omega)
          have hzl := digA_length z.1
          simp (disch := omega) only [↓aI,↓zP,aD,zD,aS,Nat.reduceBEq,Nat.reduceLT,reduceCtorEq,↓reduceIte,Nat.reduceMul,Nat.reduceAdd,Nat.reduceLeDiff,Nat.reduceEqDiff,Int.reduceToNat,Nat.reduceSub,Nat.reduceMod,Nat.reduceDiv,Int.reducePow,Int.reduceLE,Int.reduceNeg,Int.reduceLT,Int.reduceBEq,Int.reduceBNe,Int.reduceEq,Tryd.facts,g0,g1,g5,g6,g7,g8,hb2,hkh,hal,hbl,hput,hzl]
          first | exact ⟨m - 1,by omega,i + 1,by omega,rfl,by rw [hps,hne]⟩ | trace_state
    · obtain rfl : i = a.length := by omega
      have hb1 : decide ((a.length : Int) < (a.length : Int)) = false := by simp
      simp (disch := omega) only [↓aI,↓zP,aD,zD,aS,Nat.reduceBEq,Nat.reduceLT,reduceCtorEq,↓reduceIte,Nat.reduceMul,Nat.reduceAdd,Nat.reduceLeDiff,Nat.reduceEqDiff,Int.reduceToNat,Nat.reduceSub,Nat.reduceMod,Nat.reduceDiv,Int.reducePow,Int.reduceLE,Int.reduceNeg,Int.reduceLT,Int.reduceBEq,Int.reduceBNe,Int.reduceEq,Tryd.facts,h0,h1,h5,h6,hb1]
      exact ⟨_,rfl,_,Abs.Sub.refl _,k,hk0,hk,rfl,rfl⟩
end Go.Proofs.YtejncnmdjkhiaaaDoor
end
section
set_option linter.unusedSimpArgs false
set_option linter.unusedVariables false
set_option maxRecDepth 20000
namespace Go.Proofs.YtejncnmdjkhiaaaDoor
open Go Go.Abs Go.Proofs Go.Sha
theorem mul_own (H : AH) (h h2 : Nat) (a b : List Nat) (ha : Dig a) (hb : Dig b) (hla : a.length ≤ 100) (hlb : b.length ≤ 100) (hh : H h = some (.cells (digA b) 47 1)) (hh2 : H h2 = some (.cells (digA a) 47 1)) : ACalls Tryd.prog 62 [.own h2 0 a.length,.own h 0 b.length] H fun v H' => ∃ k,k ≠ 0 ∧ H k = none ∧ v = .own k 0 (a.length + b.length) ∧ H' = H.set k (.cells (digA (mulM a b)) 47 1) := by
  have hal := digA_length a
  have hbl := digA_length b
  refine ao (c := ⟨Tryd.prog,63,[(9,[0,0,0,0,0,1,0,0,0,1,0,0,0,1,0,0,0,0,0]),(4000012,[0,1,5,6]),(4000010,[0,1,5,6,8,9]),(4000009,[0,1,5,6,8,9]),(4000001,[0,1,5])],[],[]⟩) (rs := [ResultVar.tmp 4]) Tryd.mixed Tryd.func62 rfl rfl rfl (Nat.le_of_ble_eq_true rfl) (by kernel_rfl) ?_
  simp (disch := omega) only [↓aI,↓zP,aD,zD,aS,Nat.reduceBEq,Nat.reduceLT,reduceCtorEq,↓reduceIte,Nat.reduceMul,Nat.reduceAdd,Nat.reduceLeDiff,Nat.reduceEqDiff,Int.reduceToNat,Nat.reduceSub,Nat.reduceMod,Nat.reduceDiv,Int.reducePow,Int.reduceLE,Int.reduceNeg,Int.reduceLT,Int.reduceBEq,Int.reduceBNe,Int.reduceEq,Tryd.facts]
  intro k hk0 hk
  have hkh : ∀ o,(H.set k o) h = some (.cells (digA b) 47 1) := fun o => by
    rw [← hh]
    exact if_neg fun e => by rw [e,hk] at hh; cases hh
  have hkh2 : ∀ o,(H.set k o) h2 = some (.cells (digA a) 47 1) := fun o => by
    rw [← hh2]
    exact if_neg fun e => by rw [e,hk] at hh2; cases hh2
  refine br (c := ⟨Tryd.prog,63,[(9,[0,0,0,0,0,1,0,0,0,1,0,0,0,1,0,0,0,0,0]),(4000012,[0,1,5,6]),(4000010,[0,1,5,6,8,9]),(4000009,[0,1,5,6,8,9]),(4000001,[0,1,5])],[],[]⟩) Tryd.mixed (by kernel_rfl) (fun m σ H' => ∃ i : Nat,i + m = a.length ∧ σ 0 = .own h2 0 a.length ∧ σ 1 = .own h 0 b.length ∧ σ 5 = .own k 0 (a.length + b.length) ∧ σ 6 = .sc (.int .i64 i) ∧ H' = H.set k (.cells (digA (mulI a b i)) 47 1)) a.length ?_ ?_
  · refine ⟨0,by omega,?_⟩
    simp (disch := omega) only [↓aI,↓zP,aD,zD,aS,Nat.reduceBEq,Nat.reduceLT,reduceCtorEq,↓reduceIte,Nat.reduceMul,Nat.reduceAdd,Nat.reduceLeDiff,Nat.reduceEqDiff,Int.reduceToNat,Nat.reduceSub,Nat.reduceMod,Nat.reduceDiv,Int.reducePow,Int.reduceLE,Int.reduceNeg,Int.reduceLT,Int.reduceBEq,Int.reduceBNe,Int.reduceEq,Tryd.facts]
    rw [repA_dig]; rfl
  · rintro m σ H' ⟨i,hi,h0,h1,h5,h6,rfl⟩
    by_cases hlt : i < a.length
    · have hb1 : decide ((i : Int) < (a.length : Int)) = true := by simp; omega
      have hat := digA_at hlt
      have haD := dig_getD ha i
      obtain ⟨hd1,hd2,hd3⟩ := mulI_spec ha hb i (by omega)
      have hne : mulI a b (i + 1) = (mulK (a.getD i 0) b i b.length (mulI a b i,0)).1.set (i + b.length) (mulK (a.getD i 0) b i b.length (mulI a b i,0)).2 := rfl
      generalize hps : mulI a b (i + 1) = o' at *
      generalize mulI a b i = o at *
      generalize a.getD i 0 = ai at *
      simp (disch := omega) only [↓aI,↓zP,aD,zD,aS,Nat.reduceBEq,Nat.reduceLT,reduceCtorEq,↓reduceIte,Nat.reduceMul,Nat.reduceAdd,Nat.reduceLeDiff,Nat.reduceEqDiff,Int.reduceToNat,Nat.reduceSub,Nat.reduceMod,Nat.reduceDiv,Int.reducePow,Int.reduceLE,Int.reduceNeg,Int.reduceLT,Int.reduceBEq,Int.reduceBNe,Int.reduceEq,Tryd.facts,h0,h1,h5,h6,hb1]
      refine br (c := ⟨Tryd.prog,63,[(9,[0,0,0,0,0,1,0,0,0,1,0,0,0,1,0,0,0,0,0]),(4000012,[0,1,5,6]),(4000010,[0,1,5,6,8,9]),(4000009,[0,1,5,6,8,9]),(4000001,[0,1,5])],[],[]⟩) Tryd.mixed (by kernel_rfl) (fun m2 σ2 H2 => ∃ j : Nat,j + m2 = b.length ∧ σ2 0 = .own h2 0 a.length ∧ σ2 1 = .own h 0 b.length ∧ σ2 5 = .own k 0 (a.length + b.length) ∧ σ2 6 = .sc (.int .i64 i) ∧ σ2 7 = .sc (.int .u64 ((mulK ai b i j (o,0)).2 : Nat)) ∧ σ2 8 = .sc (.int .i64 j) ∧ H2 = H.set k (.cells (digA (mulK ai b i j (o,0)).1) 47 1)) b.length ?_ ?_
      · refine ⟨0,by omega,?_⟩
        simp (disch := omega) only [↓aI,↓zP,aD,zD,aS,Nat.reduceBEq,Nat.reduceLT,reduceCtorEq,↓reduceIte,Nat.reduceMul,Nat.reduceAdd,Nat.reduceLeDiff,Nat.reduceEqDiff,Int.reduceToNat,Nat.reduceSub,Nat.reduceMod,Nat.reduceDiv,Int.reducePow,Int.reduceLE,Int.reduceNeg,Int.reduceLT,Int.reduceBEq,Int.reduceBNe,Int.reduceEq,Tryd.facts,h0,h1,h5,h6,mulK]
      · rintro m2 σ2 H2 ⟨j,hj,g0,g1,g5,g6,g7,g8,rfl⟩
        obtain hsp := mulK_spec (ai := ai) (i := i) haD hb j hd1 (by omega) (by omega)
        by_cases hltj : j < b.length
        · have hb2 : decide ((j : Int) < (b.length : Int)) = true := by simp; omega
          have hbt := digA_at hltj
          have hbD := dig_getD hb j
          have hst : mulK ai b i (j + 1) (o,0) = ((mulK ai b i j (o,0)).1.set (i + j) (((mulK ai b i j (o,0)).1.getD (i + j) 0 + ai * b.getD j 0 + (mulK ai b i j (o,0)).2) % 65536),((mulK ai b i j (o,0)).1.getD (i + j) 0 + ai * b.getD j 0 + (mulK ai b i j (o,0)).2) / 65536) := rfl
          generalize hz : mulK ai b i j (o,0) = z at *
          obtain ⟨zo,zc⟩ := z
          generalize b.getD j 0 = bj at *
          obtain ⟨p1,p2,p3,p4,p5⟩ := hsp
          simp only at p1 p2 p3 g7 hst
          have hw0 := dig_getD p1 (i + j)
          have hzt := digA_at (l := zo) (i := i + j) (by omega)
          generalize hgw : zo.getD (i + j) 0 = w at *
          have hP : ai * bj ≤ 65535 * 65535 := Nat.mul_le_mul (by omega) (by omega)
          have hw1 : IntKind.u64.wrap ((ai : Int) * (bj : Int)) = ((ai * bj : Nat) : Int) := by rw [← Int.natCast_mul,jw (by omega)]
          generalize ai * bj = pr at *
          have hw2 : IntKind.u64.wrap ((w : Int) + (pr : Int)) = ((w + pr : Nat) : Int) := uadd64 (by omega)
          have hw3 : IntKind.u64.wrap (((w + pr : Nat) : Int) + (zc : Int)) = ((w + pr + zc : Nat) : Int) := uadd64 (by omega)
          generalize hS : w + pr + zc = S at *
          have hw4 : IntKind.u64.wrap ((S / 65536 : Nat) : Int) = ((S / 65536 : Nat) : Int) := jw (by omega)
          have hput := digA_put (l := zo) (i := i + j) (x := S % 65536) (by omega)
          have hzl := digA_length zo
          simp (disch := omega) only [↓aI,↓zP,aD,zD,aS,Nat.reduceBEq,Nat.reduceLT,reduceCtorEq,↓reduceIte,Nat.reduceMul,Nat.reduceAdd,Nat.reduceLeDiff,Nat.reduceEqDiff,Int.reduceToNat,Nat.reduceSub,Nat.reduceMod,Nat.reduceDiv,Int.reducePow,Int.reduceLE,Int.reduceNeg,Int.reduceLT,Int.reduceBEq,Int.reduceBNe,Int.reduceEq,Tryd.facts,g0,g1,g5,g6,g7,g8,hb2,hkh,hkh2,hat,hbt,hal,hbl,hzt,hw1,hw2,hw3,hw4,jd,tdivN,hput,hzl]
          first | exact ⟨m2 - 1,by omega,j + 1,by omega,by rw [hst],rfl,by rw [hst]⟩ | trace_state
        · obtain rfl : j = b.length := by omega
          have hb2 : decide ((b.length : Int) < (b.length : Int)) = false := by simp
          obtain ⟨p1,p2,p3,p4,p5⟩ := hsp
          generalize mulK ai b i b.length (o,0) = z at *
          have hput := digA_put (l := z.1) (i := i + b.length) (x := z.2) (by omega)
          have hzl := digA_length z.1
          simp (disch := omega) only [↓aI,↓zP,aD,zD,aS,Nat.reduceBEq,Nat.reduceLT,reduceCtorEq,↓reduceIte,Nat.reduceMul,Nat.reduceAdd,Nat.reduceLeDiff,Nat.reduceEqDiff,Int.reduceToNat,Nat.reduceSub,Nat.reduceMod,Nat.reduceDiv,Int.reducePow,Int.reduceLE,Int.reduceNeg,Int.reduceLT,Int.reduceBEq,Int.reduceBNe,Int.reduceEq,Tryd.facts,g0,g1,g5,g6,g7,g8,hb2,hkh,hkh2,hal,hbl,hput,hzl]
          first | exact ⟨m - 1,by omega,i + 1,by omega,rfl,by rw [hps,hne]⟩ | trace_state
    · obtain rfl : i = a.length := by omega
      have hb1 : decide ((a.length : Int) < (a.length : Int)) = false := by simp
      simp (disch := omega) only [↓aI,↓zP,aD,zD,aS,Nat.reduceBEq,Nat.reduceLT,reduceCtorEq,↓reduceIte,Nat.reduceMul,Nat.reduceAdd,Nat.reduceLeDiff,Nat.reduceEqDiff,Int.reduceToNat,Nat.reduceSub,Nat.reduceMod,Nat.reduceDiv,Int.reducePow,Int.reduceLE,Int.reduceNeg,Int.reduceLT,Int.reduceBEq,Int.reduceBNe,Int.reduceEq,Tryd.facts,h0,h1,h5,h6,hb1]
      exact ⟨_,rfl,_,Abs.Sub.refl _,k,hk0,hk,rfl,rfl⟩
theorem own_dig {f : FuncId} {args : List AV} {H : AH} {l : List Nat} {n : Nat} (hn : n = l.length) (h : ACalls Tryd.prog f args H fun v H' => ∃ k,k ≠ 0 ∧ H k = none ∧ v = .own k 0 n ∧ H' = H.set k (.cells (digA l) 47 1)) : ACalls Tryd.prog f args H fun v H' => v = .imm 0 (digA l) n ∧ H' = H := h.freeze (by
  rintro v H' ⟨k,hk0,hk,rfl,rfl⟩
  refine ⟨_,H,Abs.Sub.set_new hk,Frz.own set_get hk (by rw [digA_length]; omega),?_,rfl⟩
  rw [List.take_of_length_le (by rw [digA_length]; omega)])
theorem mul_ii (H : AH) (h : Nat) (a b : List Nat) (ha : Dig a) (hb : Dig b) (hla : a.length ≤ 100) (hlb : b.length ≤ 100) (hh : H h = some (.cells (digA b) 47 1)) : ACalls Tryd.prog 62 [.imm 0 (digA a) a.length,.own h 0 b.length] H fun v H' => v = .imm 0 (digA (mulM a b)) (a.length + b.length) ∧ H' = H :=
  own_dig (mulM_spec ha hb).2.1.symm (mul_live H h a b ha hb hla hlb hh)
theorem mul_oo (H : AH) (h : Nat) (a : List Nat) (ha : Dig a) (hla : a.length ≤ 100) (hh : H h = some (.cells (digA a) 47 1)) : ACalls Tryd.prog 62 [.own h 0 a.length,.own h 0 a.length] H fun v H' => v = .imm 0 (digA (mulM a a)) (a.length + a.length) ∧ H' = H :=
  own_dig (mulM_spec ha ha).2.1.symm (mul_own H h h a a ha ha hla hla hh hh)
end Go.Proofs.YtejncnmdjkhiaaaDoor
end
section
set_option linter.unusedSimpArgs false
set_option linter.unusedVariables false
set_option maxRecDepth 20000
namespace Go.Proofs.YtejncnmdjkhiaaaDoor
open Go Go.Abs Go.Proofs Go.Sha
abbrev pos0 (l : List Nat) : Bool := l.any fun x => decide (0 < x)
theorem pos_drop {l : List Nat} {i : Nat} (h : i < l.length) : pos0 (l.drop i) = (decide (0 < l.getD i 0) || pos0 (l.drop (i + 1))) := by
  have e : l.getD i 0 = l[i] := by simp [List.getD,h]
  unfold pos0
  rw [e,List.drop_eq_getElem_cons h,List.any_cons]
theorem pos_take {l : List Nat} {i : Nat} (h : i < l.length) : pos0 (l.take (i + 1)) = (pos0 (l.take i) || decide (0 < l.getD i 0)) := by
  have e : l.getD i 0 = l[i] := by simp [List.getD,h]
  unfold pos0
  rw [e,List.take_succ_eq_append_getElem h,List.any_append,List.any_cons,List.any_nil,Bool.or_false]
theorem pos_drop_le {l : List Nat} {i j : Nat} (h : i ≤ j) (g : pos0 (l.drop i) = false) : pos0 (l.drop j) = false := by
  rw [show j = i + (j - i) by omega,← List.drop_drop]
  rw [List.any_eq_false] at g ⊢
  exact fun x hx => g x (List.mem_of_mem_drop hx)
theorem pos_drop_ge {l : List Nat} {i j : Nat} (h : i ≤ j) (g : pos0 (l.drop j) = true) : pos0 (l.drop i) = true := by
  cases e : pos0 (l.drop i) with
  | true => rfl
  | false => rw [pos_drop_le h e] at g; cases g
theorem pos_take_le {l : List Nat} {i j : Nat} (h : i ≤ j) (g : pos0 (l.take i) = true) : pos0 (l.take j) = true := by
  rw [List.any_eq_true] at g ⊢
  obtain ⟨x,hx,e⟩ := g
  refine ⟨x,?_,e⟩
  have : l.take i = (l.take j).take i := by rw [List.take_take,Nat.min_eq_left h]
  rw [this] at hx
  exact List.mem_of_mem_take hx
theorem dlt {a b : Nat} (h : a < b) : decide ((a : Int) < (b : Int)) = true := by simp; omega
theorem dnl {a b : Nat} (h : ¬ a < b) : decide ((a : Int) < (b : Int)) = false := by simp; omega
theorem dlt0 {b : Nat} (h : 0 < b) : decide ((0 : Int) < (b : Int)) = true := by simp; omega
theorem dnl0 {b : Nat} (h : ¬ 0 < b) : decide ((0 : Int) < (b : Int)) = false := by simp; omega
theorem most_pure (d : List Nat) (p n : Nat) (hd : Dig d) (hl : 1 ≤ d.length ∧ d.length ≤ 100) (hp : p < 65536) (hn : n ≤ 100) : APure Tryd.prog 63 [.imm 0 (digA d) d.length,.sc (.int .i64 p),.sc (.int .i64 n)] (.sc (.bool (mostM d p n))) := by
  have hdl := digA_length d
  have hpw : IntKind.u64.wrap (p : Int) = (p : Int) := jw (by omega)
  refine az (c := ⟨Tryd.prog,52,[],[],[]⟩) (rs := [ResultVar.tmp 6]) Tryd.mixed Tryd.func63 rfl rfl rfl (Nat.le_of_ble_eq_true rfl) (by kernel_rfl) fun H => ?_
  have hi0 : IntKind.i64.wrap ((d.length : Int) - 1) = ((d.length - 1 : Nat) : Int) := wsub64n (n := 1) (by show 1 ≤ _; omega) (by omega)
  simp (disch := omega) only [↓aI,↓zP,aD,zD,aS,Nat.reduceBEq,Nat.reduceLT,reduceCtorEq,↓reduceIte,Nat.reduceMul,Nat.reduceAdd,Nat.reduceLeDiff,Nat.reduceEqDiff,Int.reduceToNat,Nat.reduceSub,Nat.reduceMod,Nat.reduceDiv,Int.reducePow,Int.reduceLE,Int.reduceNeg,Int.reduceLT,Int.reduceBEq,Int.reduceBNe,Int.reduceEq,Tryd.facts,hi0]
  refine br (c := ⟨Tryd.prog,52,[],[],[]⟩) Tryd.mixed (by kernel_rfl) (fun m σ H' => ∃ i : Nat,i = m ∧ i + 1 ≤ d.length ∧ pos0 (d.drop (i + 1)) = false ∧ σ 0 = .imm 0 (digA d) d.length ∧ σ 1 = .sc (.int .i64 p) ∧ σ 2 = .sc (.int .i64 n) ∧ σ 7 = .sc (.int .i64 i) ∧ H' = H) (d.length - 1) ?_ ?_
  · refine ⟨d.length - 1,rfl,by omega,by rw [show d.length - 1 + 1 = d.length by omega,List.drop_length]; rfl,?_⟩
    simp (disch := omega) only [↓aI,↓zP,aD,zD,aS,Nat.reduceBEq,Nat.reduceLT,reduceCtorEq,↓reduceIte,Nat.reduceMul,Nat.reduceAdd,Nat.reduceLeDiff,Nat.reduceEqDiff,Int.reduceToNat,Nat.reduceSub,Nat.reduceMod,Nat.reduceDiv,Int.reducePow,Int.reduceLE,Int.reduceNeg,Int.reduceLT,Int.reduceBEq,Int.reduceBNe,Int.reduceEq,Tryd.facts]
  · rintro m σ H' ⟨i,him,hil,hpo,h0,h1,h2,h7,rfl⟩
    by_cases hlt : n < i
    · have hb1 : decide ((n : Int) < (i : Int)) = true := dlt (by omega)
      have hat := digA_at (l := d) (i := i) (by omega)
      have hpd := pos_drop (l := d) (i := i) (by omega)
      by_cases hz : 0 < d.getD i 0
      · have hb2 : decide ((0 : Int) < ((d.getD i 0 : Nat) : Int)) = true := dlt0 hz
        have hm : mostM d p n = true := by
          unfold mostM
          rw [if_pos]
          refine pos_drop_ge (show n + 1 ≤ i by omega) ?_
          rw [hpd,decide_eq_true hz,Bool.true_or]
        simp (disch := omega) only [↓aI,↓zP,aD,zD,aS,Nat.reduceBEq,Nat.reduceLT,reduceCtorEq,↓reduceIte,Nat.reduceMul,Nat.reduceAdd,Nat.reduceLeDiff,Nat.reduceEqDiff,Int.reduceToNat,Nat.reduceSub,Nat.reduceMod,Nat.reduceDiv,Int.reducePow,Int.reduceLE,Int.reduceNeg,Int.reduceLT,Int.reduceBEq,Int.reduceBNe,Int.reduceEq,Tryd.facts,h0,h1,h2,h7,hb1,hat,hdl,hb2,hm]
        first | exact Abs.Sub.refl _ | trace_state
      · have hb2 : decide ((0 : Int) < ((d.getD i 0 : Nat) : Int)) = false := dnl0 hz
        have hw : IntKind.i64.wrap ((i : Int) - 1) = ((i - 1 : Nat) : Int) := wsub64n (n := 1) (by show 1 ≤ _; omega) (by omega)
        simp (disch := omega) only [↓aI,↓zP,aD,zD,aS,Nat.reduceBEq,Nat.reduceLT,reduceCtorEq,↓reduceIte,Nat.reduceMul,Nat.reduceAdd,Nat.reduceLeDiff,Nat.reduceEqDiff,Int.reduceToNat,Nat.reduceSub,Nat.reduceMod,Nat.reduceDiv,Int.reducePow,Int.reduceLE,Int.reduceNeg,Int.reduceLT,Int.reduceBEq,Int.reduceBNe,Int.reduceEq,Tryd.facts,h0,h1,h2,h7,hb1,hat,hdl,hb2,hw]
        first | exact ⟨i - 1,by omega,i - 1,rfl,by omega,by rw [show i - 1 + 1 = i by omega,hpd,hpo,decide_eq_false hz]; rfl,rfl⟩ | trace_state
    · have hb1 : decide ((n : Int) < (i : Int)) = false := dnl (by omega)
      have hno : pos0 (d.drop (n + 1)) = false := pos_drop_le (by omega) hpo
      have hm0 : mostM d p n = if d.length ≤ n ∨ d.getD n 0 < p then false else if p < d.getD n 0 then true else pos0 (d.take n) := by
        unfold mostM
        rw [if_neg (by rw [show ((d.drop (n + 1)).any fun x => decide (0 < x)) = false from hno]; simp)]
      generalize mostM d p n = M at *
      by_cases hnl : d.length ≤ n
      · have hb2 : decide ((d.length : Int) ≤ (n : Int)) = true := by simp; omega
        rw [if_pos (.inl hnl)] at hm0
        subst hm0
        simp (disch := omega) only [↓aI,↓zP,aD,zD,aS,Nat.reduceBEq,Nat.reduceLT,reduceCtorEq,↓reduceIte,Nat.reduceMul,Nat.reduceAdd,Nat.reduceLeDiff,Nat.reduceEqDiff,Int.reduceToNat,Nat.reduceSub,Nat.reduceMod,Nat.reduceDiv,Int.reducePow,Int.reduceLE,Int.reduceNeg,Int.reduceLT,Int.reduceBEq,Int.reduceBNe,Int.reduceEq,Tryd.facts,h0,h1,h2,h7,hb1,hb2,hdl]
        first | exact Abs.Sub.refl _ | trace_state
      · have hb2 : decide ((d.length : Int) ≤ (n : Int)) = false := by simp; omega
        have hat := digA_at (l := d) (i := n) (by omega)
        by_cases hc1 : d.getD n 0 < p
        · have hb3 : decide (((d.getD n 0 : Nat) : Int) < (p : Int)) = true := dlt (by omega)
          rw [if_pos (.inr hc1)] at hm0
          subst hm0
          simp (disch := omega) only [↓aI,↓zP,aD,zD,aS,Nat.reduceBEq,Nat.reduceLT,reduceCtorEq,↓reduceIte,Nat.reduceMul,Nat.reduceAdd,Nat.reduceLeDiff,Nat.reduceEqDiff,Int.reduceToNat,Nat.reduceSub,Nat.reduceMod,Nat.reduceDiv,Int.reducePow,Int.reduceLE,Int.reduceNeg,Int.reduceLT,Int.reduceBEq,Int.reduceBNe,Int.reduceEq,Tryd.facts,h0,h1,h2,h7,hb1,hb2,hdl,hat,hb3,hpw]
          first | exact Abs.Sub.refl _ | trace_state
        · have hb3 : decide (((d.getD n 0 : Nat) : Int) < (p : Int)) = false := dnl (by omega)
          rw [if_neg (by omega)] at hm0
          by_cases hc2 : p < d.getD n 0
          · have hb4 : decide ((p : Int) < ((d.getD n 0 : Nat) : Int)) = true := dlt (by omega)
            rw [if_pos hc2] at hm0
            subst hm0
            simp (disch := omega) only [↓aI,↓zP,aD,zD,aS,Nat.reduceBEq,Nat.reduceLT,reduceCtorEq,↓reduceIte,Nat.reduceMul,Nat.reduceAdd,Nat.reduceLeDiff,Nat.reduceEqDiff,Int.reduceToNat,Nat.reduceSub,Nat.reduceMod,Nat.reduceDiv,Int.reducePow,Int.reduceLE,Int.reduceNeg,Int.reduceLT,Int.reduceBEq,Int.reduceBNe,Int.reduceEq,Tryd.facts,h0,h1,h2,h7,hb1,hb2,hdl,hat,hb3,hb4,hpw]
            first | exact Abs.Sub.refl _ | trace_state
          · have hb4 : decide ((p : Int) < ((d.getD n 0 : Nat) : Int)) = false := dnl (by omega)
            rw [if_neg hc2] at hm0
            subst hm0
            simp (disch := omega) only [↓aI,↓zP,aD,zD,aS,Nat.reduceBEq,Nat.reduceLT,reduceCtorEq,↓reduceIte,Nat.reduceMul,Nat.reduceAdd,Nat.reduceLeDiff,Nat.reduceEqDiff,Int.reduceToNat,Nat.reduceSub,Nat.reduceMod,Nat.reduceDiv,Int.reducePow,Int.reduceLE,Int.reduceNeg,Int.reduceLT,Int.reduceBEq,Int.reduceBNe,Int.reduceEq,Tryd.facts,h0,h1,h2,h7,hb1,hb2,hdl,hat,hb3,hb4,hpw]
            refine br (c := ⟨Tryd.prog,52,[],[],[]⟩) Tryd.mixed (by kernel_rfl) (fun m σ H'' => ∃ i : Nat,i + m = n ∧ pos0 (d.take i) = false ∧ σ 0 = .imm 0 (digA d) d.length ∧ σ 2 = .sc (.int .i64 n) ∧ σ 8 = .sc (.int .i64 i) ∧ H'' = H') n ?_ ?_
            · refine ⟨0,by omega,rfl,?_⟩
              simp (disch := omega) only [↓aI,↓zP,aD,zD,aS,Nat.reduceBEq,Nat.reduceLT,reduceCtorEq,↓reduceIte,Nat.reduceMul,Nat.reduceAdd,Nat.reduceLeDiff,Nat.reduceEqDiff,Int.reduceToNat,Nat.reduceSub,Nat.reduceMod,Nat.reduceDiv,Int.reducePow,Int.reduceLE,Int.reduceNeg,Int.reduceLT,Int.reduceBEq,Int.reduceBNe,Int.reduceEq,Tryd.facts,h0,h2]
            · rintro m2 σ2 H2 ⟨j,hj,hjp,g0,g2,g8,rfl⟩
              by_cases hjn : j < n
              · have hb5 : decide ((j : Int) < (n : Int)) = true := dlt (by omega)
                have hat2 := digA_at (l := d) (i := j) (by omega)
                have hpt := pos_take (l := d) (i := j) (by omega)
                by_cases hz : 0 < d.getD j 0
                · have hb6 : decide ((0 : Int) < ((d.getD j 0 : Nat) : Int)) = true := dlt0 hz
                  have hm : pos0 (d.take n) = true := pos_take_le (show j + 1 ≤ n by omega) (by rw [hpt,decide_eq_true hz,Bool.or_true])
                  rw [hm]
                  simp (disch := omega) only [↓aI,↓zP,aD,zD,aS,Nat.reduceBEq,Nat.reduceLT,reduceCtorEq,↓reduceIte,Nat.reduceMul,Nat.reduceAdd,Nat.reduceLeDiff,Nat.reduceEqDiff,Int.reduceToNat,Nat.reduceSub,Nat.reduceMod,Nat.reduceDiv,Int.reducePow,Int.reduceLE,Int.reduceNeg,Int.reduceLT,Int.reduceBEq,Int.reduceBNe,Int.reduceEq,Tryd.facts,g0,g2,g8,hb5,hb6,hat2,hdl]
                  first | exact Abs.Sub.refl _ | trace_state
                · have hb6 : decide ((0 : Int) < ((d.getD j 0 : Nat) : Int)) = false := dnl0 hz
                  simp (disch := omega) only [↓aI,↓zP,aD,zD,aS,Nat.reduceBEq,Nat.reduceLT,reduceCtorEq,↓reduceIte,Nat.reduceMul,Nat.reduceAdd,Nat.reduceLeDiff,Nat.reduceEqDiff,Int.reduceToNat,Nat.reduceSub,Nat.reduceMod,Nat.reduceDiv,Int.reducePow,Int.reduceLE,Int.reduceNeg,Int.reduceLT,Int.reduceBEq,Int.reduceBNe,Int.reduceEq,Tryd.facts,g0,g2,g8,hb5,hb6,hat2,hdl]
                  first | exact ⟨m2 - 1,by omega,j + 1,by omega,by rw [hpt,hjp,decide_eq_false hz]; rfl,rfl⟩ | trace_state
              · obtain rfl : j = n := by omega
                have hb5 : decide ((j : Int) < (j : Int)) = false := by simp
                rw [hjp]
                simp (disch := omega) only [↓aI,↓zP,aD,zD,aS,Nat.reduceBEq,Nat.reduceLT,reduceCtorEq,↓reduceIte,Nat.reduceMul,Nat.reduceAdd,Nat.reduceLeDiff,Nat.reduceEqDiff,Int.reduceToNat,Nat.reduceSub,Nat.reduceMod,Nat.reduceDiv,Int.reducePow,Int.reduceLE,Int.reduceNeg,Int.reduceLT,Int.reduceBEq,Int.reduceBNe,Int.reduceEq,Tryd.facts,g0,g2,g8,hb5]
                first | exact Abs.Sub.refl _ | trace_state
end Go.Proofs.YtejncnmdjkhiaaaDoor
end
section
set_option linter.unusedSimpArgs false
set_option linter.unusedVariables false
set_option maxRecDepth 20000
namespace Go.Proofs.YtejncnmdjkhiaaaDoor
open Go Go.Abs Go.Proofs Go.Sha
theorem getD_set_ne {l : List Nat} {i j y : Nat} (h : i ≠ j) : (l.set i y).getD j 0 = l.getD j 0 := by simp [List.getD,List.getElem?_set,h]
theorem set_self {l : List Nat} {i x : Nat} (h : l.getD i 0 = x) (hi : i < l.length) : l.set i x = l := by
  subst h
  simp only [List.getD,List.getElem?_eq_getElem hi,Option.getD_some,List.set_getElem_self]
theorem getD_set_eq {l : List Nat} {i y : Nat} (h : i < l.length) : (l.set i y).getD i 0 = y := by simp [List.getD,h]
theorem root3_pure (p : Nat) (h1 : 1 ≤ p) (h2 : p < 65536) : APure Tryd.prog 56 [.sc (.int .i64 p),.sc (.int .i64 3)] (.sc (.int .u64 (rootN p 3 : Nat))) := by
  have hrs := root_spec (p := p) (power := 3) (by omega) h1 h2 _ rfl
  refine az (c := ⟨Tryd.prog,63,[(14,[0,0,1,0,0,0,1,0,0,0,0,1,0,0,0,0,1,0,0]),(4000014,[4]),(4000013,[0,1,5,6,7]),(4000012,[0,1,5,6,7,37]),(4000008,[0,1,5,6,7])],[],[]⟩) (rs := [ResultVar.tmp 4]) Tryd.mixed Tryd.func56 rfl rfl rfl (Nat.le_of_ble_eq_true rfl) (by kernel_rfl) fun H => ?_
  simp (disch := omega) only [↓aI,↓zP,aD,zD,aS,Nat.reduceBEq,Nat.reduceLT,reduceCtorEq,↓reduceIte,Nat.reduceMul,Nat.reduceAdd,Nat.reduceLeDiff,Nat.reduceEqDiff,Int.reduceToNat,Nat.reduceSub,Nat.reduceMod,Nat.reduceDiv,Int.reducePow,Int.reduceLE,Int.reduceNeg,Int.reduceLT,Int.reduceBEq,Int.reduceBNe,Int.reduceEq,Tryd.facts]
  intro k hk0 hk
  refine br (c := ⟨Tryd.prog,63,[(14,[0,0,1,0,0,0,1,0,0,0,0,1,0,0,0,0,1,0,0]),(4000014,[4]),(4000013,[0,1,5,6,7]),(4000012,[0,1,5,6,7,37]),(4000008,[0,1,5,6,7])],[],[]⟩) Tryd.mixed (by kernel_rfl) (fun m σ H' => ∃ (i : Nat) (z : Int) (d : List Nat),i = m ∧ i ≤ 5 ∧ z = (i : Int) - 1 ∧ Dig d ∧ d.length = 5 ∧ (∀ j,j < i → d.getD j 0 = 0) ∧ iZ p 3 i d = iZ p 3 5 [0,0,0,0,0] ∧ σ 0 = .sc (.int .i64 p) ∧ σ 1 = .sc (.int .i64 3) ∧ σ 5 = .own k 0 5 ∧ σ 6 = .sc (.int .i64 z) ∧ H' = H.set k (.cells (digA d) 47 1)) 5 ?_ ?_
  · refine ⟨5,4,[0,0,0,0,0],rfl,by omega,by omega,by intro x hx; simp at hx; omega,rfl,fun j hj => by match j,hj with | 0,_ | 1,_ | 2,_ | 3,_ | 4,_ => rfl,rfl,?_⟩
    simp (disch := omega) only [↓aI,↓zP,aD,zD,aS,Nat.reduceBEq,Nat.reduceLT,reduceCtorEq,↓reduceIte,Nat.reduceMul,Nat.reduceAdd,Nat.reduceLeDiff,Nat.reduceEqDiff,Int.reduceToNat,Nat.reduceSub,Nat.reduceMod,Nat.reduceDiv,Int.reducePow,Int.reduceLE,Int.reduceNeg,Int.reduceLT,Int.reduceBEq,Int.reduceBNe,Int.reduceEq,Tryd.facts]
    rfl
  · rintro m σ H' ⟨i,z,d,him,hi5,hz,hd,hl,h00,hdg,g0,g1,g5,g6,rfl⟩
    match i with
    | 0 =>
      have hb1 : decide ((0 : Int) ≤ z) = false := by simp; omega
      have hrd : d = iZ p 3 5 [0,0,0,0,0] := hdg
      rw [← hrd] at hrs
      have t3 := digA_at (l := d) (i := 3) (by omega)
      have t2 := digA_at (l := d) (i := 2) (by omega)
      have t1 := digA_at (l := d) (i := 1) (by omega)
      have t0 := digA_at (l := d) (i := 0) (by omega)
      have b3 := dig_getD hd 3
      have b2 := dig_getD hd 2
      have b1 := dig_getD hd 1
      have b0 := dig_getD hd 0
      have hdl := digA_length d
      rw [← hrs]
      generalize d.getD 3 0 = w3 at *
      generalize d.getD 2 0 = w2 at *
      generalize d.getD 1 0 = w1 at *
      generalize d.getD 0 0 = w0 at *
      have q3 : IntKind.u64.wrap ((w3 : Int) * 281474976710656) = ((w3 * 281474976710656 : Nat) : Int) := umul64n (n := 281474976710656) (by show w3 * 281474976710656 < _; omega)
      have q2 : IntKind.u64.wrap ((w2 : Int) * 4294967296) = ((w2 * 4294967296 : Nat) : Int) := umul64n (n := 4294967296) (by show w2 * 4294967296 < _; omega)
      have q1 : IntKind.u64.wrap ((w1 : Int) * 65536) = ((w1 * 65536 : Nat) : Int) := umul64n (n := 65536) (by show w1 * 65536 < _; omega)
      have s1 : IntKind.u64.wrap (((w3 * 281474976710656 : Nat) : Int) + ((w2 * 4294967296 : Nat) : Int)) = ((w3 * 281474976710656 + w2 * 4294967296 : Nat) : Int) := uadd64 (by omega)
      have s2 : IntKind.u64.wrap (((w3 * 281474976710656 + w2 * 4294967296 : Nat) : Int) + ((w1 * 65536 : Nat) : Int)) = ((w3 * 281474976710656 + w2 * 4294967296 + w1 * 65536 : Nat) : Int) := uadd64 (by omega)
      have s3 : IntKind.u64.wrap (((w3 * 281474976710656 + w2 * 4294967296 + w1 * 65536 : Nat) : Int) + (w0 : Int)) = ((w3 * 281474976710656 + w2 * 4294967296 + w1 * 65536 + w0 : Nat) : Int) := uadd64 (by omega)
      simp (disch := omega) only [↓aI,↓zP,aD,zD,aS,Nat.reduceBEq,Nat.reduceLT,reduceCtorEq,↓reduceIte,Nat.reduceMul,Nat.reduceAdd,Nat.reduceLeDiff,Nat.reduceEqDiff,Int.reduceToNat,Nat.reduceSub,Nat.reduceMod,Nat.reduceDiv,Int.reducePow,Int.reduceLE,Int.reduceNeg,Int.reduceLT,Int.reduceBEq,Int.reduceBNe,Int.reduceEq,Tryd.facts,g0,g1,g5,g6,hb1,t3,t2,t1,t0,hdl,q3,q2,q1,s1,s2,s3]
      first | exact Sub.set_new hk | trace_state
    | i + 1 =>
      obtain rfl : z = (i : Int) := by omega
      have hb1 : decide ((0 : Int) ≤ (i : Int)) = true := by simp
      have hdi := h00 i (by omega)
      have hdj : ∀ j,j < i → d.getD j 0 = 0 := fun j hj => h00 j (by omega)
      simp (disch := omega) only [↓aI,↓zP,aD,zD,aS,Nat.reduceBEq,Nat.reduceLT,reduceCtorEq,↓reduceIte,Nat.reduceMul,Nat.reduceAdd,Nat.reduceLeDiff,Nat.reduceEqDiff,Int.reduceToNat,Nat.reduceSub,Nat.reduceMod,Nat.reduceDiv,Int.reducePow,Int.reduceLE,Int.reduceNeg,Int.reduceLT,Int.reduceBEq,Int.reduceBNe,Int.reduceEq,Tryd.facts,g0,g1,g5,g6,hb1]
      refine br (c := ⟨Tryd.prog,63,[(14,[0,0,1,0,0,0,1,0,0,0,0,1,0,0,0,0,1,0,0]),(4000014,[4]),(4000013,[0,1,5,6,7]),(4000012,[0,1,5,6,7,37]),(4000008,[0,1,5,6,7])],[],[]⟩) Tryd.mixed (by kernel_rfl) (fun m2 σ2 H2 => ∃ (s st : Nat) (d' : List Nat),s = m2 ∧ s ≤ 16 ∧ st = 2 ^ s / 2 ∧ Dig d' ∧ d'.length = 5 ∧ d'.getD i 0 + 2 ^ s ≤ 65536 ∧ (∀ j,j < i → d'.getD j 0 = 0) ∧ bitM p 3 i s d' = bitM p 3 i 16 d ∧ σ2 0 = .sc (.int .i64 p) ∧ σ2 1 = .sc (.int .i64 3) ∧ σ2 5 = .own k 0 5 ∧ σ2 6 = .sc (.int .i64 i) ∧ σ2 7 = .sc (.int .u64 st) ∧ H2 = H.set k (.cells (digA d') 47 1)) 16 ?_ ?_
      · refine ⟨16,32768,d,rfl,by omega,rfl,hd,hl,by omega,hdj,rfl,?_⟩
        simp (disch := omega) only [↓aI,↓zP,aD,zD,aS,Nat.reduceBEq,Nat.reduceLT,reduceCtorEq,↓reduceIte,Nat.reduceMul,Nat.reduceAdd,Nat.reduceLeDiff,Nat.reduceEqDiff,Int.reduceToNat,Nat.reduceSub,Nat.reduceMod,Nat.reduceDiv,Int.reducePow,Int.reduceLE,Int.reduceNeg,Int.reduceLT,Int.reduceBEq,Int.reduceBNe,Int.reduceEq,Tryd.facts,g0,g1,g5,g6]
      · rintro m2 σ2 H2 ⟨s,st,d',hsm,hs16,hst,hd',hl',hlt,hdj',hbt,g0,g1,g5,g6,g7,rfl⟩
        match s with
        | 0 =>
          obtain rfl : st = 0 := by simpa using hst
          have hw : IntKind.i64.wrap ((i : Int) - 1) = (i : Int) - 1 := iw (by omega)
          simp (disch := omega) only [↓aI,↓zP,aD,zD,aS,Nat.reduceBEq,Nat.reduceLT,reduceCtorEq,↓reduceIte,Nat.reduceMul,Nat.reduceAdd,Nat.reduceLeDiff,Nat.reduceEqDiff,Int.reduceToNat,Nat.reduceSub,Nat.reduceMod,Nat.reduceDiv,Int.reducePow,Int.reduceLE,Int.reduceNeg,Int.reduceLT,Int.reduceBEq,Int.reduceBNe,Int.reduceEq,Tryd.facts,g0,g1,g5,g6,g7,hw]
          exact ⟨i,by omega,i,_,d',rfl,by omega,rfl,hd',hl',hdj',by rw [← hdg]; show _ = iZ p 3 i (bitM p 3 i 16 d); rw [← hbt]; rfl,rfl,rfl⟩
        | s + 1 =>
          have hst' : st = 2 ^ s := by rw [hst,Nat.pow_succ]; omega
          subst hst'
          have hps : 2 ^ (s + 1) = 2 ^ s * 2 := Nat.pow_succ ..
          have hpp : 0 < 2 ^ s := Nat.two_pow_pos s
          have hb2 := dlt0 hpp
          have hat := digA_at (l := d') (i := i) (by omega)
          have hbm : bitM p 3 i (s + 1) d' = bitM p 3 i s (if mostM (powM (d'.set i (d'.getD i 0 + 2 ^ s)) 3) p (4 * 3) then d' else d'.set i (d'.getD i 0 + 2 ^ s)) := rfl
          generalize hT : 2 ^ s = T at *
          generalize hX : d'.getD i 0 = x at *
          have hwa : IntKind.u64.wrap ((x : Int) + (T : Int)) = ((x + T : Nat) : Int) := uadd64 (by omega)
          have hput := digA_put (l := d') (i := i) (x := x + T) (by omega)
          have hd'' : Dig (d'.set i (x + T)) := dig_set hd' i (by omega)
          have hl'' : (d'.set i (x + T)).length = 5 := by rw [List.length_set]; exact hl'
          have hdl' := digA_length d'
          have hdl'' := digA_length (d'.set i (x + T))
          simp (disch := omega) only [↓aI,↓zP,aD,zD,aS,Nat.reduceBEq,Nat.reduceLT,reduceCtorEq,↓reduceIte,Nat.reduceMul,Nat.reduceAdd,Nat.reduceLeDiff,Nat.reduceEqDiff,Int.reduceToNat,Nat.reduceSub,Nat.reduceMod,Nat.reduceDiv,Int.reducePow,Int.reduceLE,Int.reduceNeg,Int.reduceLT,Int.reduceBEq,Int.reduceBNe,Int.reduceEq,Tryd.facts,g0,g1,g5,g6,g7,hb2,hat,hdl',hwa,hput]
          have hx1 := mulM_spec hd'' hd''
          have hm1 := mul_oo (H.set k (.cells (digA (d'.set i (x + T))) 47 1)) k (d'.set i (x + T)) hd'' (by omega) set_get
          rw [hl''] at hm1
          refine CallK.i hm1 ?_
          rintro v E ⟨rfl,rfl⟩
          simp (disch := omega) only [↓aI,↓zP,aD,zD,aS,Nat.reduceBEq,Nat.reduceLT,reduceCtorEq,↓reduceIte,Nat.reduceMul,Nat.reduceAdd,Nat.reduceLeDiff,Nat.reduceEqDiff,Int.reduceToNat,Nat.reduceSub,Nat.reduceMod,Nat.reduceDiv,Int.reducePow,Int.reduceLE,Int.reduceNeg,Int.reduceLT,Int.reduceBEq,Int.reduceBNe,Int.reduceEq,Tryd.facts,g0,g1,g5,g6,g7]
          have hm2 := mul_ii (H.set k (.cells (digA (d'.set i (x + T))) 47 1)) k (mulM (d'.set i (x + T)) (d'.set i (x + T))) (d'.set i (x + T)) hx1.1 hd'' (by rw [hx1.2.1]; omega) (by omega) set_get
          rw [hx1.2.1,hl''] at hm2
          refine CallK.i hm2 ?_
          rintro v2 E2 ⟨rfl,rfl⟩
          simp (disch := omega) only [↓aI,↓zP,aD,zD,aS,Nat.reduceBEq,Nat.reduceLT,reduceCtorEq,↓reduceIte,Nat.reduceMul,Nat.reduceAdd,Nat.reduceLeDiff,Nat.reduceEqDiff,Int.reduceToNat,Nat.reduceSub,Nat.reduceMod,Nat.reduceDiv,Int.reducePow,Int.reduceLE,Int.reduceNeg,Int.reduceLT,Int.reduceBEq,Int.reduceBNe,Int.reduceEq,Tryd.facts,g0,g1,g5,g6,g7]
          have hxd : Dig (mulM (mulM (d'.set i (x + T)) (d'.set i (x + T))) (d'.set i (x + T))) := (mulM_spec hx1.1 hd'').1
          have hxl : (mulM (mulM (d'.set i (x + T)) (d'.set i (x + T))) (d'.set i (x + T))).length = 15 := by rw [(mulM_spec hx1.1 hd'').2.1,hx1.2.1,hl'']
          have hms := most_pure (mulM (mulM (d'.set i (x + T)) (d'.set i (x + T))) (d'.set i (x + T))) p 12 hxd (by omega) h2 (by omega)
          rw [hxl] at hms
          have hatn := digA_at (l := d'.set i (x + T)) (i := i) (by omega)
          rw [getD_set_eq (by omega)] at hatn
          have hsb : IntKind.u64.wrap (((x + T : Nat) : Int) - (T : Int)) = (x : Int) := by
            rw [show ((x + T : Nat) : Int) - (T : Int) = (x : Int) by omega]
            exact jw (by omega)
          have hpb : bG (digA (d'.set i (x + T))) i [.sc (.int .u64 x)] = digA d' := by
            rw [digA_put (by omega),List.set_set,set_self hX (by omega)]
          have hst2 : IntKind.u64.wrap ((T : Int).tdiv 2) = ((T / 2 : Nat) : Int) := (congrArg _ (show (T : Int).tdiv 2 = ((T / 2 : Nat) : Int) from rfl)).trans (jw (by omega))
          have hTs : T / 2 = 2 ^ s / 2 := by rw [hT]
          have h0' : ∀ y,∀ j,j < i → (d'.set i y).getD j 0 = 0 := fun y j hj => by rw [getD_set_ne (by omega)]; exact hdj' j hj
          first | refine CallK.p (hms) ?_ | refine CallP.i (hms) ?_
          simp (disch := omega) only [↓aI,↓zP,aD,zD,aS,Nat.reduceBEq,Nat.reduceLT,reduceCtorEq,↓reduceIte,Nat.reduceMul,Nat.reduceAdd,Nat.reduceLeDiff,Nat.reduceEqDiff,Int.reduceToNat,Nat.reduceSub,Nat.reduceMod,Nat.reduceDiv,Int.reducePow,Int.reduceLE,Int.reduceNeg,Int.reduceLT,Int.reduceBEq,Int.reduceBNe,Int.reduceEq,Tryd.facts,g0,g1,g5,g6,g7]
          by_cases hmost : mostM (mulM (mulM (d'.set i (x + T)) (d'.set i (x + T))) (d'.set i (x + T))) p 12 = true
          · rw [hmost]
            simp (disch := omega) only [↓aI,↓zP,aD,zD,aS,Nat.reduceBEq,Nat.reduceLT,reduceCtorEq,↓reduceIte,Nat.reduceMul,Nat.reduceAdd,Nat.reduceLeDiff,Nat.reduceEqDiff,Int.reduceToNat,Nat.reduceSub,Nat.reduceMod,Nat.reduceDiv,Int.reducePow,Int.reduceLE,Int.reduceNeg,Int.reduceLT,Int.reduceBEq,Int.reduceBNe,Int.reduceEq,Tryd.facts,g0,g1,g5,g6,g7,hatn,hsb,hpb,hdl'',hst2]
            exact ⟨m2 - 1,by omega,s,T / 2,d',by omega,by omega,hTs,hd',hl',by omega,hdj',by rw [← hbt,hbm]; exact congrArg (bitM p 3 i s) (if_pos hmost).symm,rfl,rfl⟩
          · have hmf : mostM (mulM (mulM (d'.set i (x + T)) (d'.set i (x + T))) (d'.set i (x + T))) p 12 = false := by simpa using hmost
            rw [hmf]
            simp (disch := omega) only [↓aI,↓zP,aD,zD,aS,Nat.reduceBEq,Nat.reduceLT,reduceCtorEq,↓reduceIte,Nat.reduceMul,Nat.reduceAdd,Nat.reduceLeDiff,Nat.reduceEqDiff,Int.reduceToNat,Nat.reduceSub,Nat.reduceMod,Nat.reduceDiv,Int.reducePow,Int.reduceLE,Int.reduceNeg,Int.reduceLT,Int.reduceBEq,Int.reduceBNe,Int.reduceEq,Tryd.facts,g0,g1,g5,g6,g7,hst2]
            exact ⟨m2 - 1,by omega,s,T / 2,d'.set i (x + T),by omega,by omega,hTs,hd'',hl'',by rw [getD_set_eq (by omega)]; omega,h0' _,by rw [← hbt,hbm]; exact congrArg (bitM p 3 i s) (if_neg hmost).symm,rfl,rfl⟩
theorem root2_pure (p : Nat) (h1 : 1 ≤ p) (h2 : p < 65536) : APure Tryd.prog 56 [.sc (.int .i64 p),.sc (.int .i64 2)] (.sc (.int .u64 (rootN p 2 : Nat))) := by
  have hrs := root_spec (p := p) (power := 2) (by omega) h1 h2 _ rfl
  refine az (c := ⟨Tryd.prog,63,[(14,[0,0,1,0,0,0,1,0,0,0,0,1,0,0,0,0,1,0,0]),(4000014,[4]),(4000013,[0,1,5,6,7]),(4000012,[0,1,5,6,7,37]),(4000008,[0,1,5,6,7])],[],[]⟩) (rs := [ResultVar.tmp 4]) Tryd.mixed Tryd.func56 rfl rfl rfl (Nat.le_of_ble_eq_true rfl) (by kernel_rfl) fun H => ?_
  simp (disch := omega) only [↓aI,↓zP,aD,zD,aS,Nat.reduceBEq,Nat.reduceLT,reduceCtorEq,↓reduceIte,Nat.reduceMul,Nat.reduceAdd,Nat.reduceLeDiff,Nat.reduceEqDiff,Int.reduceToNat,Nat.reduceSub,Nat.reduceMod,Nat.reduceDiv,Int.reducePow,Int.reduceLE,Int.reduceNeg,Int.reduceLT,Int.reduceBEq,Int.reduceBNe,Int.reduceEq,Tryd.facts]
  intro k hk0 hk
  refine br (c := ⟨Tryd.prog,63,[(14,[0,0,1,0,0,0,1,0,0,0,0,1,0,0,0,0,1,0,0]),(4000014,[4]),(4000013,[0,1,5,6,7]),(4000012,[0,1,5,6,7,37]),(4000008,[0,1,5,6,7])],[],[]⟩) Tryd.mixed (by kernel_rfl) (fun m σ H' => ∃ (i : Nat) (z : Int) (d : List Nat),i = m ∧ i ≤ 5 ∧ z = (i : Int) - 1 ∧ Dig d ∧ d.length = 5 ∧ (∀ j,j < i → d.getD j 0 = 0) ∧ iZ p 2 i d = iZ p 2 5 [0,0,0,0,0] ∧ σ 0 = .sc (.int .i64 p) ∧ σ 1 = .sc (.int .i64 2) ∧ σ 5 = .own k 0 5 ∧ σ 6 = .sc (.int .i64 z) ∧ H' = H.set k (.cells (digA d) 47 1)) 5 ?_ ?_
  · refine ⟨5,4,[0,0,0,0,0],rfl,by omega,by omega,by intro x hx; simp at hx; omega,rfl,fun j hj => by match j,hj with | 0,_ | 1,_ | 2,_ | 3,_ | 4,_ => rfl,rfl,?_⟩
    simp (disch := omega) only [↓aI,↓zP,aD,zD,aS,Nat.reduceBEq,Nat.reduceLT,reduceCtorEq,↓reduceIte,Nat.reduceMul,Nat.reduceAdd,Nat.reduceLeDiff,Nat.reduceEqDiff,Int.reduceToNat,Nat.reduceSub,Nat.reduceMod,Nat.reduceDiv,Int.reducePow,Int.reduceLE,Int.reduceNeg,Int.reduceLT,Int.reduceBEq,Int.reduceBNe,Int.reduceEq,Tryd.facts]
    rfl
  · rintro m σ H' ⟨i,z,d,him,hi5,hz,hd,hl,h00,hdg,g0,g1,g5,g6,rfl⟩
    match i with
    | 0 =>
      have hb1 : decide ((0 : Int) ≤ z) = false := by simp; omega
      have hrd : d = iZ p 2 5 [0,0,0,0,0] := hdg
      rw [← hrd] at hrs
      have t3 := digA_at (l := d) (i := 3) (by omega)
      have t2 := digA_at (l := d) (i := 2) (by omega)
      have t1 := digA_at (l := d) (i := 1) (by omega)
      have t0 := digA_at (l := d) (i := 0) (by omega)
      have b3 := dig_getD hd 3
      have b2 := dig_getD hd 2
      have b1 := dig_getD hd 1
      have b0 := dig_getD hd 0
      have hdl := digA_length d
      rw [← hrs]
      generalize d.getD 3 0 = w3 at *
      generalize d.getD 2 0 = w2 at *
      generalize d.getD 1 0 = w1 at *
      generalize d.getD 0 0 = w0 at *
      have q3 : IntKind.u64.wrap ((w3 : Int) * 281474976710656) = ((w3 * 281474976710656 : Nat) : Int) := umul64n (n := 281474976710656) (by show w3 * 281474976710656 < _; omega)
      have q2 : IntKind.u64.wrap ((w2 : Int) * 4294967296) = ((w2 * 4294967296 : Nat) : Int) := umul64n (n := 4294967296) (by show w2 * 4294967296 < _; omega)
      have q1 : IntKind.u64.wrap ((w1 : Int) * 65536) = ((w1 * 65536 : Nat) : Int) := umul64n (n := 65536) (by show w1 * 65536 < _; omega)
      have s1 : IntKind.u64.wrap (((w3 * 281474976710656 : Nat) : Int) + ((w2 * 4294967296 : Nat) : Int)) = ((w3 * 281474976710656 + w2 * 4294967296 : Nat) : Int) := uadd64 (by omega)
      have s2 : IntKind.u64.wrap (((w3 * 281474976710656 + w2 * 4294967296 : Nat) : Int) + ((w1 * 65536 : Nat) : Int)) = ((w3 * 281474976710656 + w2 * 4294967296 + w1 * 65536 : Nat) : Int) := uadd64 (by omega)
      have s3 : IntKind.u64.wrap (((w3 * 281474976710656 + w2 * 4294967296 + w1 * 65536 : Nat) : Int) + (w0 : Int)) = ((w3 * 281474976710656 + w2 * 4294967296 + w1 * 65536 + w0 : Nat) : Int) := uadd64 (by omega)
      simp (disch := omega) only [↓aI,↓zP,aD,zD,aS,Nat.reduceBEq,Nat.reduceLT,reduceCtorEq,↓reduceIte,Nat.reduceMul,Nat.reduceAdd,Nat.reduceLeDiff,Nat.reduceEqDiff,Int.reduceToNat,Nat.reduceSub,Nat.reduceMod,Nat.reduceDiv,Int.reducePow,Int.reduceLE,Int.reduceNeg,Int.reduceLT,Int.reduceBEq,Int.reduceBNe,Int.reduceEq,Tryd.facts,g0,g1,g5,g6,hb1,t3,t2,t1,t0,hdl,q3,q2,q1,s1,s2,s3]
      first | exact Sub.set_new hk | trace_state
    | i + 1 =>
      obtain rfl : z = (i : Int) := by omega
      have hb1 : decide ((0 : Int) ≤ (i : Int)) = true := by simp
      have hdi := h00 i (by omega)
      have hdj : ∀ j,j < i → d.getD j 0 = 0 := fun j hj => h00 j (by omega)
      simp (disch := omega) only [↓aI,↓zP,aD,zD,aS,Nat.reduceBEq,Nat.reduceLT,reduceCtorEq,↓reduceIte,Nat.reduceMul,Nat.reduceAdd,Nat.reduceLeDiff,Nat.reduceEqDiff,Int.reduceToNat,Nat.reduceSub,Nat.reduceMod,Nat.reduceDiv,Int.reducePow,Int.reduceLE,Int.reduceNeg,Int.reduceLT,Int.reduceBEq,Int.reduceBNe,Int.reduceEq,Tryd.facts,g0,g1,g5,g6,hb1]
      refine br (c := ⟨Tryd.prog,63,[(14,[0,0,1,0,0,0,1,0,0,0,0,1,0,0,0,0,1,0,0]),(4000014,[4]),(4000013,[0,1,5,6,7]),(4000012,[0,1,5,6,7,37]),(4000008,[0,1,5,6,7])],[],[]⟩) Tryd.mixed (by kernel_rfl) (fun m2 σ2 H2 => ∃ (s st : Nat) (d' : List Nat),s = m2 ∧ s ≤ 16 ∧ st = 2 ^ s / 2 ∧ Dig d' ∧ d'.length = 5 ∧ d'.getD i 0 + 2 ^ s ≤ 65536 ∧ (∀ j,j < i → d'.getD j 0 = 0) ∧ bitM p 2 i s d' = bitM p 2 i 16 d ∧ σ2 0 = .sc (.int .i64 p) ∧ σ2 1 = .sc (.int .i64 2) ∧ σ2 5 = .own k 0 5 ∧ σ2 6 = .sc (.int .i64 i) ∧ σ2 7 = .sc (.int .u64 st) ∧ H2 = H.set k (.cells (digA d') 47 1)) 16 ?_ ?_
      · refine ⟨16,32768,d,rfl,by omega,rfl,hd,hl,by omega,hdj,rfl,?_⟩
        simp (disch := omega) only [↓aI,↓zP,aD,zD,aS,Nat.reduceBEq,Nat.reduceLT,reduceCtorEq,↓reduceIte,Nat.reduceMul,Nat.reduceAdd,Nat.reduceLeDiff,Nat.reduceEqDiff,Int.reduceToNat,Nat.reduceSub,Nat.reduceMod,Nat.reduceDiv,Int.reducePow,Int.reduceLE,Int.reduceNeg,Int.reduceLT,Int.reduceBEq,Int.reduceBNe,Int.reduceEq,Tryd.facts,g0,g1,g5,g6]
      · rintro m2 σ2 H2 ⟨s,st,d',hsm,hs16,hst,hd',hl',hlt,hdj',hbt,g0,g1,g5,g6,g7,rfl⟩
        match s with
        | 0 =>
          obtain rfl : st = 0 := by simpa using hst
          have hw : IntKind.i64.wrap ((i : Int) - 1) = (i : Int) - 1 := iw (by omega)
          simp (disch := omega) only [↓aI,↓zP,aD,zD,aS,Nat.reduceBEq,Nat.reduceLT,reduceCtorEq,↓reduceIte,Nat.reduceMul,Nat.reduceAdd,Nat.reduceLeDiff,Nat.reduceEqDiff,Int.reduceToNat,Nat.reduceSub,Nat.reduceMod,Nat.reduceDiv,Int.reducePow,Int.reduceLE,Int.reduceNeg,Int.reduceLT,Int.reduceBEq,Int.reduceBNe,Int.reduceEq,Tryd.facts,g0,g1,g5,g6,g7,hw]
          exact ⟨i,by omega,i,_,d',rfl,by omega,rfl,hd',hl',hdj',by rw [← hdg]; show _ = iZ p 2 i (bitM p 2 i 16 d); rw [← hbt]; rfl,rfl,rfl⟩
        | s + 1 =>
          have hst' : st = 2 ^ s := by rw [hst,Nat.pow_succ]; omega
          subst hst'
          have hps : 2 ^ (s + 1) = 2 ^ s * 2 := Nat.pow_succ ..
          have hpp : 0 < 2 ^ s := Nat.two_pow_pos s
          have hb2 := dlt0 hpp
          have hat := digA_at (l := d') (i := i) (by omega)
          have hbm : bitM p 2 i (s + 1) d' = bitM p 2 i s (if mostM (powM (d'.set i (d'.getD i 0 + 2 ^ s)) 2) p (4 * 2) then d' else d'.set i (d'.getD i 0 + 2 ^ s)) := rfl
          generalize hT : 2 ^ s = T at *
          generalize hX : d'.getD i 0 = x at *
          have hwa : IntKind.u64.wrap ((x : Int) + (T : Int)) = ((x + T : Nat) : Int) := uadd64 (by omega)
          have hput := digA_put (l := d') (i := i) (x := x + T) (by omega)
          have hd'' : Dig (d'.set i (x + T)) := dig_set hd' i (by omega)
          have hl'' : (d'.set i (x + T)).length = 5 := by rw [List.length_set]; exact hl'
          have hdl' := digA_length d'
          have hdl'' := digA_length (d'.set i (x + T))
          simp (disch := omega) only [↓aI,↓zP,aD,zD,aS,Nat.reduceBEq,Nat.reduceLT,reduceCtorEq,↓reduceIte,Nat.reduceMul,Nat.reduceAdd,Nat.reduceLeDiff,Nat.reduceEqDiff,Int.reduceToNat,Nat.reduceSub,Nat.reduceMod,Nat.reduceDiv,Int.reducePow,Int.reduceLE,Int.reduceNeg,Int.reduceLT,Int.reduceBEq,Int.reduceBNe,Int.reduceEq,Tryd.facts,g0,g1,g5,g6,g7,hb2,hat,hdl',hwa,hput]
          have hx1 := mulM_spec hd'' hd''
          have hm1 := mul_oo (H.set k (.cells (digA (d'.set i (x + T))) 47 1)) k (d'.set i (x + T)) hd'' (by omega) set_get
          rw [hl''] at hm1
          refine CallK.i hm1 ?_
          rintro v E ⟨rfl,rfl⟩
          simp (disch := omega) only [↓aI,↓zP,aD,zD,aS,Nat.reduceBEq,Nat.reduceLT,reduceCtorEq,↓reduceIte,Nat.reduceMul,Nat.reduceAdd,Nat.reduceLeDiff,Nat.reduceEqDiff,Int.reduceToNat,Nat.reduceSub,Nat.reduceMod,Nat.reduceDiv,Int.reducePow,Int.reduceLE,Int.reduceNeg,Int.reduceLT,Int.reduceBEq,Int.reduceBNe,Int.reduceEq,Tryd.facts,g0,g1,g5,g6,g7]
          have hxd : Dig (mulM (d'.set i (x + T)) (d'.set i (x + T))) := hx1.1
          have hxl : (mulM (d'.set i (x + T)) (d'.set i (x + T))).length = 10 := by rw [hx1.2.1,hl'']
          have hms := most_pure (mulM (d'.set i (x + T)) (d'.set i (x + T))) p 8 hxd (by omega) h2 (by omega)
          rw [hxl] at hms
          have hatn := digA_at (l := d'.set i (x + T)) (i := i) (by omega)
          rw [getD_set_eq (by omega)] at hatn
          have hsb : IntKind.u64.wrap (((x + T : Nat) : Int) - (T : Int)) = (x : Int) := by
            rw [show ((x + T : Nat) : Int) - (T : Int) = (x : Int) by omega]
            exact jw (by omega)
          have hpb : bG (digA (d'.set i (x + T))) i [.sc (.int .u64 x)] = digA d' := by
            rw [digA_put (by omega),List.set_set,set_self hX (by omega)]
          have hst2 : IntKind.u64.wrap ((T : Int).tdiv 2) = ((T / 2 : Nat) : Int) := (congrArg _ (show (T : Int).tdiv 2 = ((T / 2 : Nat) : Int) from rfl)).trans (jw (by omega))
          have hTs : T / 2 = 2 ^ s / 2 := by rw [hT]
          have h0' : ∀ y,∀ j,j < i → (d'.set i y).getD j 0 = 0 := fun y j hj => by rw [getD_set_ne (by omega)]; exact hdj' j hj
          first | refine CallK.p (hms) ?_ | refine CallP.i (hms) ?_
          simp (disch := omega) only [↓aI,↓zP,aD,zD,aS,Nat.reduceBEq,Nat.reduceLT,reduceCtorEq,↓reduceIte,Nat.reduceMul,Nat.reduceAdd,Nat.reduceLeDiff,Nat.reduceEqDiff,Int.reduceToNat,Nat.reduceSub,Nat.reduceMod,Nat.reduceDiv,Int.reducePow,Int.reduceLE,Int.reduceNeg,Int.reduceLT,Int.reduceBEq,Int.reduceBNe,Int.reduceEq,Tryd.facts,g0,g1,g5,g6,g7]
          by_cases hmost : mostM (mulM (d'.set i (x + T)) (d'.set i (x + T))) p 8 = true
          · rw [hmost]
            simp (disch := omega) only [↓aI,↓zP,aD,zD,aS,Nat.reduceBEq,Nat.reduceLT,reduceCtorEq,↓reduceIte,Nat.reduceMul,Nat.reduceAdd,Nat.reduceLeDiff,Nat.reduceEqDiff,Int.reduceToNat,Nat.reduceSub,Nat.reduceMod,Nat.reduceDiv,Int.reducePow,Int.reduceLE,Int.reduceNeg,Int.reduceLT,Int.reduceBEq,Int.reduceBNe,Int.reduceEq,Tryd.facts,g0,g1,g5,g6,g7,hatn,hsb,hpb,hdl'',hst2]
            exact ⟨m2 - 1,by omega,s,T / 2,d',by omega,by omega,hTs,hd',hl',by omega,hdj',by rw [← hbt,hbm]; exact congrArg (bitM p 2 i s) (if_pos hmost).symm,rfl,rfl⟩
          · have hmf : mostM (mulM (d'.set i (x + T)) (d'.set i (x + T))) p 8 = false := by simpa using hmost
            rw [hmf]
            simp (disch := omega) only [↓aI,↓zP,aD,zD,aS,Nat.reduceBEq,Nat.reduceLT,reduceCtorEq,↓reduceIte,Nat.reduceMul,Nat.reduceAdd,Nat.reduceLeDiff,Nat.reduceEqDiff,Int.reduceToNat,Nat.reduceSub,Nat.reduceMod,Nat.reduceDiv,Int.reducePow,Int.reduceLE,Int.reduceNeg,Int.reduceLT,Int.reduceBEq,Int.reduceBNe,Int.reduceEq,Tryd.facts,g0,g1,g5,g6,g7,hst2]
            exact ⟨m2 - 1,by omega,s,T / 2,d'.set i (x + T),by omega,by omega,hTs,hd'',hl'',by rw [getD_set_eq (by omega)]; omega,h0' _,by rw [← hbt,hbm]; exact congrArg (bitM p 2 i s) (if_neg hmost).symm,rfl,rfl⟩
end Go.Proofs.YtejncnmdjkhiaaaDoor
end
