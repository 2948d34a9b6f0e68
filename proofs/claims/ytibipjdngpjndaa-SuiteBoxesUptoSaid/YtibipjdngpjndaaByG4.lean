/-
  Several texts in one: each says what it proves.
  Conditions: none. Lemmas only.
-/
import Derived.Test.YtibipjdngpjndaaByG3
import Derived.Test.YtibipjdngpjndaaBxG1
set_option linter.all false
section
set_option linter.unusedSimpArgs false
set_option linter.unusedVariables false
set_option maxRecDepth 20000
set_option maxHeartbeats 8000000
namespace Go.Proofs.Ytibipjdngpjndaa
open Go Go.Abs Go.Proofs Go.Box
theorem and32 (x : Nat) (hx : x < 18446744073709551616) : bits .and .u64 (x : Int) 4294967295 = ((x % 4294967296 : Nat) : Int) := by
  have h := bits_and64 (a := x) (b := 4294967295) hx (by decide)
  rw [show ((4294967295 : Nat) : Int) = 4294967295 from rfl] at h
  rw [h,show (4294967295 : Nat) = 2 ^ 32 - 1 from rfl,Nat.and_two_pow_sub_one_eq_mod]
theorem zeros_h {l : List AV} (h : l.length = 8) : bG [.sc (.int .u64 0),.sc (.int .u64 0),.sc (.int .u64 0),.sc (.int .u64 0),.sc (.int .u64 0),.sc (.int .u64 0),.sc (.int .u64 0),.sc (.int .u64 0)] 0 l = l := by
  rw [ah,h]
  simp
theorem get_under {H : AH} {a b : Nat} {x y : AObj} (h : ¬ a = b) : ((H.set a x).set b y) a = some x := by
  first
    | (rw [aP0 h]; exact set_get)
    | (rw [aP0 (fun e => h e.symm)]; exact set_get)
theorem shalves_pure (a : Nat) : APure Try.prog 75 [.agg (u64A (wordsW 4 a))] (.agg (u64A (digsH 8 a))) := by
  have hal : (u64A (wordsW 4 a)).length = 4 := by rw [u64A_length,wordsW_len]
  have hat : (u64A (wordsW 4 a)).take 4 = u64A (wordsW 4 a) := List.take_of_length_le (by omega)
  have ga := fun i (h : i < 8) => u64A_at (l := wordsW 4 a) (i := i / 2) (by rw [wordsW_len]; omega)
  have hh := fun i (h : i < 8) => half_of 4 a i h
  have mA := fun i => wget 4 a i
  have p0 : u64A (partH 8 a 0) = [.sc (.int .u64 0),.sc (.int .u64 0),.sc (.int .u64 0),.sc (.int .u64 0),.sc (.int .u64 0),.sc (.int .u64 0),.sc (.int .u64 0),.sc (.int .u64 0)] := rfl
  have pe := partH_end 8 a
  have pl := partH_len 8 a
  have ps := fun i h => partH_set 8 a (i := i) h
  rw [← pe]
  generalize partH 8 a = F at *
  generalize wordsW 4 a = A at *
  obtain ⟨Z,hZ⟩ : ∃ Z : AObj,Z = .cells [.sc (.int .u64 0),.sc (.int .u64 0),.sc (.int .u64 0),.sc (.int .u64 0),.sc (.int .u64 0),.sc (.int .u64 0),.sc (.int .u64 0),.sc (.int .u64 0)] 102 8 := ⟨_,rfl⟩
  refine az (c := ⟨Try.prog,21,[(1000000,[1])],[],[]⟩) (rs := [ResultVar.cell 2 102]) Try.mixed Try.func75 rfl rfl rfl (Nat.le_of_ble_eq_true rfl) (by kernel_rfl) fun H => ?_
  simp (disch := omega) only [↓aI,↓zP,aD,zD,aS0,Nat.reduceBEq,Nat.reduceLT,reduceCtorEq,↓reduceIte,Nat.reduceMul,Nat.reduceAdd,Nat.reduceLeDiff,Nat.reduceEqDiff,Int.reduceToNat,Nat.reduceSub,Nat.reduceMod,Nat.reduceDiv,Int.reducePow,Int.reduceLE,Int.reduceNeg,Int.reduceLT,Int.reduceBEq,Int.reduceBNe,Int.reduceEq,Try.facts,hal,hat]
  intro k1 hk10 hk1 k2 hk20 hk2
  have n12 := bK hk2
  have hk2' := am hk2
  have v1 : ∀ X Y,((H.set k1 X).set k2 Y) k1 = some X := fun X Y => by
    first
      | (rw [aP0 n12]; exact set_get)
      | (rw [aP0 (fun e => n12 e.symm)]; exact set_get)
  simp (disch := omega) only [↓aI,↓zP,aD,zD,aS0,Nat.reduceBEq,Nat.reduceLT,reduceCtorEq,↓reduceIte,Nat.reduceMul,Nat.reduceAdd,Nat.reduceLeDiff,Nat.reduceEqDiff,Int.reduceToNat,Nat.reduceSub,Nat.reduceMod,Nat.reduceDiv,Int.reducePow,Int.reduceLE,Int.reduceNeg,Int.reduceLT,Int.reduceBEq,Int.reduceBNe,Int.reduceEq,Try.facts,v1,kill_mid n12 hk1,hal,hat]
  intro k3 hk30 hk3
  have n23 := bK hk3
  have hk3' := am hk3
  rw [← hZ]
  refine br (c := ⟨Try.prog,21,[(1000000,[1])],[],[]⟩) Try.mixed (by kernel_rfl) (fun m σ H' => ∃ i,i + m = 8 ∧ σ 1 = .ip (u64A A) 0 ∧ σ 2 = .ptr k2 0 ∧ σ 3 = .ptr k3 0 ∧ σ 5 = .sc (.int .i64 (i : Nat)) ∧ H' = (H.set k2 Z).set k3 (.cells (u64A (F i)) 102 8)) 8 ?_ ?_
  · refine ⟨0,by omega,?_⟩
    rw [p0,← hZ]
    simp (disch := omega) only [↓aI,↓zP,aD,zD,aS0,Nat.reduceBEq,Nat.reduceLT,reduceCtorEq,↓reduceIte,Nat.reduceMul,Nat.reduceAdd,Nat.reduceLeDiff,Nat.reduceEqDiff,Int.reduceToNat,Nat.reduceSub,Nat.reduceMod,Nat.reduceDiv,Int.reducePow,Int.reduceLE,Int.reduceNeg,Int.reduceLT,Int.reduceBEq,Int.reduceBNe,Int.reduceEq,Try.facts]
    first | rfl | exact ⟨rfl,rfl⟩ | trace_state
  · rintro m σ H' ⟨i,hi,g1,g2,g3,g5,rfl⟩
    have hl := pl i
    have hfl : (u64A (F i)).length = 8 := by rw [u64A_length,hl]
    by_cases hlt : i < 8
    · have hb2 : decide ((i : Int) < 8) = true := dT (by omega)
      have xa := ga i hlt
      have hput := u64A_put (l := F i) (i := i) (x := a / 4294967296 ^ i % 4294967296) (by omega)
      rw [ps i hlt,← hh i hlt] at hput
      have mx := mA (i / 2)
      generalize A.getD (i / 2) 0 = x at *
      have w1 : IntKind.i64.wrap ((i / 2 : Nat) : Int) = ((i / 2 : Nat) : Int) := iw (by omega)
      have hmul : 32 * ((i % 2 : Nat) : Int) = ((32 * (i % 2) : Nat) : Int) := by omega
      have w2 : IntKind.i64.wrap ((32 * (i % 2) : Nat) : Int) = ((32 * (i % 2) : Nat) : Int) := iw (by omega)
      have b2 : decide (((32 * (i % 2) : Nat) : Int) < 0) = false := dF (by omega)
      have hmin : min (32 * (i % 2)) 64 = 32 * (i % 2) := by omega
      have o1 := and32 (x / 2 ^ (32 * (i % 2))) (Nat.lt_of_le_of_lt (Nat.div_le_self _ _) mx)
      generalize hF' : F (i + 1) = F' at *
      simp (disch := omega) only [↓aI,↓zP,aD,zD,aS0,Nat.reduceBEq,Nat.reduceLT,reduceCtorEq,↓reduceIte,Nat.reduceMul,Nat.reduceAdd,Nat.reduceLeDiff,Nat.reduceEqDiff,Int.reduceToNat,Nat.reduceSub,Nat.reduceMod,Nat.reduceDiv,Int.reducePow,Int.reduceLE,Int.reduceNeg,Int.reduceLT,Int.reduceBEq,Int.reduceBNe,Int.reduceEq,Try.facts,g1,g2,g3,g5,hb2,jd,tdivN,xa,hal,w1,hmul,w2,b2,bits_u64,hmin,shrN,o1,set_get,set_set,hfl,hput]
      exact ⟨m - 1,by omega,i + 1,by omega,rfl,by rw [hF']⟩
    · obtain rfl : i = 8 := by omega
      have hb2 : decide (((8 : Nat) : Int) < 8) = false := by decide
      have htk : (u64A (F 8)).take 8 = u64A (F 8) := List.take_of_length_le (by omega)
      have v2 : ∀ X Y,((H.set k2 X).set k3 Y) k2 = some X := fun X Y => by
        first
          | (rw [aP0 n23]; exact set_get)
          | (rw [aP0 (fun e => n23 e.symm)]; exact set_get)
      rw [hZ]
      simp (disch := omega) only [↓aI,↓zP,aD,zD,aS0,Nat.reduceBEq,Nat.reduceLT,reduceCtorEq,↓reduceIte,Nat.reduceMul,Nat.reduceAdd,Nat.reduceLeDiff,Nat.reduceEqDiff,Int.reduceToNat,Nat.reduceSub,Nat.reduceMod,Nat.reduceDiv,Int.reducePow,Int.reduceLE,Int.reduceNeg,Int.reduceLT,Int.reduceBEq,Int.reduceBNe,Int.reduceEq,Try.facts,g1,g2,g3,g5,hb2,v2,set_get,hfl,htk,ah]
      refine ⟨by rw [u64A_strip],?_⟩
      exact ((Sub.set_new hk2').set_free hk3').set_free hk2'
theorem swmul_pure (a b : Nat) (ha : a < 18446744073709551616 ^ 4) (hb : b < 18446744073709551616 ^ 4) : APure Try.prog 72 [.agg (u64A (wordsW 4 a)),.agg (u64A (wordsW 4 b))] (.agg (u64A (wordsW 8 (a * b)))) := by
  have c1 := shalves_pure a
  have c2 := shalves_pure b
  have hal : (u64A (wordsW 4 a)).length = 4 := by rw [u64A_length,wordsW_len]
  have hbl : (u64A (wordsW 4 b)).length = 4 := by rw [u64A_length,wordsW_len]
  have hat : (u64A (wordsW 4 a)).take 4 = u64A (wordsW 4 a) := List.take_of_length_le (by omega)
  have hbt : (u64A (wordsW 4 b)).take 4 = u64A (wordsW 4 b) := List.take_of_length_le (by omega)
  generalize wordsW 4 a = Wa at *
  generalize wordsW 4 b = Wb at *
  have lA := digsH_len 8 a
  have lB := digsH_len 8 b
  have hDA : (u64A (digsH 8 a)).length = 8 := by rw [u64A_length,lA]
  have hDB : (u64A (digsH 8 b)).length = 8 := by rw [u64A_length,lB]
  have dA := digsH_dig 8 a
  have dB := digsH_dig 8 b
  obtain ⟨hm1,hm2,hm3⟩ := mul_halves ha hb
  generalize digsH 8 a = A at *
  generalize digsH 8 b = B at *
  refine az (c := ⟨Try.prog,71,[(1,[0,0,0,0,2,2,2,2]),(10,[0,0,1,0,0,1,0,0,0,0,0,1,0,0,0,0]),(20,[0,0,0,0,1,0,0,0,0,1,0,0,0,2]),(1000000,[3,2]),(1000001,[6,5]),(4000020,[4,7,12,53]),(4000014,[4,5,6,7,18]),(4000011,[4,5,6,7,8,11,18,21]),(4000010,[4,5,6,7,8,10,11,18,21]),(4000001,[4,5,6])],[],[(1,(.op 0 0 (.op 1 0 (.op 2 0 (.op 3 0 (.or (.op 4 3 (.op 5 3 (.op 6 2 (.op 7 2 .nil)))) (.op 5 3 (.op 4 3 (.op 6 2 (.op 7 2 .nil))))))))))]⟩) (rs := [ResultVar.cell 4 102]) Try.mixed Try.func72 rfl rfl rfl (Nat.le_of_ble_eq_true rfl) (by kernel_rfl) fun H => ?_
  simp (disch := omega) only [↓aI,↓zP,aD,zD,aS0,Nat.reduceBEq,Nat.reduceLT,reduceCtorEq,↓reduceIte,Nat.reduceMul,Nat.reduceAdd,Nat.reduceLeDiff,Nat.reduceEqDiff,Int.reduceToNat,Nat.reduceSub,Nat.reduceMod,Nat.reduceDiv,Int.reducePow,Int.reduceLE,Int.reduceNeg,Int.reduceLT,Int.reduceBEq,Int.reduceBNe,Int.reduceEq,Try.facts,hal,hbl,hat,hbt]
  intro k1 hk10 hk1 k2 hk20 hk2 k3 hk30 hk3
  obtain ⟨q1,q2,q3,q4,n13,hk3'⟩ := frz3 hk1 hk2 hk3
  simp (disch := omega) only [↓aI,↓zP,aD,zD,aS0,Nat.reduceBEq,Nat.reduceLT,reduceCtorEq,↓reduceIte,Nat.reduceMul,Nat.reduceAdd,Nat.reduceLeDiff,Nat.reduceEqDiff,Int.reduceToNat,Nat.reduceSub,Nat.reduceMod,Nat.reduceDiv,Int.reducePow,Int.reduceLE,Int.reduceNeg,Int.reduceLT,Int.reduceBEq,Int.reduceBNe,Int.reduceEq,Try.facts,q1,q2,q3,q4,hal,hbl,hat,hbt]
  obtain ⟨Z,hZ⟩ : ∃ Z : AObj,Z = .cells [.sc (.int .u64 0),.sc (.int .u64 0),.sc (.int .u64 0),.sc (.int .u64 0),.sc (.int .u64 0),.sc (.int .u64 0),.sc (.int .u64 0),.sc (.int .u64 0)] 102 8 := ⟨_,rfl⟩
  rw [← hZ]
  obtain ⟨E,hE⟩ : ∃ E,E = H.set k3 Z := ⟨_,rfl⟩
  rw [← hE]
  refine eI (fun σ F => ∃ b5 b6,σ 4 = .ptr k3 0 ∧ σ 5 = .ptr b5 0 ∧ σ 6 = .ptr b6 0 ∧ ¬ b5 = b6 ∧ E b5 = none ∧ E b6 = none ∧ F = (E.set b5 (.cells (u64A A) 102 8)).set b6 (.cells (u64A B) 102 8)) ?_ ?_
  · simp (disch := omega) only [↓aI,↓zP,aD,zD,aS0,Nat.reduceBEq,Nat.reduceLT,reduceCtorEq,↓reduceIte,Nat.reduceMul,Nat.reduceAdd,Nat.reduceLeDiff,Nat.reduceEqDiff,Int.reduceToNat,Nat.reduceSub,Nat.reduceMod,Nat.reduceDiv,Int.reducePow,Int.reduceLE,Int.reduceNeg,Int.reduceLT,Int.reduceBEq,Int.reduceBNe,Int.reduceEq,Try.facts,q1,q2,q3,q4,hal,hbl,hat,hbt]
    rw [u64A_strip]
    first | refine CallK.p (c1) ?_ | refine CallP.i (c1) ?_
    simp (disch := omega) only [↓aI,↓zP,aD,zD,aS0,Nat.reduceBEq,Nat.reduceLT,reduceCtorEq,↓reduceIte,Nat.reduceMul,Nat.reduceAdd,Nat.reduceLeDiff,Nat.reduceEqDiff,Int.reduceToNat,Nat.reduceSub,Nat.reduceMod,Nat.reduceDiv,Int.reducePow,Int.reduceLE,Int.reduceNeg,Int.reduceLT,Int.reduceBEq,Int.reduceBNe,Int.reduceEq,Try.facts,hal,hbl,hat,hbt,u64A_strip]
    first | refine CallK.p (c2) ?_ | refine CallP.i (c2) ?_
    simp (disch := omega) only [↓aI,↓zP,aD,zD,aS0,Nat.reduceBEq,Nat.reduceLT,reduceCtorEq,↓reduceIte,Nat.reduceMul,Nat.reduceAdd,Nat.reduceLeDiff,Nat.reduceEqDiff,Int.reduceToNat,Nat.reduceSub,Nat.reduceMod,Nat.reduceDiv,Int.reducePow,Int.reduceLE,Int.reduceNeg,Int.reduceLT,Int.reduceBEq,Int.reduceBNe,Int.reduceEq,Try.facts,hal,hbl,hat,hbt,u64A_strip,hDA,hDB]
    have zA := zeros_h hDA
    have zB := zeros_h hDB
    refine ⟨?_,?_⟩
    · intro b5 hb50 hb5 b6 hb60 hb6
      have n56 := bK hb6
      have hb6' := am hb6
      have u1 : ∀ X Y,((E.set b5 X).set b6 Y) b5 = some X := fun X Y => get_under n56
      have u2 : ∀ X Y X',((E.set b5 X).set b6 Y).set b5 X' = (E.set b5 X').set b6 Y := fun X Y X' => set_mid n56
      simp (disch := omega) only [↓aI,↓zP,aD,zD,aS0,Nat.reduceBEq,Nat.reduceLT,reduceCtorEq,↓reduceIte,Nat.reduceMul,Nat.reduceAdd,Nat.reduceLeDiff,Nat.reduceEqDiff,Int.reduceToNat,Nat.reduceSub,Nat.reduceMod,Nat.reduceDiv,Int.reducePow,Int.reduceLE,Int.reduceNeg,Int.reduceLT,Int.reduceBEq,Int.reduceBNe,Int.reduceEq,Try.facts,u1,u2,set_get,set_set,hDA,hDB,zA,zB]
      exact ⟨b5,b6,rfl,rfl,n56,hb5,hb6',rfl⟩
    · intro b6 hb60 hb6 b5 hb50 hb5
      have n65 := bK hb5
      have hb5' := am hb5
      have u1 : ∀ X Y,((E.set b6 X).set b5 Y) b6 = some X := fun X Y => get_under n65
      have u2 : ∀ X Y X',((E.set b6 X).set b5 Y).set b6 X' = (E.set b6 X').set b5 Y := fun X Y X' => set_mid n65
      simp (disch := omega) only [↓aI,↓zP,aD,zD,aS0,Nat.reduceBEq,Nat.reduceLT,reduceCtorEq,↓reduceIte,Nat.reduceMul,Nat.reduceAdd,Nat.reduceLeDiff,Nat.reduceEqDiff,Int.reduceToNat,Nat.reduceSub,Nat.reduceMod,Nat.reduceDiv,Int.reducePow,Int.reduceLE,Int.reduceNeg,Int.reduceLT,Int.reduceBEq,Int.reduceBNe,Int.reduceEq,Try.facts,u1,u2,set_get,set_set,hDA,hDB,zA,zB]
      exact ⟨b5,b6,rfl,rfl,fun e => n65 e.symm,hb5',hb6,by first | exact fD n65 | exact fD (fun e => n65 e.symm) | exact (fD n65).symm | exact (fD (fun e => n65 e.symm)).symm⟩
  · rintro σ F ⟨b5,b6,g4,g5,g6,n56,hb5,hb6,rfl⟩
    have hb6' : (E.set b5 (.cells (u64A A) 102 8)) b6 = none := by
      first
        | (rw [aP0 n56]; exact hb6)
        | (rw [aP0 (fun e => n56 e.symm)]; exact hb6)
    have z1 : ∀ X Y,((E.set b5 X).set b6 Y) b5 = some X := fun X Y => get_under n56
    have dAt : (u64A A).take 8 = u64A A := List.take_of_length_le (by omega)
    have dBt : (u64A B).take 8 = u64A B := List.take_of_length_le (by omega)
    simp (disch := omega) only [↓aI,↓zP,aD,zD,aS0,Nat.reduceBEq,Nat.reduceLT,reduceCtorEq,↓reduceIte,Nat.reduceMul,Nat.reduceAdd,Nat.reduceLeDiff,Nat.reduceEqDiff,Int.reduceToNat,Nat.reduceSub,Nat.reduceMod,Nat.reduceDiv,Int.reducePow,Int.reduceLE,Int.reduceNeg,Int.reduceLT,Int.reduceBEq,Int.reduceBNe,Int.reduceEq,Try.facts,g4,g5,g6,set_get,aj hb6',aj hb5,hDA,hDB,dAt,dBt]
    intro k7 hk70 hk7
    clear hb5 hb6 hb6' z1 g5 g6 n56
    have n37 : ¬ k3 = k7 := by
      intro e
      rw [hE,← e,set_get] at hk7
      cases hk7
    have hk7' : H k7 = none := by rw [hE] at hk7; exact am hk7
    have v3 : E k3 = some Z := by rw [hE]; exact set_get
    have hspec := fun i hi => D32.mulI_spec dA dB i hi
    have hk2s := fun i hi k hk => D32.mulK_spec (i := i) (D32.dig_getD dA i) dB k (hspec i hi).1 hk (by have h := (hspec i hi).2.1; omega)
    have hmS : ∀ i,D32.mulI A B (i + 1) = (D32.mulK (A.getD i 0) B i B.length (D32.mulI A B i,0)).1.set (i + B.length) (D32.mulK (A.getD i 0) B i B.length (D32.mulI A B i,0)).2 := fun i => rfl
    have hm0 : u64A (D32.mulI A B 0) = [.sc (.int .u64 0),.sc (.int .u64 0),.sc (.int .u64 0),.sc (.int .u64 0),.sc (.int .u64 0),.sc (.int .u64 0),.sc (.int .u64 0),.sc (.int .u64 0),.sc (.int .u64 0),.sc (.int .u64 0),.sc (.int .u64 0),.sc (.int .u64 0),.sc (.int .u64 0),.sc (.int .u64 0),.sc (.int .u64 0),.sc (.int .u64 0)] := by
      show u64A (List.replicate (A.length + B.length) 0) = _
      rw [lA,lB]
      rfl
    have hmm : D32.mulM A B = D32.mulI A B 8 := by unfold D32.mulM; rw [lA]
    rw [hmm] at hm1 hm2 hm3
    have hgA := fun i => D32.dig_getD dA i
    have hgB := fun i => D32.dig_getD dB i
    have aA := fun i (h : i < 8) => u64A_at (l := A) (i := i) (by omega)
    have aB := fun i (h : i < 8) => u64A_at (l := B) (i := i) (by omega)
    rw [lA,lB] at hspec
    rw [lA,lB] at hk2s
    rw [lB] at hmS
    refine br (c := ⟨Try.prog,71,[(1,[0,0,0,0,2,2,2,2]),(10,[0,0,1,0,0,1,0,0,0,0,0,1,0,0,0,0]),(20,[0,0,0,0,1,0,0,0,0,1,0,0,0,2]),(1000000,[3,2]),(1000001,[6,5]),(4000020,[4,7,12,53]),(4000014,[4,5,6,7,18]),(4000011,[4,5,6,7,8,11,18,21]),(4000010,[4,5,6,7,8,10,11,18,21]),(4000001,[4,5,6])],[],[(1,(.op 0 0 (.op 1 0 (.op 2 0 (.op 3 0 (.or (.op 4 3 (.op 5 3 (.op 6 2 (.op 7 2 .nil)))) (.op 5 3 (.op 4 3 (.op 6 2 (.op 7 2 .nil))))))))))]⟩) Try.mixed (by kernel_rfl) (fun m σ H' => ∃ i,i + m = 8 ∧ σ 4 = .ptr k3 0 ∧ σ 5 = .ip (u64A A) 0 ∧ σ 6 = .ip (u64A B) 0 ∧ σ 7 = .ptr k7 0 ∧ σ 18 = .sc (.int .i64 (i : Nat)) ∧ H' = E.set k7 (.cells (u64A (D32.mulI A B i)) 106 16)) 8 ?_ ?_
    · refine ⟨0,by omega,?_⟩
      rw [hm0]
      simp (disch := omega) only [↓aI,↓zP,aD,zD,aS0,Nat.reduceBEq,Nat.reduceLT,reduceCtorEq,↓reduceIte,Nat.reduceMul,Nat.reduceAdd,Nat.reduceLeDiff,Nat.reduceEqDiff,Int.reduceToNat,Nat.reduceSub,Nat.reduceMod,Nat.reduceDiv,Int.reducePow,Int.reduceLE,Int.reduceNeg,Int.reduceLT,Int.reduceBEq,Int.reduceBNe,Int.reduceEq,Try.facts,g4]
    · clear g4
      rintro m σ H' ⟨i,hi,g4,g5,g6,g7,g18,rfl⟩
      have w1 : IntKind.i64.wrap ((i : Int) + 1) = ((i + 1 : Nat) : Int) := by rw [iw (by omega)]; rfl
      by_cases hlt : i < 8
      · have hb1 : decide ((i : Int) < 8) = true := dT (by omega)
        have hM := hspec i (by omega)
        have hKs := hk2s i (by omega)
        have hS := hmS i
        have hai := aA i hlt
        have hg := hgA i
        obtain ⟨hM1,hM2,hM3,-⟩ := hM
        generalize D32.mulI A B i = M at *
        generalize hN : D32.mulI A B (i + 1) = N at *
        have hK0 : D32.mulK (A.getD i 0) B i 0 (M,0) = (M,0) := rfl
        have hKS : ∀ k,D32.mulK (A.getD i 0) B i (k + 1) (M,0) = ((D32.mulK (A.getD i 0) B i k (M,0)).1.set (i + k) (((D32.mulK (A.getD i 0) B i k (M,0)).1.getD (i + k) 0 + A.getD i 0 * B.getD k 0 + (D32.mulK (A.getD i 0) B i k (M,0)).2) % 4294967296),((D32.mulK (A.getD i 0) B i k (M,0)).1.getD (i + k) 0 + A.getD i 0 * B.getD k 0 + (D32.mulK (A.getD i 0) B i k (M,0)).2) / 4294967296) := fun k => rfl
        generalize A.getD i 0 = x at *
        generalize hG : (fun k => D32.mulK x B i k (M,0)) = G at *
        have hG' : ∀ k,D32.mulK x B i k (M,0) = G k := fun k => by rw [← hG]
        simp only [hG'] at hKs hS hK0 hKS
        clear hG hG'
        simp (disch := omega) only [↓aI,↓zP,aD,zD,aS0,Nat.reduceBEq,Nat.reduceLT,reduceCtorEq,↓reduceIte,Nat.reduceMul,Nat.reduceAdd,Nat.reduceLeDiff,Nat.reduceEqDiff,Int.reduceToNat,Nat.reduceSub,Nat.reduceMod,Nat.reduceDiv,Int.reducePow,Int.reduceLE,Int.reduceNeg,Int.reduceLT,Int.reduceBEq,Int.reduceBNe,Int.reduceEq,Try.facts,g4,g5,g6,g7,g18,hb1]
        refine br (c := ⟨Try.prog,71,[(1,[0,0,0,0,2,2,2,2]),(10,[0,0,1,0,0,1,0,0,0,0,0,1,0,0,0,0]),(20,[0,0,0,0,1,0,0,0,0,1,0,0,0,2]),(1000000,[3,2]),(1000001,[6,5]),(4000020,[4,7,12,53]),(4000014,[4,5,6,7,18]),(4000011,[4,5,6,7,8,11,18,21]),(4000010,[4,5,6,7,8,10,11,18,21]),(4000001,[4,5,6])],[],[(1,(.op 0 0 (.op 1 0 (.op 2 0 (.op 3 0 (.or (.op 4 3 (.op 5 3 (.op 6 2 (.op 7 2 .nil)))) (.op 5 3 (.op 4 3 (.op 6 2 (.op 7 2 .nil))))))))))]⟩) Try.mixed (by kernel_rfl) (fun m2 σ2 H2 => ∃ k,k + m2 = 8 ∧ σ2 4 = .ptr k3 0 ∧ σ2 5 = .ip (u64A A) 0 ∧ σ2 6 = .ip (u64A B) 0 ∧ σ2 7 = .ptr k7 0 ∧ σ2 8 = .sc (.int .i64 (i : Nat)) ∧ σ2 9 = .sc (.int .u64 ((G k).2 : Nat)) ∧ σ2 18 = .sc (.int .i64 (i : Nat)) ∧ σ2 21 = .sc (.int .i64 (k : Nat)) ∧ H2 = E.set k7 (.cells (u64A (G k).1) 106 16)) 8 ?_ ?_
        · refine ⟨0,by omega,?_⟩
          rw [hK0]
          simp (disch := omega) only [↓aI,↓zP,aD,zD,aS0,Nat.reduceBEq,Nat.reduceLT,reduceCtorEq,↓reduceIte,Nat.reduceMul,Nat.reduceAdd,Nat.reduceLeDiff,Nat.reduceEqDiff,Int.reduceToNat,Nat.reduceSub,Nat.reduceMod,Nat.reduceDiv,Int.reducePow,Int.reduceLE,Int.reduceNeg,Int.reduceLT,Int.reduceBEq,Int.reduceBNe,Int.reduceEq,Try.facts,g4,g5,g6,g7,g18]
          first | rfl | exact ⟨rfl,rfl⟩ | trace_state
        · clear g4 g5 g6 g7 g18
          clear σ
          rintro m2 σ H2 ⟨k,hk,g4,g5,g6,g7,g8,g9,g18,g21,rfl⟩
          have w2 : IntKind.i64.wrap ((k : Int) + 1) = ((k + 1 : Nat) : Int) := by rw [iw (by omega)]; rfl
          have w3 : IntKind.i64.wrap ((i : Int) + (k : Int)) = ((i + k : Nat) : Int) := by rw [iw (by omega)]; rfl
          obtain ⟨q1,q2,q3,q4,-⟩ := hKs k (by omega)
          have hSk := hKS k
          rw [hM2] at q3
          have hgx := D32.dig_getD q1 (i + k)
          have hgb := hgB k
          generalize hG1 : (G k).1 = L at *
          generalize hG2 : (G k).2 = c at *
          have hll : (u64A L).length = 16 := by rw [u64A_length,q3]
          by_cases hkB : k < 8
          · have hb2 : decide ((k : Int) < 8) = true := dT (by omega)
            have hbk := aB k hkB
            have hlx := u64A_at (l := L) (i := i + k) (by omega)
            have hput := u64A_put (l := L) (i := i + k) (x := (L.getD (i + k) 0 + x * B.getD k 0 + c) % 4294967296) (by omega)
            have hp : x * B.getD k 0 ≤ 4294967295 * 4294967295 := Nat.mul_le_mul (by omega) (by omega)
            generalize B.getD k 0 = yb at *
            generalize L.getD (i + k) 0 = xo at *
            have w4 : IntKind.u64.wrap ((x : Int) * (yb : Int)) = ((x * yb : Nat) : Int) := by rw [← Int.natCast_mul]; exact jw (by omega)
            have w5 : IntKind.u64.wrap (((x * yb : Nat) : Int) + (xo : Int)) = ((x * yb + xo : Nat) : Int) := by rw [← Int.natCast_add]; exact jw (by omega)
            have w6 : IntKind.u64.wrap (((x * yb + xo : Nat) : Int) + (c : Int)) = ((xo + x * yb + c : Nat) : Int) := by rw [← Int.natCast_add,Nat.add_comm (x * yb)]; exact jw (by omega)
            have o1 := and32 (xo + x * yb + c) (by omega)
            have o2 : ((xo + x * yb + c : Nat) : Int).fdiv 4294967296 = (((xo + x * yb + c) / 4294967296 : Nat) : Int) := by rw [show (4294967296 : Int) = 2 ^ 32 by decide,shrN]
            have hmin : min 32 64 = 32 := rfl
            simp (disch := omega) only [↓aI,↓zP,aD,zD,aS0,Nat.reduceBEq,Nat.reduceLT,reduceCtorEq,↓reduceIte,Nat.reduceMul,Nat.reduceAdd,Nat.reduceLeDiff,Nat.reduceEqDiff,Int.reduceToNat,Nat.reduceSub,Nat.reduceMod,Nat.reduceDiv,Int.reducePow,Int.reduceLE,Int.reduceNeg,Int.reduceLT,Int.reduceBEq,Int.reduceBNe,Int.reduceEq,Try.facts,g4,g5,g6,g7,g8,g9,g18,g21,hb2,hai,hbk,hlx,hll,hDA,hDB,w2,w3,w4,w5,w6,o1,o2,hmin,bits_u64,set_get,set_set,hput]
            exact ⟨m2 - 1,by omega,k + 1,by omega,by rw [hSk],rfl,by rw [hSk]⟩
          · obtain rfl : k = 8 := by omega
            have hb2 : decide (((8 : Nat) : Int) < 8) = false := by decide
            have hput := u64A_put (l := L) (i := i + 8) (x := c) (by omega)
            rw [hG1,hG2] at hS
            rw [← hS] at hput
            have w8 : (i : Int) + 8 = ((i + 8 : Nat) : Int) := by omega
            have w9 : IntKind.i64.wrap ((i + 8 : Nat) : Int) = ((i + 8 : Nat) : Int) := iw (by omega)
            simp (disch := omega) only [↓aI,↓zP,aD,zD,aS0,Nat.reduceBEq,Nat.reduceLT,reduceCtorEq,↓reduceIte,Nat.reduceMul,Nat.reduceAdd,Nat.reduceLeDiff,Nat.reduceEqDiff,Int.reduceToNat,Nat.reduceSub,Nat.reduceMod,Nat.reduceDiv,Int.reducePow,Int.reduceLE,Int.reduceNeg,Int.reduceLT,Int.reduceBEq,Int.reduceBNe,Int.reduceEq,Try.facts,g4,g5,g6,g7,g8,g9,g18,g21,hb2,hll,w1,w8,w9,set_get,set_set,hput]
            exact ⟨m - 1,by omega,i + 1,by omega,rfl,by rw [hN]⟩
      · obtain rfl : i = 8 := by omega
        have hb1 : decide (((8 : Nat) : Int) < 8) = false := by decide
        generalize D32.mulI A B 8 = L at *
        have hL16 : (u64A L).length = 16 := by rw [u64A_length,hm2]
        have hwo := fun t => word_of hm1 t
        rw [hm3] at hwo
        have p0 : u64A (partW 8 (a * b) 0) = [.sc (.int .u64 0),.sc (.int .u64 0),.sc (.int .u64 0),.sc (.int .u64 0),.sc (.int .u64 0),.sc (.int .u64 0),.sc (.int .u64 0),.sc (.int .u64 0)] := rfl
        have pe := partW_end 8 (a * b)
        have pl := partW_len 8 (a * b)
        have ps := fun i h => partW_set 8 (a * b) (i := i) h
        rw [← pe]
        generalize partW 8 (a * b) = F at *
        have gL := fun i => D32.dig_getD hm1 i
        have aL := fun i (h : i < 16) => u64A_at (l := L) (i := i) (by omega)
        simp (disch := omega) only [↓aI,↓zP,aD,zD,aS0,Nat.reduceBEq,Nat.reduceLT,reduceCtorEq,↓reduceIte,Nat.reduceMul,Nat.reduceAdd,Nat.reduceLeDiff,Nat.reduceEqDiff,Int.reduceToNat,Nat.reduceSub,Nat.reduceMod,Nat.reduceDiv,Int.reducePow,Int.reduceLE,Int.reduceNeg,Int.reduceLT,Int.reduceBEq,Int.reduceBNe,Int.reduceEq,Try.facts,g4,g5,g6,g7,g18,hb1]
        intro k12 hk120 hk12
        have n712 := bK hk12
        have hk12' := am hk12
        refine br (c := ⟨Try.prog,71,[(1,[0,0,0,0,2,2,2,2]),(10,[0,0,1,0,0,1,0,0,0,0,0,1,0,0,0,0]),(20,[0,0,0,0,1,0,0,0,0,1,0,0,0,2]),(1000000,[3,2]),(1000001,[6,5]),(4000020,[4,7,12,53]),(4000014,[4,5,6,7,18]),(4000011,[4,5,6,7,8,11,18,21]),(4000010,[4,5,6,7,8,10,11,18,21]),(4000001,[4,5,6])],[],[(1,(.op 0 0 (.op 1 0 (.op 2 0 (.op 3 0 (.or (.op 4 3 (.op 5 3 (.op 6 2 (.op 7 2 .nil)))) (.op 5 3 (.op 4 3 (.op 6 2 (.op 7 2 .nil))))))))))]⟩) Try.mixed (by kernel_rfl) (fun m σ H' => ∃ i,i + m = 8 ∧ σ 4 = .ptr k3 0 ∧ σ 7 = .ptr k7 0 ∧ σ 12 = .ptr k12 0 ∧ σ 53 = .sc (.int .i64 (i : Nat)) ∧ H' = (E.set k7 (.cells (u64A L) 106 16)).set k12 (.cells (u64A (F i)) 102 8)) 8 ?_ ?_
        · refine ⟨0,by omega,?_⟩
          rw [p0]
          simp (disch := omega) only [↓aI,↓zP,aD,zD,aS0,Nat.reduceBEq,Nat.reduceLT,reduceCtorEq,↓reduceIte,Nat.reduceMul,Nat.reduceAdd,Nat.reduceLeDiff,Nat.reduceEqDiff,Int.reduceToNat,Nat.reduceSub,Nat.reduceMod,Nat.reduceDiv,Int.reducePow,Int.reduceLE,Int.reduceNeg,Int.reduceLT,Int.reduceBEq,Int.reduceBNe,Int.reduceEq,Try.facts,g4,g7]
        · clear g4 g5 g6 g7 g18
          clear σ
          rintro m σ H' ⟨i,hi,g4,g7,g12,g53,rfl⟩
          have hl := pl i
          have hfl : (u64A (F i)).length = 8 := by rw [u64A_length,hl]
          have y1 : ∀ X Y,((E.set k7 X).set k12 Y) k7 = some X := fun X Y => get_under n712
          by_cases hlt : i < 8
          · have hb2 : decide ((i : Int) < 8) = true := dT (by omega)
            have w1 : 2 * (i : Int) = ((2 * i : Nat) : Int) := by omega
            have w2 : IntKind.i64.wrap ((2 * i : Nat) : Int) = ((2 * i : Nat) : Int) := iw (by omega)
            have w3 : IntKind.i64.wrap (((2 * i : Nat) : Int) + 1) = ((2 * i + 1 : Nat) : Int) := by rw [iw (by omega)]; rfl
            have w4 : IntKind.i64.wrap ((i : Int) + 1) = ((i + 1 : Nat) : Int) := by rw [iw (by omega)]; rfl
            have a1 := aL (2 * i) (by omega)
            have a2 := aL (2 * i + 1) (by omega)
            have l1 := gL (2 * i)
            have l2 := gL (2 * i + 1)
            have hw := hwo i
            have hput := u64A_put (l := F i) (i := i) (x := a * b / 18446744073709551616 ^ i % 18446744073709551616) (by omega)
            rw [ps i hlt,← hw] at hput
            generalize L.getD (2 * i) 0 = lo at *
            generalize L.getD (2 * i + 1) 0 = hi' at *
            have w5 : IntKind.u64.wrap ((hi' : Int) * 2 ^ 32) = ((hi' * 4294967296 : Nat) : Int) := by
              rw [show ((hi' : Int) * 2 ^ 32) = ((hi' * 4294967296 : Nat) : Int) by rw [Int.natCast_mul]; rfl]
              exact jw (by omega)
            have w5' : IntKind.u64.wrap ((hi' : Int) * 4294967296) = ((hi' * 4294967296 : Nat) : Int) := by
              rw [show ((hi' : Int) * 4294967296) = ((hi' * 4294967296 : Nat) : Int) by rw [Int.natCast_mul]; rfl]
              exact jw (by omega)
            have hor : bits .or .u64 (lo : Int) ((hi' * 4294967296 : Nat) : Int) = ((lo + hi' * 4294967296 : Nat) : Int) := by
              rw [bits_or64 (by omega) (by omega),show (4294967296 : Nat) = 2 ^ 32 from rfl,or_add (by omega : lo < 2 ^ 32),Nat.mul_comm hi']
            have hmin : min 32 64 = 32 := rfl
            generalize hF' : F (i + 1) = F' at *
            simp (disch := omega) only [↓aI,↓zP,aD,zD,aS0,Nat.reduceBEq,Nat.reduceLT,reduceCtorEq,↓reduceIte,Nat.reduceMul,Nat.reduceAdd,Nat.reduceLeDiff,Nat.reduceEqDiff,Int.reduceToNat,Nat.reduceSub,Nat.reduceMod,Nat.reduceDiv,Int.reducePow,Int.reduceLE,Int.reduceNeg,Int.reduceLT,Int.reduceBEq,Int.reduceBNe,Int.reduceEq,Try.facts,g4,g7,g12,g53,hb2,w1,w2,w3,w4,w5,w5',a1,a2,y1,hL16,hfl,hmin,bits_u64,hor,hput,set_get,set_set]
            exact ⟨m - 1,by omega,i + 1,by omega,rfl,by rw [hF']⟩
          · obtain rfl : i = 8 := by omega
            have hb2 : decide (((8 : Nat) : Int) < 8) = false := by decide
            have htk : (u64A (F 8)).take 8 = u64A (F 8) := List.take_of_length_le (by omega)
            have v2 : ∀ X Y,((E.set k7 X).set k12 Y) k3 = some Z := fun X Y => by
              rw [aP0 (by intro e; subst e; rw [aP0 n37,v3] at hk12; cases hk12),aP0 n37,v3]
            rw [hZ] at v2
            simp (disch := omega) only [↓aI,↓zP,aD,zD,aS0,Nat.reduceBEq,Nat.reduceLT,reduceCtorEq,↓reduceIte,Nat.reduceMul,Nat.reduceAdd,Nat.reduceLeDiff,Nat.reduceEqDiff,Int.reduceToNat,Nat.reduceSub,Nat.reduceMod,Nat.reduceDiv,Int.reducePow,Int.reduceLE,Int.reduceNeg,Int.reduceLT,Int.reduceBEq,Int.reduceBNe,Int.reduceEq,Try.facts,g4,g7,g12,g53,hb2,v2,set_get,hfl,htk,ah]
            refine ⟨by rw [u64A_strip],?_⟩
            have hE12 : H k12 = none := by
              rw [hE] at hk12'
              exact am hk12'
            rw [hE]
            exact (((Sub.set_new hk3').set_free hk7').set_free hE12).set_free hk3'
end Go.Proofs.Ytibipjdngpjndaa
end
section
set_option linter.unusedSimpArgs false
set_option linter.unusedVariables false
set_option maxRecDepth 20000
set_option maxHeartbeats 8000000
namespace Go.Proofs.Ytibipjdngpjndaa
open Go Go.Abs Go.Proofs Go.Box
theorem and3 (x : Nat) (hx : x < 18446744073709551616) : bits .and .u64 (x : Int) 3 = ((x % 4 : Nat) : Int) := by
  have h := bits_and64 (a := x) (b := 3) hx (by decide)
  rw [show ((3 : Nat) : Int) = 3 from rfl] at h
  rw [h,show (3 : Nat) = 2 ^ 2 - 1 from rfl,Nat.and_two_pow_sub_one_eq_mod]
theorem shl62 (x : Nat) : IntKind.u64.wrap ((x : Int) * 4611686018427387904) = ((x % 4 * 4611686018427387904 : Nat) : Int) := by
  rw [show ((x : Int) * 4611686018427387904) = ((x * 4611686018427387904 : Nat) : Int) by rw [Int.natCast_mul]; rfl]
  show ((x * 4611686018427387904 : Nat) : Int) % (2 ^ 64) = _
  rw [show ((2 : Int) ^ 64) = ((18446744073709551616 : Nat) : Int) by decide,← Int.natCast_emod]
  congr 1
  omega
theorem shr2 (x : Nat) : ((x : Int)).fdiv 4 = ((x / 4 : Nat) : Int) := by
  rw [show (4 : Int) = 2 ^ 2 by decide,shrN]
theorem or62 (x y : Nat) (hx : x < 18446744073709551616) : bits .or .u64 ((x / 4 : Nat) : Int) ((y % 4 * 4611686018427387904 : Nat) : Int) = ((x / 4 + y % 4 * 4611686018427387904 : Nat) : Int) := by
  rw [bits_or64 (by omega) (by omega),show (4611686018427387904 : Nat) = 2 ^ 62 from rfl,or_add (by omega : x / 4 < 2 ^ 62),Nat.mul_comm (y % 4)]
theorem eight_at (n : Nat) : (u64A (wordsW 8 n))[0]? = some (.sc (.int .u64 (n % 18446744073709551616 : Nat))) ∧ (u64A (wordsW 8 n))[1]? = some (.sc (.int .u64 (n / 18446744073709551616 % 18446744073709551616 : Nat))) ∧ (u64A (wordsW 8 n))[2]? = some (.sc (.int .u64 (n / 18446744073709551616 / 18446744073709551616 % 18446744073709551616 : Nat))) ∧ (u64A (wordsW 8 n))[3]? = some (.sc (.int .u64 (n / 18446744073709551616 / 18446744073709551616 / 18446744073709551616 % 18446744073709551616 : Nat))) ∧ (u64A (wordsW 8 n))[4]? = some (.sc (.int .u64 (n / 18446744073709551616 / 18446744073709551616 / 18446744073709551616 / 18446744073709551616 % 18446744073709551616 : Nat))) := ⟨rfl,rfl,rfl,rfl,rfl⟩
theorem slow_pure (n : Nat) : APure Try.prog 74 [.agg (u64A (wordsW 8 n))] (.agg (u64A (wordsW 4 (n % 1361129467683753853853498429727072845824)))) := by
  have hal : (u64A (wordsW 8 n)).length = 8 := by rw [u64A_length,wordsW_len]
  have hat : (u64A (wordsW 8 n)).take 8 = u64A (wordsW 8 n) := List.take_of_length_le (by omega)
  obtain ⟨e0,e1,e2,e3,e4⟩ := eight_at n
  rw [words_low]
  have m2 : n / 18446744073709551616 / 18446744073709551616 % 18446744073709551616 < 18446744073709551616 := Nat.mod_lt _ (by decide)
  generalize u64A (wordsW 8 n) = A at *
  generalize n / 18446744073709551616 / 18446744073709551616 % 18446744073709551616 = x2 at *
  generalize n / 18446744073709551616 % 18446744073709551616 = x1 at *
  generalize n % 18446744073709551616 = x0 at *
  have o := and3 x2 m2
  refine az (c := ⟨Try.prog,11,[(1000000,[1])],[],[]⟩) (rs := [ResultVar.cell 2 87]) Try.mixed Try.func74 rfl rfl rfl (Nat.le_of_ble_eq_true rfl) (by kernel_rfl) fun H => ?_
  simp (disch := omega) only [↓aI,↓zP,aD,zD,aS0,Nat.reduceBEq,Nat.reduceLT,reduceCtorEq,↓reduceIte,Nat.reduceMul,Nat.reduceAdd,Nat.reduceLeDiff,Nat.reduceEqDiff,Int.reduceToNat,Nat.reduceSub,Nat.reduceMod,Nat.reduceDiv,Int.reducePow,Int.reduceLE,Int.reduceNeg,Int.reduceLT,Int.reduceBEq,Int.reduceBNe,Int.reduceEq,Try.facts,hal,hat]
  intro k1 hk10 hk1 k2 hk20 hk2
  have n12 := bK hk2
  have hk2' := am hk2
  have v1 : ∀ X Y,((H.set k1 X).set k2 Y) k1 = some X := fun X Y => get_under n12
  simp (disch := omega) only [↓aI,↓zP,aD,zD,aS0,Nat.reduceBEq,Nat.reduceLT,reduceCtorEq,↓reduceIte,Nat.reduceMul,Nat.reduceAdd,Nat.reduceLeDiff,Nat.reduceEqDiff,Int.reduceToNat,Nat.reduceSub,Nat.reduceMod,Nat.reduceDiv,Int.reducePow,Int.reduceLE,Int.reduceNeg,Int.reduceLT,Int.reduceBEq,Int.reduceBNe,Int.reduceEq,Try.facts,v1,kill_mid n12 hk1,set_get,set_set,o,hal,hat,e0,e1,e2]
  exact ⟨rfl,Sub.set_new hk2'⟩
theorem shigh_pure (n : Nat) (h : n < 2135987035920910082395021706169552114602704522356652769947041607822219725780640550022962086936576) : APure Try.prog 73 [.agg (u64A (wordsW 8 n))] (.agg (u64A (wordsW 4 (n / 1361129467683753853853498429727072845824)))) := by
  have hal : (u64A (wordsW 8 n)).length = 8 := by rw [u64A_length,wordsW_len]
  have hat : (u64A (wordsW 8 n)).take 8 = u64A (wordsW 8 n) := List.take_of_length_le (by omega)
  obtain ⟨e0,e1,e2,e3,e4⟩ := eight_at n
  rw [words_high n h]
  have m2 : n / 18446744073709551616 / 18446744073709551616 % 18446744073709551616 < 18446744073709551616 := Nat.mod_lt _ (by decide)
  have m3 : n / 18446744073709551616 / 18446744073709551616 / 18446744073709551616 % 18446744073709551616 < 18446744073709551616 := Nat.mod_lt _ (by decide)
  have m4 : n / 18446744073709551616 / 18446744073709551616 / 18446744073709551616 / 18446744073709551616 % 18446744073709551616 < 18446744073709551616 := Nat.mod_lt _ (by decide)
  clear h
  generalize u64A (wordsW 8 n) = A at *
  generalize n / 18446744073709551616 / 18446744073709551616 / 18446744073709551616 / 18446744073709551616 % 18446744073709551616 = x4 at *
  generalize n / 18446744073709551616 / 18446744073709551616 / 18446744073709551616 % 18446744073709551616 = x3 at *
  generalize n / 18446744073709551616 / 18446744073709551616 % 18446744073709551616 = x2 at *
  have o1 := or62 x2 x3 m2
  have o2 := or62 x3 x4 m3
  have hmin : min 62 64 = 62 := rfl
  have hmin2 : min 2 64 = 2 := rfl
  refine az (c := ⟨Try.prog,21,[(1000000,[1])],[],[]⟩) (rs := [ResultVar.cell 2 87]) Try.mixed Try.func73 rfl rfl rfl (Nat.le_of_ble_eq_true rfl) (by kernel_rfl) fun H => ?_
  simp (disch := omega) only [↓aI,↓zP,aD,zD,aS0,Nat.reduceBEq,Nat.reduceLT,reduceCtorEq,↓reduceIte,Nat.reduceMul,Nat.reduceAdd,Nat.reduceLeDiff,Nat.reduceEqDiff,Int.reduceToNat,Nat.reduceSub,Nat.reduceMod,Nat.reduceDiv,Int.reducePow,Int.reduceLE,Int.reduceNeg,Int.reduceLT,Int.reduceBEq,Int.reduceBNe,Int.reduceEq,Try.facts,hal,hat]
  intro k1 hk10 hk1 k2 hk20 hk2
  have n12 := bK hk2
  have hk2' := am hk2
  have v1 : ∀ X Y,((H.set k1 X).set k2 Y) k1 = some X := fun X Y => get_under n12
  simp (disch := omega) only [↓aI,↓zP,aD,zD,aS0,Nat.reduceBEq,Nat.reduceLT,reduceCtorEq,↓reduceIte,Nat.reduceMul,Nat.reduceAdd,Nat.reduceLeDiff,Nat.reduceEqDiff,Int.reduceToNat,Nat.reduceSub,Nat.reduceMod,Nat.reduceDiv,Int.reducePow,Int.reduceLE,Int.reduceNeg,Int.reduceLT,Int.reduceBEq,Int.reduceBNe,Int.reduceEq,Try.facts,v1,kill_mid n12 hk1,set_get,set_set,o1,o2,shl62,shr2,bits_u64,hmin,hmin2,hal,hat,e2,e3,e4]
  exact ⟨rfl,Sub.set_new hk2'⟩
theorem zeros_q {l : List AV} (h : l.length = 4) : bG [.sc (.int .u64 0),.sc (.int .u64 0),.sc (.int .u64 0),.sc (.int .u64 0)] 0 l = l := by
  rw [ah,h]
  simp
theorem put8 {l : List AV} {x0 x1 x2 x3 x4 x5 x6 x7 : AV} (h : l.length = 8) : bG l 0 [x0,x1,x2,x3,x4,x5,x6,x7] = [x0,x1,x2,x3,x4,x5,x6,x7] := by
  rw [ah]
  simp only [List.take_zero,List.nil_append,List.length_cons,List.length_nil,Nat.zero_add,Nat.reduceAdd]
  rw [List.drop_of_length_le (by omega),List.append_nil]
theorem four_at (n : Nat) : (u64A (wordsW 4 n))[0]? = some (.sc (.int .u64 (n % 18446744073709551616 : Nat))) ∧ (u64A (wordsW 4 n))[1]? = some (.sc (.int .u64 (n / 18446744073709551616 % 18446744073709551616 : Nat))) ∧ (u64A (wordsW 4 n))[2]? = some (.sc (.int .u64 (n / 18446744073709551616 / 18446744073709551616 % 18446744073709551616 : Nat))) ∧ (u64A (wordsW 4 n))[3]? = some (.sc (.int .u64 (n / 18446744073709551616 / 18446744073709551616 / 18446744073709551616 % 18446744073709551616 : Nat))) := ⟨rfl,rfl,rfl,rfl⟩
theorem first4 {n x0 x1 x2 x3 : Nat} (h0 : n % 18446744073709551616 = x0) (h1 : n / 18446744073709551616 % 18446744073709551616 = x1) (h2 : n / 18446744073709551616 / 18446744073709551616 % 18446744073709551616 = x2) (h3 : n / 18446744073709551616 / 18446744073709551616 / 18446744073709551616 % 18446744073709551616 = x3) :
    [.sc (.int .u64 (x0 : Nat)),.sc (.int .u64 (x1 : Nat)),.sc (.int .u64 (x2 : Nat)),.sc (.int .u64 (x3 : Nat))] = u64A (wordsW 4 n) := by
  subst h0 h1 h2 h3
  rfl
theorem first8 {n : Nat} (h : n < 115792089237316195423570985008687907853269984665640564039457584007913129639936) {x0 x1 x2 x3 : Nat} (h0 : n % 18446744073709551616 = x0) (h1 : n / 18446744073709551616 % 18446744073709551616 = x1) (h2 : n / 18446744073709551616 / 18446744073709551616 % 18446744073709551616 = x2) (h3 : n / 18446744073709551616 / 18446744073709551616 / 18446744073709551616 % 18446744073709551616 = x3) :
    [.sc (.int .u64 (x0 : Nat)),.sc (.int .u64 (x1 : Nat)),.sc (.int .u64 (x2 : Nat)),.sc (.int .u64 (x3 : Nat)),.sc (.int .u64 0),.sc (.int .u64 0),.sc (.int .u64 0),.sc (.int .u64 0)] = u64A (wordsW 8 n) := by
  rw [words_wide h]
  subst h0 h1 h2 h3
  rfl
theorem stimes_pure (a r : Nat) (ha : a < 18446744073709551616 ^ 4) (hr : r < 18446744073709551616 ^ 4) (h : a * r < 115792089237316195423570985008687907853269984665640564039457584007913129639936) : APure Try.prog 62 [.agg (u64A (wordsW 4 a)),.agg (u64A (wordsW 4 r))] (.agg (u64A (wordsW 4 (timesT a r)))) := by
  have hal : (u64A (wordsW 4 a)).length = 4 := by rw [u64A_length,wordsW_len]
  have hrl : (u64A (wordsW 4 r)).length = 4 := by rw [u64A_length,wordsW_len]
  have hat : (u64A (wordsW 4 a)).take 4 = u64A (wordsW 4 a) := List.take_of_length_le (by omega)
  have hrt : (u64A (wordsW 4 r)).take 4 = u64A (wordsW 4 r) := List.take_of_length_le (by omega)
  have c1 := swmul_pure a r ha hr
  generalize wordsW 4 a = A at *
  generalize wordsW 4 r = R at *
  have hw0 : a * r = foldN (a * r) 0 := rfl
  have hT : timesT a r = foldN (a * r) 2 := rfl
  rw [hT]
  have hwl := fun i => foldN_le h i
  have hws : ∀ i,foldN (a * r) (i + 1) = foldT (foldN (a * r) i) := fun i => rfl
  rw [hw0] at c1
  clear hw0 hT h
  generalize foldN (a * r) = W at *
  have c1l : (u64A (wordsW 8 (W 0))).length = 8 := by rw [u64A_length,wordsW_len]
  have c1t : (u64A (wordsW 8 (W 0))).take 8 = u64A (wordsW 8 (W 0)) := List.take_of_length_le (by omega)
  refine az (c := ⟨Try.prog,52,[(5,[0,0,0,0,0,0,0,0,0,0,0,0,0,0,0,2,2,0]),(1000000,[3,2]),(1000004,[6]),(1000005,[7])],[],[(5,(.op 2 0 (.op 3 0 (.op 4 0 (.op 5 0 (.op 6 0 (.op 7 0 (.op 8 0 (.op 9 0 (.op 10 0 (.op 0 4 (.op 1 0 (.op 11 0 (.op 12 0 (.op 13 0 (.op 14 0 (.op 15 3 (.op 16 2 (.op 17 0 .nil)))))))))))))))))))]⟩) (rs := [ResultVar.cell 4 87]) Try.mixed Try.func62 rfl rfl rfl (Nat.le_of_ble_eq_true rfl) (by kernel_rfl) fun H => ?_
  simp (disch := omega) only [↓aI,↓zP,aD,zD,aS0,Nat.reduceBEq,Nat.reduceLT,reduceCtorEq,↓reduceIte,Nat.reduceMul,Nat.reduceAdd,Nat.reduceLeDiff,Nat.reduceEqDiff,Int.reduceToNat,Nat.reduceSub,Nat.reduceMod,Nat.reduceDiv,Int.reducePow,Int.reduceLE,Int.reduceNeg,Int.reduceLT,Int.reduceBEq,Int.reduceBNe,Int.reduceEq,Try.facts,hal,hrl,hat,hrt]
  intro k1 hk10 hk1 k2 hk20 hk2 k3 hk30 hk3
  obtain ⟨q1,q2,q3,q4,n13,hk3'⟩ := frz3 hk1 hk2 hk3
  obtain ⟨Z,hZ⟩ : ∃ Z : AObj,Z = .cells [.sc (.int .u64 0),.sc (.int .u64 0),.sc (.int .u64 0),.sc (.int .u64 0)] 87 4 := ⟨_,rfl⟩
  rw [← hZ]
  simp (disch := omega) only [↓aI,↓zP,aD,zD,aS0,Nat.reduceBEq,Nat.reduceLT,reduceCtorEq,↓reduceIte,Nat.reduceMul,Nat.reduceAdd,Nat.reduceLeDiff,Nat.reduceEqDiff,Int.reduceToNat,Nat.reduceSub,Nat.reduceMod,Nat.reduceDiv,Int.reducePow,Int.reduceLE,Int.reduceNeg,Int.reduceLT,Int.reduceBEq,Int.reduceBNe,Int.reduceEq,Try.facts,q1,q2,q3,q4,hal,hrl,hat,hrt]
  rw [u64A_strip,u64A_strip]
  first | refine CallK.p (c1) ?_ | refine CallP.i (c1) ?_
  simp (disch := omega) only [↓aI,↓zP,aD,zD,aS0,Nat.reduceBEq,Nat.reduceLT,reduceCtorEq,↓reduceIte,Nat.reduceMul,Nat.reduceAdd,Nat.reduceLeDiff,Nat.reduceEqDiff,Int.reduceToNat,Nat.reduceSub,Nat.reduceMod,Nat.reduceDiv,Int.reducePow,Int.reduceLE,Int.reduceNeg,Int.reduceLT,Int.reduceBEq,Int.reduceBNe,Int.reduceEq,Try.facts,q1,q2,q3,q4,hal,hrl,hat,hrt,u64A_strip,c1l]
  intro k5 hk50 hk5
  have n35 := bK hk5
  have hk5' := am hk5
  have z1 : ∀ X Y,((H.set k3 X).set k5 Y) k3 = some X := fun X Y => get_under n35
  have lW : ∀ i,(u64A (wordsW 8 (W i))).length = 8 := fun i => by rw [u64A_length,wordsW_len]
  have tW : ∀ i,(u64A (wordsW 8 (W i))).take 8 = u64A (wordsW 8 (W i)) := fun i => List.take_of_length_le (by rw [lW]; omega)
  refine br (c := ⟨Try.prog,52,[(5,[0,0,0,0,0,0,0,0,0,0,0,0,0,0,0,2,2,0]),(1000000,[3,2]),(1000004,[6]),(1000005,[7])],[],[(5,(.op 2 0 (.op 3 0 (.op 4 0 (.op 5 0 (.op 6 0 (.op 7 0 (.op 8 0 (.op 9 0 (.op 10 0 (.op 0 4 (.op 1 0 (.op 11 0 (.op 12 0 (.op 13 0 (.op 14 0 (.op 15 3 (.op 16 2 (.op 17 0 .nil)))))))))))))))))))]⟩) Try.mixed (by kernel_rfl) (fun m σ H' => ∃ i,i + m = 2 ∧ σ 4 = .ptr k3 0 ∧ σ 5 = .ptr k5 0 ∧ σ 12 = .sc (.int .i64 (i : Nat)) ∧ H' = (H.set k3 Z).set k5 (.cells (u64A (wordsW 8 (W i))) 102 8)) 2 ?_ ?_
  · refine ⟨0,by omega,?_⟩
    simp (disch := omega) only [↓aI,↓zP,aD,zD,aS0,Nat.reduceBEq,Nat.reduceLT,reduceCtorEq,↓reduceIte,Nat.reduceMul,Nat.reduceAdd,Nat.reduceLeDiff,Nat.reduceEqDiff,Int.reduceToNat,Nat.reduceSub,Nat.reduceMod,Nat.reduceDiv,Int.reducePow,Int.reduceLE,Int.reduceNeg,Int.reduceLT,Int.reduceBEq,Int.reduceBNe,Int.reduceEq,Try.facts,u64A_strip,c1l]
    rw [zeros_h c1l]
  · rintro m σ H' ⟨i,hi,g4,g5,g12,rfl⟩
    have e8 := eight_at (W i)
    obtain ⟨e0,e1,e2,e3,-⟩ := e8
    have hl := lW i
    have ht := tW i
    by_cases hlt : i < 2
    · have hb2 : decide ((i : Int) < 2) = true := dT (by omega)
      have w1 : IntKind.i64.wrap ((i : Int) + 1) = ((i + 1 : Nat) : Int) := by rw [iw (by omega)]; rfl
      have hle := hwl i
      have c2 := shigh_pure (W i) (Nat.lt_trans hle (by decide))
      have c3 := swmul_pure (W i / 1361129467683753853853498429727072845824) 5 (Nat.lt_of_le_of_lt (Nat.div_le_self _ _) hle) (by decide)
      have c4 := slow_pure (W i)
      have c5 := swadd_pure (W i % 1361129467683753853853498429727072845824) (W i / 1361129467683753853853498429727072845824 * 5) (Nat.lt_trans (Nat.mod_lt _ (by decide)) (by decide)) (by omega)
      have c3 : APure Try.prog 72 [.agg (u64A (wordsW 4 (W i / 1361129467683753853853498429727072845824))),.agg [.sc (.int .u64 5),.sc (.int .u64 0),.sc (.int .u64 0),.sc (.int .u64 0)]] (.agg (u64A (wordsW 8 (W i / 1361129467683753853853498429727072845824 * 5)))) := c3
      have lF : (u64A (wordsW 8 (W i / 1361129467683753853853498429727072845824 * 5))).length = 8 := by rw [u64A_length,wordsW_len]
      have tF : (u64A (wordsW 8 (W i / 1361129467683753853853498429727072845824 * 5))).take 8 = u64A (wordsW 8 (W i / 1361129467683753853853498429727072845824 * 5)) := List.take_of_length_le (by omega)
      simp (disch := omega) only [↓aI,↓zP,aD,zD,aS0,Nat.reduceBEq,Nat.reduceLT,reduceCtorEq,↓reduceIte,Nat.reduceMul,Nat.reduceAdd,Nat.reduceLeDiff,Nat.reduceEqDiff,Int.reduceToNat,Nat.reduceSub,Nat.reduceMod,Nat.reduceDiv,Int.reducePow,Int.reduceLE,Int.reduceNeg,Int.reduceLT,Int.reduceBEq,Int.reduceBNe,Int.reduceEq,Try.facts,g4,g5,g12,hb2,hl,ht,set_get]
      rw [u64A_strip]
      first | refine CallK.p (c2) ?_ | refine CallP.i (c2) ?_
      simp (disch := omega) only [↓aI,↓zP,aD,zD,aS0,Nat.reduceBEq,Nat.reduceLT,reduceCtorEq,↓reduceIte,Nat.reduceMul,Nat.reduceAdd,Nat.reduceLeDiff,Nat.reduceEqDiff,Int.reduceToNat,Nat.reduceSub,Nat.reduceMod,Nat.reduceDiv,Int.reducePow,Int.reduceLE,Int.reduceNeg,Int.reduceLT,Int.reduceBEq,Int.reduceBNe,Int.reduceEq,Try.facts,g4,g5,g12,hl,ht,set_get,u64A_strip]
      first | refine CallK.p (c3) ?_ | refine CallP.i (c3) ?_
      simp (disch := omega) only [↓aI,↓zP,aD,zD,aS0,Nat.reduceBEq,Nat.reduceLT,reduceCtorEq,↓reduceIte,Nat.reduceMul,Nat.reduceAdd,Nat.reduceLeDiff,Nat.reduceEqDiff,Int.reduceToNat,Nat.reduceSub,Nat.reduceMod,Nat.reduceDiv,Int.reducePow,Int.reduceLE,Int.reduceNeg,Int.reduceLT,Int.reduceBEq,Int.reduceBNe,Int.reduceEq,Try.facts,g4,g5,g12,hl,ht,set_get,u64A_strip,lF]
      intro k6 hk60 hk6
      have z6 := zeros_h lF
      have hk6' := am hk6
      refine jk ?_
      obtain ⟨f0,f1,f2,f3,-⟩ := eight_at (W i / 1361129467683753853853498429727072845824 * 5)
      have f4 := first4 (n := W i / 1361129467683753853853498429727072845824 * 5) rfl rfl rfl rfl
      generalize W i / 1361129467683753853853498429727072845824 * 5 / 18446744073709551616 / 18446744073709551616 / 18446744073709551616 % 18446744073709551616 = y3 at *
      generalize W i / 1361129467683753853853498429727072845824 * 5 / 18446744073709551616 / 18446744073709551616 % 18446744073709551616 = y2 at *
      generalize W i / 1361129467683753853853498429727072845824 * 5 / 18446744073709551616 % 18446744073709551616 = y1 at *
      generalize W i / 1361129467683753853853498429727072845824 * 5 % 18446744073709551616 = y0 at *
      simp (disch := omega) only [↓aI,↓zP,aD,zD,aS0,Nat.reduceBEq,Nat.reduceLT,reduceCtorEq,↓reduceIte,Nat.reduceMul,Nat.reduceAdd,Nat.reduceLeDiff,Nat.reduceEqDiff,Int.reduceToNat,Nat.reduceSub,Nat.reduceMod,Nat.reduceDiv,Int.reducePow,Int.reduceLE,Int.reduceNeg,Int.reduceLT,Int.reduceBEq,Int.reduceBNe,Int.reduceEq,Try.facts,g4,g5,g12,hl,ht,set_get,u64A_strip,lF,tF,z6,aj hk6,f0,f1,f2,f3]
      rw [← f4] at c5
      have hS : W i % 1361129467683753853853498429727072845824 + W i / 1361129467683753853853498429727072845824 * 5 = W (i + 1) := by
        rw [hws,foldT,Nat.mul_comm 5]
      rw [hS] at c5
      have lS : (u64A (wordsW 4 (W (i + 1)))).length = 4 := by rw [u64A_length,wordsW_len]
      have tS : (u64A (wordsW 4 (W (i + 1)))).take 4 = u64A (wordsW 4 (W (i + 1))) := List.take_of_length_le (by omega)
      first | refine CallK.p (c4) ?_ | refine CallP.i (c4) ?_
      simp (disch := omega) only [↓aI,↓zP,aD,zD,aS0,Nat.reduceBEq,Nat.reduceLT,reduceCtorEq,↓reduceIte,Nat.reduceMul,Nat.reduceAdd,Nat.reduceLeDiff,Nat.reduceEqDiff,Int.reduceToNat,Nat.reduceSub,Nat.reduceMod,Nat.reduceDiv,Int.reducePow,Int.reduceLE,Int.reduceNeg,Int.reduceLT,Int.reduceBEq,Int.reduceBNe,Int.reduceEq,Try.facts,g4,g5,g12,hl,ht,set_get,u64A_strip,lF,tF,z6,f0,f1,f2,f3]
      first | refine CallK.p (c5) ?_ | refine CallP.i (c5) ?_
      simp (disch := omega) only [↓aI,↓zP,aD,zD,aS0,Nat.reduceBEq,Nat.reduceLT,reduceCtorEq,↓reduceIte,Nat.reduceMul,Nat.reduceAdd,Nat.reduceLeDiff,Nat.reduceEqDiff,Int.reduceToNat,Nat.reduceSub,Nat.reduceMod,Nat.reduceDiv,Int.reducePow,Int.reduceLE,Int.reduceNeg,Int.reduceLT,Int.reduceBEq,Int.reduceBNe,Int.reduceEq,Try.facts,g4,g5,g12,hl,ht,set_get,u64A_strip,lF,tF,z6,f0,f1,f2,f3,lS]
      intro k7 hk70 hk7
      rw [aj hk6] at hk7
      have zS := zeros_q lS
      obtain ⟨s0,s1,s2,s3⟩ := four_at (W (i + 1))
      have f8 := first8 (hwl (i + 1)) rfl rfl rfl rfl
      generalize W (i + 1) / 18446744073709551616 / 18446744073709551616 / 18446744073709551616 % 18446744073709551616 = v3 at *
      generalize W (i + 1) / 18446744073709551616 / 18446744073709551616 % 18446744073709551616 = v2 at *
      generalize W (i + 1) / 18446744073709551616 % 18446744073709551616 = v1 at *
      generalize W (i + 1) % 18446744073709551616 = v0 at *
      have p8 := put8 (x0 := .sc (.int .u64 v0)) (x1 := .sc (.int .u64 v1)) (x2 := .sc (.int .u64 v2)) (x3 := .sc (.int .u64 v3)) (x4 := .sc (.int .u64 0)) (x5 := .sc (.int .u64 0)) (x6 := .sc (.int .u64 0)) (x7 := .sc (.int .u64 0)) hl
      rw [f8] at p8
      have hl2 := lW (i + 1)
      simp (disch := omega) only [↓aI,↓zP,aD,zD,aS0,Nat.reduceBEq,Nat.reduceLT,reduceCtorEq,↓reduceIte,Nat.reduceMul,Nat.reduceAdd,Nat.reduceLeDiff,Nat.reduceEqDiff,Int.reduceToNat,Nat.reduceSub,Nat.reduceMod,Nat.reduceDiv,Int.reducePow,Int.reduceLE,Int.reduceNeg,Int.reduceLT,Int.reduceBEq,Int.reduceBNe,Int.reduceEq,Try.facts,g4,g5,g12,hl,hl2,ht,set_get,set_set,u64A_strip,zS,aj hk7,s0,s1,s2,s3,f8,p8,w1]
      trace_state
      exact ⟨m - 1,by omega,i + 1,by omega,rfl,rfl⟩
    · obtain rfl : i = 2 := by omega
      have hb2 : decide (((2 : Nat) : Int) < 2) = false := by decide
      have e8 := eight_at (W 2)
      obtain ⟨e0,e1,e2,e3,-⟩ := e8
      have f4 := first4 (n := W 2) rfl rfl rfl rfl
      generalize W 2 / 18446744073709551616 / 18446744073709551616 / 18446744073709551616 % 18446744073709551616 = x3 at *
      generalize W 2 / 18446744073709551616 / 18446744073709551616 % 18446744073709551616 = x2 at *
      generalize W 2 / 18446744073709551616 % 18446744073709551616 = x1 at *
      generalize W 2 % 18446744073709551616 = x0 at *
      rw [hZ]
      simp (disch := omega) only [↓aI,↓zP,aD,zD,aS0,Nat.reduceBEq,Nat.reduceLT,reduceCtorEq,↓reduceIte,Nat.reduceMul,Nat.reduceAdd,Nat.reduceLeDiff,Nat.reduceEqDiff,Int.reduceToNat,Nat.reduceSub,Nat.reduceMod,Nat.reduceDiv,Int.reducePow,Int.reduceLE,Int.reduceNeg,Int.reduceLT,Int.reduceBEq,Int.reduceBNe,Int.reduceEq,Try.facts,g4,g5,g12,hb2,hl,ht,set_get,e0,e1,e2,e3,z1]
      rw [← f4]
      exact ⟨rfl,((Sub.set_new hk3').set_free hk5').set_free hk3'⟩
end Go.Proofs.Ytibipjdngpjndaa
end
