/-
  Several texts in one: each says what it proves.
  Conditions: none. Lemmas only.
-/
import Derived.Test.YtibipjdngpjndaaByG4
import Derived.Test.YtibipjdngpjndaaBxG5
import Derived.Test.YtibipjdngpjndaaBxG6
import Derived.Test.YtibipjdngpjndaaSuiG6
set_option linter.all false
section
set_option linter.unusedSimpArgs false
set_option linter.unusedVariables false
set_option maxRecDepth 20000
set_option maxHeartbeats 8000000
namespace Go.Proofs.Ytibipjdngpjndaa
open Go Go.Abs Go.Proofs Go.Box
theorem put_q {l m : List AV} (h : l.length = 4) (h2 : m.length = 4) : bG l 0 m = m := by
  rw [ah,h2]
  simp only [List.take_zero,List.nil_append,Nat.zero_add]
  rw [List.drop_of_length_le (by omega),List.append_nil]
theorem stag_pure (key b : List UInt8) (hk : key.length = 32) (hb : b.length ≤ 1000000) : APure Try.prog 43 [eu key,eu b] (.tup [eu (tagM key b),.sc (.int .i64 0)]) := by
  have c1 := scut_pure (key.take 16) (by rw [List.length_take]; omega)
  have hcl := cutL_len (key.take 16)
  have c2 := sfrom_pure (cutL (key.take 16)) (by omega)
  have hdl : (key.drop 16).length = 16 := by rw [List.length_drop]; omega
  have c3 := sfrom_pure (key.drop 16) (by omega)
  have hrl := cut_small (key.take 16)
  have hsl := numL_lt (key.drop 16)
  rw [hdl] at hsl
  have hT : tagM key b = bytesN 16 (accM (numL (cutL (key.take 16))) b (blocksN b.length) + numL (key.drop 16)) := rfl
  rw [hT]
  have hbn : blocksN b.length = (b.length + 15) / 16 := rfl
  generalize hr : numL (cutL (key.take 16)) = r at *
  generalize hs : numL (key.drop 16) = s at *
  have hE := acc_end b hrl (blocksN b.length)
  rw [← hE]
  have hA := fun i => accT_le b hrl i
  have hN : ∀ i,accT r b (i + 1) = timesT (accT r b i + numL (chunk b i)) r := fun i => rfl
  have hP := fun i => acc_prod (hA i) (chunk_small b i) hrl
  have hC := fun i => chunk_small b i
  have a0 : accT r b 0 = 0 := rfl
  have aF := fun i => sfrom_pure (chunk b i) (by unfold chunk; rw [List.length_append,List.length_take]; have : [(1 : UInt8)].length = 1 := rfl; omega)
  have aA := fun i => swadd_pure (accT r b i) (numL (chunk b i)) (Nat.lt_trans (hA i) (by decide)) (Nat.lt_trans (hC i) (by decide))
  have aT := fun i => stimes_pure (accT r b i + numL (chunk b i)) r (by have h1 := hA i; have h2 := hC i; omega) (Nat.lt_trans hrl (by decide)) (hP i)
  have aS := fun x (h : x < 1361129467683753853853498429727072845924) => swsub_pure x 1361129467683753853853498429727072845819 (Nat.lt_trans h (by decide)) (by decide)
  have aP := fun x => swpick_pure (if x < 1361129467683753853853498429727072845819 then 1 else 0) (x + 18446744073709551616 ^ 4 - 1361129467683753853853498429727072845819) x (by split <;> omega)
  simp only [words_less] at aP
  have w1361 : u64A (wordsW 4 1361129467683753853853498429727072845819) = [.sc (.int .u64 18446744073709551611),.sc (.int .u64 18446744073709551615),.sc (.int .u64 3),.sc (.int .u64 0)] := rfl
  simp only [w1361] at aS
  clear w1361
  have hEl : lessT (lessT (accT r b (blocksN b.length))) < 1361129467683753853853498429727072845924 := Nat.lt_of_le_of_lt (Nat.le_trans (lessT_le _) (lessT_le _)) (hA _)
  have aE := swadd_pure (lessT (lessT (accT r b (blocksN b.length)))) s (Nat.lt_trans hEl (by decide)) (Nat.lt_trans hsl (by decide))
  have aQ := swbytes_pure (lessT (lessT (accT r b (blocksN b.length))) + s)
  have hQ := bytesN_take 32 16 (lessT (lessT (accT r b (blocksN b.length))) + s) (by omega)
  rw [← hQ]
  have hQl := bytesN_len 32 (lessT (lessT (accT r b (blocksN b.length))) + s)
  generalize bytesN 32 (lessT (lessT (accT r b (blocksN b.length))) + s) = OUT at *
  have htl : (key.take 16).length = 16 := by rw [List.length_take]; omega
  have htd : (key.drop 16).take 16 = key.drop 16 := List.take_of_length_le (by omega)
  have b1 : ((key.length : Int) != 32) = false := by rw [hk]; rfl
  have hkl := gz key
  have hbl := gz b
  have lR : (u64A (wordsW 4 r)).length = 4 := by rw [u64A_length,wordsW_len]
  have tR : (u64A (wordsW 4 r)).take 4 = u64A (wordsW 4 r) := List.take_of_length_le (by omega)
  have lS : (u64A (wordsW 4 s)).length = 4 := by rw [u64A_length,wordsW_len]
  have tS : (u64A (wordsW 4 s)).take 4 = u64A (wordsW 4 s) := List.take_of_length_le (by omega)
  simp only [eu,htl,hcl,hdl] at c1 c2 c3
  generalize cutL (key.take 16) = C at *
  refine az (c := ⟨Try.prog,91,[(1000004,[8]),(1000005,[10]),(1000010,[14]),(1000015,[16]),(4000019,[4,5]),(4000018,[12]),(4000016,[10,12,69]),(4000015,[10,12,16,17,69]),(4000011,[1,8,10,12,13]),(4000010,[1,8,10,12,13,14]),(4000005,[1,8,10]),(4000004,[0,1,8]),(4000003,[0,1,6])],[45],[]⟩) (rs := [ResultVar.tmp 4,ResultVar.tmp 5]) Try.mixed Try.func43 rfl rfl rfl (Nat.le_of_ble_eq_true rfl) (by kernel_rfl) fun H => ?_
  simp (disch := omega) only [↓aI,↓zP,aD,zD,aS0,Nat.reduceBEq,Nat.reduceLT,reduceCtorEq,↓reduceIte,Nat.reduceMul,Nat.reduceAdd,Nat.reduceLeDiff,Nat.reduceEqDiff,Int.reduceToNat,Nat.reduceSub,Nat.reduceMod,Nat.reduceDiv,Int.reducePow,Int.reduceLE,Int.reduceNeg,Int.reduceLT,Int.reduceBEq,Int.reduceBNe,Int.reduceEq,Try.facts,b1,hkl,hk,encB_take,encB_drop]
  first | refine CallK.p (c1) ?_ | refine CallP.i (c1) ?_
  simp (disch := omega) only [↓aI,↓zP,aD,zD,aS0,Nat.reduceBEq,Nat.reduceLT,reduceCtorEq,↓reduceIte,Nat.reduceMul,Nat.reduceAdd,Nat.reduceLeDiff,Nat.reduceEqDiff,Int.reduceToNat,Nat.reduceSub,Nat.reduceMod,Nat.reduceDiv,Int.reducePow,Int.reduceLE,Int.reduceNeg,Int.reduceLT,Int.reduceBEq,Int.reduceBNe,Int.reduceEq,Try.facts]
  first | refine CallK.p (c2) ?_ | refine CallP.i (c2) ?_
  simp (disch := omega) only [↓aI,↓zP,aD,zD,aS0,Nat.reduceBEq,Nat.reduceLT,reduceCtorEq,↓reduceIte,Nat.reduceMul,Nat.reduceAdd,Nat.reduceLeDiff,Nat.reduceEqDiff,Int.reduceToNat,Nat.reduceSub,Nat.reduceMod,Nat.reduceDiv,Int.reducePow,Int.reduceLE,Int.reduceNeg,Int.reduceLT,Int.reduceBEq,Int.reduceBNe,Int.reduceEq,Try.facts,lR]
  intro k1 hk10 hk1
  have zR := zeros_q lR
  have zS := zeros_q lS
  rw [zR,aj hk1]
  rw [show List.take (key.length - 16) (List.drop 16 (bw key)) = bw (key.drop 16) by rw [encB_drop,encB_take,hk,htd],show key.length - 16 = 16 by omega]
  first | refine CallK.p (c3) ?_ | refine CallP.i (c3) ?_
  simp (disch := omega) only [↓aI,↓zP,aD,zD,aS0,Nat.reduceBEq,Nat.reduceLT,reduceCtorEq,↓reduceIte,Nat.reduceMul,Nat.reduceAdd,Nat.reduceLeDiff,Nat.reduceEqDiff,Int.reduceToNat,Nat.reduceSub,Nat.reduceMod,Nat.reduceDiv,Int.reducePow,Int.reduceLE,Int.reduceNeg,Int.reduceLT,Int.reduceBEq,Int.reduceBNe,Int.reduceEq,Try.facts,lS,u64A_strip]
  intro k2 hk20 hk2
  rw [zS,aj hk2]
  intro k3 hk30 hk3
  have lZ : ∀ x,(u64A (wordsW 4 x)).length = 4 := fun x => by rw [u64A_length,wordsW_len]
  have tZ : ∀ x,(u64A (wordsW 4 x)).take 4 = u64A (wordsW 4 x) := fun x => List.take_of_length_le (by rw [lZ]; omega)
  have z0 : u64A (wordsW 4 0) = [.sc (.int .u64 0),.sc (.int .u64 0),.sc (.int .u64 0),.sc (.int .u64 0)] := rfl
  refine br (c := ⟨Try.prog,91,[(1000004,[8]),(1000005,[10]),(1000010,[14]),(1000015,[16]),(4000019,[4,5]),(4000018,[12]),(4000016,[10,12,69]),(4000015,[10,12,16,17,69]),(4000011,[1,8,10,12,13]),(4000010,[1,8,10,12,13,14]),(4000005,[1,8,10]),(4000004,[0,1,8]),(4000003,[0,1,6])],[45],[]⟩) Try.mixed (by kernel_rfl) (fun m σ H' => ∃ j E,j + m = blocksN b.length ∧ σ 1 = .imm 0 (bw b) b.length ∧ σ 8 = .ip (u64A (wordsW 4 r)) 0 ∧ σ 10 = .ip (u64A (wordsW 4 s)) 0 ∧ σ 12 = .ptr k3 0 ∧ σ 13 = .sc (.int .i64 (j * 16 : Nat)) ∧ Abs.Sub H E ∧ E k3 = none ∧ H' = E.set k3 (.cells (u64A (wordsW 4 (accT r b j))) 87 4)) (blocksN b.length) ?_ ?_
  · refine ⟨0,H,by omega,?_⟩
    rw [a0,z0]
    simp (disch := omega) only [↓aI,↓zP,aD,zD,aS0,Nat.reduceBEq,Nat.reduceLT,reduceCtorEq,↓reduceIte,Nat.reduceMul,Nat.reduceAdd,Nat.reduceLeDiff,Nat.reduceEqDiff,Int.reduceToNat,Nat.reduceSub,Nat.reduceMod,Nat.reduceDiv,Int.reducePow,Int.reduceLE,Int.reduceNeg,Int.reduceLT,Int.reduceBEq,Int.reduceBNe,Int.reduceEq,Try.facts,u64A_strip]
    exact ⟨Abs.Sub.refl _,hk3⟩
  · rintro m σ H' ⟨j,E,hj,g1,g8,g10,g12,g13,hsub,hE3,rfl⟩
    by_cases hlt : j < blocksN b.length
    · have hlt2 : j * 16 < b.length := by omega
      have hb2 : decide (((j * 16 : Nat) : Int) < (b.length : Int)) = true := dT (by omega)
      have w1 : IntKind.i64.wrap (((j * 16 : Nat) : Int) + 16) = ((j * 16 + 16 : Nat) : Int) := by rw [iw (by omega)]; rfl
      have w2 : ((j * 16 + 16 : Nat) : Int) = (((j + 1) * 16 : Nat) : Int) := by congr 1; omega
      have hmn : (if ((b.length : Nat) : Int) < ((j * 16 + 16 : Nat) : Int) then ((b.length : Nat) : Int) else ((j * 16 + 16 : Nat) : Int)) = ((min (j * 16 + 16) b.length : Nat) : Int) := by split <;> omega
      have hL : ((b.drop (j * 16)).take 16).length = min (j * 16 + 16) b.length - j * 16 := by rw [List.length_take,List.length_drop]; omega
      have hcut : List.take (min (j * 16 + 16) b.length - j * 16) (List.drop (j * 16) (bw b)) = bw ((b.drop (j * 16)).take 16) := by
        rw [encB_drop,encB_take]
        congr 1
        by_cases h : j * 16 + 16 ≤ b.length
        · rw [show min (j * 16 + 16) b.length - j * 16 = 16 by omega]
        · rw [List.take_of_length_le (by rw [List.length_drop]; omega),List.take_of_length_le (by rw [List.length_drop]; omega)]
      have hL16 : min (j * 16 + 16) b.length - j * 16 ≤ 16 := by omega
      have hML : j * 16 ≤ min (j * 16 + 16) b.length ∧ min (j * 16 + 16) b.length ≤ b.length := by omega
      have eF := aF j
      rw [chunk_eq] at eF
      unfold eu at eF
      rw [List.length_append,hL] at eF
      have eA := aA j
      have eT := aT j
      rw [← hN] at eT
      rw [chunk_eq] at eA eT
      have l0 := lZ (accT r b j)
      have t0 := tZ (accT r b j)
      have l1 := lZ (accT r b (j + 1))
      have t1 := tZ (accT r b (j + 1))
      generalize hA1 : accT r b (j + 1) = A1 at *
      generalize accT r b j = A0 at *
      generalize (b.drop (j * 16)).take 16 = S at *
      have hSl := gz S
      rw [hL] at hSl
      have l2 := lZ (numL (S ++ [1]))
      have t2 := tZ (numL (S ++ [1]))
      have l3 := lZ (A0 + numL (S ++ [1]))
      have t3 := tZ (A0 + numL (S ++ [1]))
      generalize hLL : min (j * 16 + 16) b.length - j * 16 = L at *
      generalize min (j * 16 + 16) b.length = M at *
      have hne : [(1 : UInt8)].length = 1 := rfl
      rw [hne] at eF
      have e1 : bw S ++ [AV.sc (.int .u8 1)] = bw (S ++ [1]) := by rw [show ([AV.sc (.int .u8 1)] : List AV) = bw [1] from rfl,encB_append]
      simp (disch := omega) only [↓aI,↓zP,aD,zD,aS0,Nat.reduceBEq,Nat.reduceLT,reduceCtorEq,↓reduceIte,Nat.reduceMul,Nat.reduceAdd,Nat.reduceLeDiff,Nat.reduceEqDiff,Int.reduceToNat,Nat.reduceSub,Nat.reduceMod,Nat.reduceDiv,Int.reducePow,Int.reduceLE,Int.reduceNeg,Int.reduceLT,Int.reduceBEq,Int.reduceBNe,Int.reduceEq,Try.facts,g1,g8,g10,g12,g13,hb2,hbl,w1,hmn,hLL,hcut,hSl]
      intro k hk0 hk
      simp (disch := omega) only [↓aI,↓zP,aD,zD,aS0,Nat.reduceBEq,Nat.reduceLT,reduceCtorEq,↓reduceIte,Nat.reduceMul,Nat.reduceAdd,Nat.reduceLeDiff,Nat.reduceEqDiff,Int.reduceToNat,Nat.reduceSub,Nat.reduceMod,Nat.reduceDiv,Int.reducePow,Int.reduceLE,Int.reduceNeg,Int.reduceLT,Int.reduceBEq,Int.reduceBNe,Int.reduceEq,Try.facts,hk0,hSl]
      intro k4 o4 hk40 hk4 ho4
      simp (disch := omega) only [↓aI,↓zP,aD,zD,aS0,Nat.reduceBEq,Nat.reduceLT,reduceCtorEq,↓reduceIte,Nat.reduceMul,Nat.reduceAdd,Nat.reduceLeDiff,Nat.reduceEqDiff,Int.reduceToNat,Nat.reduceSub,Nat.reduceMod,Nat.reduceDiv,Int.reducePow,Int.reduceLE,Int.reduceNeg,Int.reduceLT,Int.reduceBEq,Int.reduceBNe,Int.reduceEq,Try.facts,hk40,hSl,ho4]
      intro k5 o5 hk50 hk5 ho5
      have f4 := am hk4
      rw [ef f4]
      have hk5a := am hk5
      have n35 := bK hk5a
      have hE5 := am hk5a
      rw [fD (fun e => n35 e.symm)]
      have hsub2 := hsub.trans (Sub.set_new hE5 (o := o5))
      have hE32 : (E.set k5 o5) k3 = none := by rw [aP0 n35]; exact hE3
      clear hk4 hk5 f4 hk5a hk hsub hE3
      generalize E.set k5 o5 = E2 at *
      rw [e1]
      first | refine CallK.p (eF) ?_ | refine CallP.i (eF) ?_
      simp (disch := omega) only [↓aI,↓zP,aD,zD,aS0,Nat.reduceBEq,Nat.reduceLT,reduceCtorEq,↓reduceIte,Nat.reduceMul,Nat.reduceAdd,Nat.reduceLeDiff,Nat.reduceEqDiff,Int.reduceToNat,Nat.reduceSub,Nat.reduceMod,Nat.reduceDiv,Int.reducePow,Int.reduceLE,Int.reduceNeg,Int.reduceLT,Int.reduceBEq,Int.reduceBNe,Int.reduceEq,Try.facts,g1,g8,g10,g12,g13,l2]
      intro k6 hk60 hk6
      rw [zeros_q l2,aj hk6]
      simp (disch := omega) only [↓aI,↓zP,aD,zD,aS0,Nat.reduceBEq,Nat.reduceLT,reduceCtorEq,↓reduceIte,Nat.reduceMul,Nat.reduceAdd,Nat.reduceLeDiff,Nat.reduceEqDiff,Int.reduceToNat,Nat.reduceSub,Nat.reduceMod,Nat.reduceDiv,Int.reducePow,Int.reduceLE,Int.reduceNeg,Int.reduceLT,Int.reduceBEq,Int.reduceBNe,Int.reduceEq,Try.facts,g1,g8,g10,g12,g13,l0,t0,l2,t2,l3,t3,l1,t1,set_get,u64A_strip,zeros_q l2]
      have p1 := put_q l0 l3
      have p2 := put_q l3 l1
      first | refine CallK.p (eA) ?_ | refine CallP.i (eA) ?_
      simp (disch := omega) only [↓aI,↓zP,aD,zD,aS0,Nat.reduceBEq,Nat.reduceLT,reduceCtorEq,↓reduceIte,Nat.reduceMul,Nat.reduceAdd,Nat.reduceLeDiff,Nat.reduceEqDiff,Int.reduceToNat,Nat.reduceSub,Nat.reduceMod,Nat.reduceDiv,Int.reducePow,Int.reduceLE,Int.reduceNeg,Int.reduceLT,Int.reduceBEq,Int.reduceBNe,Int.reduceEq,Try.facts,g1,g8,g10,g12,g13,l0,t0,l2,t2,l3,t3,l1,t1,set_get,set_set,u64A_strip,p1,tR,lR]
      first | refine CallK.p (eT) ?_ | refine CallP.i (eT) ?_
      simp (disch := omega) only [↓aI,↓zP,aD,zD,aS0,Nat.reduceBEq,Nat.reduceLT,reduceCtorEq,↓reduceIte,Nat.reduceMul,Nat.reduceAdd,Nat.reduceLeDiff,Nat.reduceEqDiff,Int.reduceToNat,Nat.reduceSub,Nat.reduceMod,Nat.reduceDiv,Int.reducePow,Int.reduceLE,Int.reduceNeg,Int.reduceLT,Int.reduceBEq,Int.reduceBNe,Int.reduceEq,Try.facts,g1,g8,g10,g12,g13,l0,t0,l2,t2,l3,t3,l1,t1,set_get,set_set,u64A_strip,p2,tR,lR,w1]
      exact ⟨m - 1,by omega,j + 1,E2,by omega,by rw [show (j + 1) * 16 = j * 16 + 16 by omega],hsub2,hE32,by rw [hA1]⟩
    · obtain rfl : j = blocksN b.length := by omega
      have hb2 : decide (((blocksN b.length * 16 : Nat) : Int) < (b.length : Int)) = false := dF (by omega)
      have hA0 := hA (blocksN b.length)
      have hB0 : lessT (lessT (accT r b (blocksN b.length))) = lessN (accT r b (blocksN b.length)) 2 := rfl
      rw [hB0] at aE aQ
      have hX0 : accT r b (blocksN b.length) = lessN (accT r b (blocksN b.length)) 0 := rfl
      have hXl := fun i => Nat.lt_of_le_of_lt (lessN_le (accT r b (blocksN b.length)) i) hA0
      have hXs : ∀ i,lessN (accT r b (blocksN b.length)) (i + 1) = lessT (lessN (accT r b (blocksN b.length)) i) := fun i => rfl
      rw [hX0]
      generalize lessN (accT r b (blocksN b.length)) = X at *
      simp (disch := omega) only [↓aI,↓zP,aD,zD,aS0,Nat.reduceBEq,Nat.reduceLT,reduceCtorEq,↓reduceIte,Nat.reduceMul,Nat.reduceAdd,Nat.reduceLeDiff,Nat.reduceEqDiff,Int.reduceToNat,Nat.reduceSub,Nat.reduceMod,Nat.reduceDiv,Int.reducePow,Int.reduceLE,Int.reduceNeg,Int.reduceLT,Int.reduceBEq,Int.reduceBNe,Int.reduceEq,Try.facts,g1,g8,g10,g12,g13,hb2,hbl]
      clear g1 g8 g13
      refine br (c := ⟨Try.prog,91,[(1000004,[8]),(1000005,[10]),(1000010,[14]),(1000015,[16]),(4000019,[4,5]),(4000018,[12]),(4000016,[10,12,69]),(4000015,[10,12,16,17,69]),(4000011,[1,8,10,12,13]),(4000010,[1,8,10,12,13,14]),(4000005,[1,8,10]),(4000004,[0,1,8]),(4000003,[0,1,6])],[45],[]⟩) Try.mixed (by kernel_rfl) (fun m σ H' => ∃ j,j + m = 2 ∧ σ 10 = .ip (u64A (wordsW 4 s)) 0 ∧ σ 12 = .ptr k3 0 ∧ σ 69 = .sc (.int .i64 (j : Nat)) ∧ H' = E.set k3 (.cells (u64A (wordsW 4 (X j))) 87 4)) 2 ?_ ?_
      · refine ⟨0,by omega,?_⟩
        simp (disch := omega) only [↓aI,↓zP,aD,zD,aS0,Nat.reduceBEq,Nat.reduceLT,reduceCtorEq,↓reduceIte,Nat.reduceMul,Nat.reduceAdd,Nat.reduceLeDiff,Nat.reduceEqDiff,Int.reduceToNat,Nat.reduceSub,Nat.reduceMod,Nat.reduceDiv,Int.reducePow,Int.reduceLE,Int.reduceNeg,Int.reduceLT,Int.reduceBEq,Int.reduceBNe,Int.reduceEq,Try.facts,g10,g12]
      · clear g10 g12
        clear σ
        rintro m σ H' ⟨i,hi,g10,g12,g69,rfl⟩
        have l0 := lZ (X i)
        have t0 := tZ (X i)
        by_cases hl2 : i < 2
        · have hb2 : decide ((i : Int) < 2) = true := dT (by omega)
          have w1 : IntKind.i64.wrap ((i : Int) + 1) = ((i + 1 : Nat) : Int) := by rw [iw (by omega)]; rfl
          have eS := aS (X i) (hXl i)
          have eP := aP (X i)
          rw [← hXs] at eP
          have l1 := lZ (X (i + 1))
          have l2 := lZ (X i + 18446744073709551616 ^ 4 - 1361129467683753853853498429727072845819)
          have t2 := tZ (X i + 18446744073709551616 ^ 4 - 1361129467683753853853498429727072845819)
          have p1 := put_q l0 l1
          simp (disch := omega) only [↓aI,↓zP,aD,zD,aS0,Nat.reduceBEq,Nat.reduceLT,reduceCtorEq,↓reduceIte,Nat.reduceMul,Nat.reduceAdd,Nat.reduceLeDiff,Nat.reduceEqDiff,Int.reduceToNat,Nat.reduceSub,Nat.reduceMod,Nat.reduceDiv,Int.reducePow,Int.reduceLE,Int.reduceNeg,Int.reduceLT,Int.reduceBEq,Int.reduceBNe,Int.reduceEq,Try.facts,g10,g12,g69,hb2,l0,t0,set_get,u64A_strip]
          generalize (if X i < 1361129467683753853853498429727072845819 then 1 else 0) = bt at *
          generalize wordsW 4 (X i + 18446744073709551616 ^ 4 - 1361129467683753853853498429727072845819) = WL at *
          first | refine CallK.p (eS) ?_ | refine CallP.i (eS) ?_
          simp (disch := omega) only [↓aI,↓zP,aD,zD,aS0,Nat.reduceBEq,Nat.reduceLT,reduceCtorEq,↓reduceIte,Nat.reduceMul,Nat.reduceAdd,Nat.reduceLeDiff,Nat.reduceEqDiff,Int.reduceToNat,Nat.reduceSub,Nat.reduceMod,Nat.reduceDiv,Int.reducePow,Int.reduceLE,Int.reduceNeg,Int.reduceLT,Int.reduceBEq,Int.reduceBNe,Int.reduceEq,Try.facts,g10,g12,g69,l2,u64A_strip]
          intro k7 hk70 hk7
          rw [zeros_q l2,aj hk7]
          simp (disch := omega) only [↓aI,↓zP,aD,zD,aS0,Nat.reduceBEq,Nat.reduceLT,reduceCtorEq,↓reduceIte,Nat.reduceMul,Nat.reduceAdd,Nat.reduceLeDiff,Nat.reduceEqDiff,Int.reduceToNat,Nat.reduceSub,Nat.reduceMod,Nat.reduceDiv,Int.reducePow,Int.reduceLE,Int.reduceNeg,Int.reduceLT,Int.reduceBEq,Int.reduceBNe,Int.reduceEq,Try.facts,g10,g12,g69,l0,t0,l2,t2,set_get,u64A_strip]
          first | refine CallK.p (eP) ?_ | refine CallP.i (eP) ?_
          simp (disch := omega) only [↓aI,↓zP,aD,zD,aS0,Nat.reduceBEq,Nat.reduceLT,reduceCtorEq,↓reduceIte,Nat.reduceMul,Nat.reduceAdd,Nat.reduceLeDiff,Nat.reduceEqDiff,Int.reduceToNat,Nat.reduceSub,Nat.reduceMod,Nat.reduceDiv,Int.reducePow,Int.reduceLE,Int.reduceNeg,Int.reduceLT,Int.reduceBEq,Int.reduceBNe,Int.reduceEq,Try.facts,g10,g12,g69,l0,l1,set_get,set_set,u64A_strip,p1,w1]
          exact ⟨m - 1,by omega,i + 1,by omega,rfl,rfl⟩
        · obtain rfl : i = 2 := by omega
          have hb2 : decide (((2 : Nat) : Int) < 2) = false := by decide
          simp (disch := omega) only [↓aI,↓zP,aD,zD,aS0,Nat.reduceBEq,Nat.reduceLT,reduceCtorEq,↓reduceIte,Nat.reduceMul,Nat.reduceAdd,Nat.reduceLeDiff,Nat.reduceEqDiff,Int.reduceToNat,Nat.reduceSub,Nat.reduceMod,Nat.reduceDiv,Int.reducePow,Int.reduceLE,Int.reduceNeg,Int.reduceLT,Int.reduceBEq,Int.reduceBNe,Int.reduceEq,Try.facts,g10,g12,g69,hb2,l0,t0,lS,tS,set_get,u64A_strip]
          have l1 := lZ (X 2 + s)
          have t1 := tZ (X 2 + s)
          have p1 := put_q l0 l1
          first | refine CallK.p (aE) ?_ | refine CallP.i (aE) ?_
          simp (disch := omega) only [↓aI,↓zP,aD,zD,aS0,Nat.reduceBEq,Nat.reduceLT,reduceCtorEq,↓reduceIte,Nat.reduceMul,Nat.reduceAdd,Nat.reduceLeDiff,Nat.reduceEqDiff,Int.reduceToNat,Nat.reduceSub,Nat.reduceMod,Nat.reduceDiv,Int.reducePow,Int.reduceLE,Int.reduceNeg,Int.reduceLT,Int.reduceBEq,Int.reduceBNe,Int.reduceEq,Try.facts,g10,g12,g69,l0,l1,t1,set_get,set_set,u64A_strip,p1]
          simp only [eu,hQl] at aQ
          have hOl := gz OUT
          rw [hQl] at hOl
          first | refine CallK.p (aQ) ?_ | refine CallP.i (aQ) ?_
          simp (disch := omega) only [↓aI,↓zP,aD,zD,aS0,Nat.reduceBEq,Nat.reduceLT,reduceCtorEq,↓reduceIte,Nat.reduceMul,Nat.reduceAdd,Nat.reduceLeDiff,Nat.reduceEqDiff,Int.reduceToNat,Nat.reduceSub,Nat.reduceMod,Nat.reduceDiv,Int.reducePow,Int.reduceLE,Int.reduceNeg,Int.reduceLT,Int.reduceBEq,Int.reduceBNe,Int.reduceEq,Try.facts,hOl,encB_take]
          have hT16 : (OUT.take 16).length = 16 := by rw [List.length_take]; omega
          refine ⟨by unfold eu; rw [hT16],?_⟩
          exact hsub.set_free hk3
end Go.Proofs.Ytibipjdngpjndaa
end
section
set_option linter.unusedSimpArgs false
set_option linter.unusedVariables false
set_option maxRecDepth 20000
set_option maxHeartbeats 8000000
namespace Go.Proofs.Ytibipjdngpjndaa
open Go Go.Abs Go.Proofs Go.Box
theorem stagb_pure (key nonce other c : List UInt8) (hk : key.length = 32) (hn : nonce.length = 12) (ho : other.length ≤ 100000) (hc : c.length ≤ 100000) : APure Try.prog 27 [eu key,eu nonce,eu other,eu c] (eu (tagB key nonce other c)) := by
  have c1 := sfirst_pure key nonce 0 hk hn (by decide)
  have hbl := blkM_len key nonce 0
  have c2 := sbytes_pure other.length (by omega)
  have c3 := sbytes_pure c.length (by omega)
  have c4 := sfilled_pure other.length (by omega)
  have c5 := sfilled_pure c.length (by omega)
  have hfl : (fillM other.length).length ≤ 16 := by simp [fillM]; omega
  have hfc : (fillM c.length).length ≤ 16 := by simp [fillM]; omega
  have hlo := fe0 8 other.length
  have hlc := fe0 8 c.length
  have c6 := sjoin_pure [other,fillM other.length,c,fillM c.length,fh 8 other.length,fh 8 c.length] (by simp) (by simp [hlo,hlc]; omega)
  have hall : [other,fillM other.length,c,fillM c.length,fh 8 other.length,fh 8 c.length].flatten = allM (fh 8) other c := by simp [allM,List.append_assoc]
  rw [hall] at c6
  have c7 := stag_pure ((blkM key nonce 0).take 32) (allM (fh 8) other c) (by rw [List.length_take]; omega) (by simp [allM,hlo,hlc]; omega)
  rw [show tagB key nonce other c = tagM ((blkM key nonce 0).take 32) (allM (fh 8) other c) from rfl]
  have hol := gz other
  have hcl := gz c
  have htl : ((blkM key nonce 0).take 32).length = 32 := by rw [List.length_take]; omega
  generalize tagM ((blkM key nonce 0).take 32) (allM (fh 8) other c) = TG at *
  generalize allM (fh 8) other c = AL at *
  generalize blkM key nonce 0 = B at *
  have hBe := gz B
  simp only [eu,hbl,hlo,hlc,htl] at c1 c2 c3 c7
  simp only [fZ,eu,List.map_cons,List.map_nil,hlo,hlc] at c6
  have hw1 : IntKind.u64.wrap (other.length : Int) = (other.length : Int) := jw (by omega)
  have hw2 : IntKind.u64.wrap (c.length : Int) = (c.length : Int) := jw (by omega)
  refine az (c := ⟨Try.prog,56,[(4,[0,0,0,0,1,0,0,0,1,0,0,0,0,0,0,0,0,0,0,0])],[],[]⟩) (rs := [ResultVar.tmp 8]) Try.mixed Try.func27 rfl rfl rfl (Nat.le_of_ble_eq_true rfl) (by kernel_rfl) fun H => ?_
  simp (disch := omega) only [↓aI,↓zP,aD,zD,aS0,Nat.reduceBEq,Nat.reduceLT,reduceCtorEq,↓reduceIte,Nat.reduceMul,Nat.reduceAdd,Nat.reduceLeDiff,Nat.reduceEqDiff,Int.reduceToNat,Nat.reduceSub,Nat.reduceMod,Nat.reduceDiv,Int.reducePow,Int.reduceLE,Int.reduceNeg,Int.reduceLT,Int.reduceBEq,Int.reduceBNe,Int.reduceEq,Try.facts]
  first | refine CallK.p (c1) ?_ | refine CallP.i (c1) ?_
  simp (disch := omega) only [↓aI,↓zP,aD,zD,aS0,Nat.reduceBEq,Nat.reduceLT,reduceCtorEq,↓reduceIte,Nat.reduceMul,Nat.reduceAdd,Nat.reduceLeDiff,Nat.reduceEqDiff,Int.reduceToNat,Nat.reduceSub,Nat.reduceMod,Nat.reduceDiv,Int.reducePow,Int.reduceLE,Int.reduceNeg,Int.reduceLT,Int.reduceBEq,Int.reduceBNe,Int.reduceEq,Try.facts,hw1]
  first | refine CallK.p (c2) ?_ | refine CallP.i (c2) ?_
  simp (disch := omega) only [↓aI,↓zP,aD,zD,aS0,Nat.reduceBEq,Nat.reduceLT,reduceCtorEq,↓reduceIte,Nat.reduceMul,Nat.reduceAdd,Nat.reduceLeDiff,Nat.reduceEqDiff,Int.reduceToNat,Nat.reduceSub,Nat.reduceMod,Nat.reduceDiv,Int.reducePow,Int.reduceLE,Int.reduceNeg,Int.reduceLT,Int.reduceBEq,Int.reduceBNe,Int.reduceEq,Try.facts,hw2]
  first | refine CallK.p (c3) ?_ | refine CallP.i (c3) ?_
  simp (disch := omega) only [↓aI,↓zP,aD,zD,aS0,Nat.reduceBEq,Nat.reduceLT,reduceCtorEq,↓reduceIte,Nat.reduceMul,Nat.reduceAdd,Nat.reduceLeDiff,Nat.reduceEqDiff,Int.reduceToNat,Nat.reduceSub,Nat.reduceMod,Nat.reduceDiv,Int.reducePow,Int.reduceLE,Int.reduceNeg,Int.reduceLT,Int.reduceBEq,Int.reduceBNe,Int.reduceEq,Try.facts,hBe,hbl,encB_take]
  first | refine CallK.p (c4) ?_ | refine CallP.i (c4) ?_
  simp (disch := omega) only [↓aI,↓zP,aD,zD,aS0,Nat.reduceBEq,Nat.reduceLT,reduceCtorEq,↓reduceIte,Nat.reduceMul,Nat.reduceAdd,Nat.reduceLeDiff,Nat.reduceEqDiff,Int.reduceToNat,Nat.reduceSub,Nat.reduceMod,Nat.reduceDiv,Int.reducePow,Int.reduceLE,Int.reduceNeg,Int.reduceLT,Int.reduceBEq,Int.reduceBNe,Int.reduceEq,Try.facts,hBe,hbl,encB_take]
  first | refine CallK.p (c5) ?_ | refine CallP.i (c5) ?_
  simp (disch := omega) only [↓aI,↓zP,aD,zD,aS0,Nat.reduceBEq,Nat.reduceLT,reduceCtorEq,↓reduceIte,Nat.reduceMul,Nat.reduceAdd,Nat.reduceLeDiff,Nat.reduceEqDiff,Int.reduceToNat,Nat.reduceSub,Nat.reduceMod,Nat.reduceDiv,Int.reducePow,Int.reduceLE,Int.reduceNeg,Int.reduceLT,Int.reduceBEq,Int.reduceBNe,Int.reduceEq,Try.facts,hBe,hbl,encB_take]
  have hAl : [other,fillM other.length,c,fillM c.length,fh 8 other.length,fh 8 c.length].length = 6 := rfl
  rw [hAl] at c6
  first | refine CallK.p (c6) ?_ | refine CallP.i (c6) ?_
  simp (disch := omega) only [↓aI,↓zP,aD,zD,aS0,Nat.reduceBEq,Nat.reduceLT,reduceCtorEq,↓reduceIte,Nat.reduceMul,Nat.reduceAdd,Nat.reduceLeDiff,Nat.reduceEqDiff,Int.reduceToNat,Nat.reduceSub,Nat.reduceMod,Nat.reduceDiv,Int.reducePow,Int.reduceLE,Int.reduceNeg,Int.reduceLT,Int.reduceBEq,Int.reduceBNe,Int.reduceEq,Try.facts]
  first | refine CallK.p (c7) ?_ | refine CallP.i (c7) ?_
  simp (disch := omega) only [↓aI,↓zP,aD,zD,aS0,Nat.reduceBEq,Nat.reduceLT,reduceCtorEq,↓reduceIte,Nat.reduceMul,Nat.reduceAdd,Nat.reduceLeDiff,Nat.reduceEqDiff,Int.reduceToNat,Nat.reduceSub,Nat.reduceMod,Nat.reduceDiv,Int.reducePow,Int.reduceLE,Int.reduceNeg,Int.reduceLT,Int.reduceBEq,Int.reduceBNe,Int.reduceEq,Try.facts]
  first | exact Abs.Sub.refl _ | exact ⟨rfl,Abs.Sub.refl _⟩ | trace_state
theorem sbox_pure (key nonce other text : List UInt8) (hk : key.length = 32) (hn : nonce.length = 12) (ho : other.length ≤ 100000) (ht : text.length ≤ 90000) : APure Try.prog 15 [eu key,eu nonce,eu other,eu text] (.tup [eu (sealB key nonce other text),.sc (.int .i64 0)]) := by
  have c0 := sright_pure key nonce
  rw [decide_eq_true (⟨hk,hn⟩ : _ ∧ _)] at c0
  have c1 := sxor_pure key nonce text hk hn (by omega)
  have hsl := strM_len key nonce text
  have c2 := stagb_pure key nonce other (strM key nonce text) hk hn ho (by omega)
  have htg : (tagB key nonce other (strM key nonce text)).length = 16 := tagM_len _ _
  have c3 := sjoin_pure [strM key nonce text,tagB key nonce other (strM key nonce text)] (by simp) (by simp [hsl,htg]; omega)
  have e : [strM key nonce text,tagB key nonce other (strM key nonce text)].flatten = sealB key nonce other text := by simp [sealB]
  rw [e] at c3
  have hl2 : [strM key nonce text,tagB key nonce other (strM key nonce text)].length = 2 := rfl
  generalize sealB key nonce other text = S at *
  generalize tagB key nonce other (strM key nonce text) = T at *
  generalize strM key nonce text = X at *
  simp only [fZ,eu,List.map_cons,List.map_nil,hl2] at c0 c1 c2 c3
  refine az (c := ⟨Try.prog,31,[],[],[]⟩) (rs := [ResultVar.tmp 8,ResultVar.tmp 9]) Try.mixed Try.func15 rfl rfl rfl (Nat.le_of_ble_eq_true rfl) (by kernel_rfl) fun H => ?_
  simp (disch := omega) only [↓aI,↓zP,aD,zD,aS0,Nat.reduceBEq,Nat.reduceLT,reduceCtorEq,↓reduceIte,Nat.reduceMul,Nat.reduceAdd,Nat.reduceLeDiff,Nat.reduceEqDiff,Int.reduceToNat,Nat.reduceSub,Nat.reduceMod,Nat.reduceDiv,Int.reducePow,Int.reduceLE,Int.reduceNeg,Int.reduceLT,Int.reduceBEq,Int.reduceBNe,Int.reduceEq,Try.facts]
  first | refine CallK.p (c0) ?_ | refine CallP.i (c0) ?_
  simp (disch := omega) only [↓aI,↓zP,aD,zD,aS0,Nat.reduceBEq,Nat.reduceLT,reduceCtorEq,↓reduceIte,Nat.reduceMul,Nat.reduceAdd,Nat.reduceLeDiff,Nat.reduceEqDiff,Int.reduceToNat,Nat.reduceSub,Nat.reduceMod,Nat.reduceDiv,Int.reducePow,Int.reduceLE,Int.reduceNeg,Int.reduceLT,Int.reduceBEq,Int.reduceBNe,Int.reduceEq,Try.facts]
  first | refine CallK.p (c1) ?_ | refine CallP.i (c1) ?_
  simp (disch := omega) only [↓aI,↓zP,aD,zD,aS0,Nat.reduceBEq,Nat.reduceLT,reduceCtorEq,↓reduceIte,Nat.reduceMul,Nat.reduceAdd,Nat.reduceLeDiff,Nat.reduceEqDiff,Int.reduceToNat,Nat.reduceSub,Nat.reduceMod,Nat.reduceDiv,Int.reducePow,Int.reduceLE,Int.reduceNeg,Int.reduceLT,Int.reduceBEq,Int.reduceBNe,Int.reduceEq,Try.facts]
  first | refine CallK.p (c2) ?_ | refine CallP.i (c2) ?_
  simp (disch := omega) only [↓aI,↓zP,aD,zD,aS0,Nat.reduceBEq,Nat.reduceLT,reduceCtorEq,↓reduceIte,Nat.reduceMul,Nat.reduceAdd,Nat.reduceLeDiff,Nat.reduceEqDiff,Int.reduceToNat,Nat.reduceSub,Nat.reduceMod,Nat.reduceDiv,Int.reducePow,Int.reduceLE,Int.reduceNeg,Int.reduceLT,Int.reduceBEq,Int.reduceBNe,Int.reduceEq,Try.facts]
  first | refine CallK.p (c3) ?_ | refine CallP.i (c3) ?_
  simp (disch := omega) only [↓aI,↓zP,aD,zD,aS0,Nat.reduceBEq,Nat.reduceLT,reduceCtorEq,↓reduceIte,Nat.reduceMul,Nat.reduceAdd,Nat.reduceLeDiff,Nat.reduceEqDiff,Int.reduceToNat,Nat.reduceSub,Nat.reduceMod,Nat.reduceDiv,Int.reducePow,Int.reduceLE,Int.reduceNeg,Int.reduceLT,Int.reduceBEq,Int.reduceBNe,Int.reduceEq,Try.facts]
  first | exact Abs.Sub.refl _ | exact ⟨rfl,Abs.Sub.refl _⟩ | trace_state
theorem sboxno_pure (key nonce other text : List UInt8) (hk : ¬ (key.length = 32 ∧ nonce.length = 12)) : APure Try.prog 15 [eu key,eu nonce,eu other,eu text] (.tup [eu [],.sc (.int .i64 1)]) := by
  have c0 := sright_pure key nonce
  rw [decide_eq_false hk] at c0
  simp only [eu] at c0
  refine az (c := ⟨Try.prog,31,[],[],[]⟩) (rs := [ResultVar.tmp 8,ResultVar.tmp 9]) Try.mixed Try.func15 rfl rfl rfl (Nat.le_of_ble_eq_true rfl) (by kernel_rfl) fun H => ?_
  simp (disch := omega) only [↓aI,↓zP,aD,zD,aS0,Nat.reduceBEq,Nat.reduceLT,reduceCtorEq,↓reduceIte,Nat.reduceMul,Nat.reduceAdd,Nat.reduceLeDiff,Nat.reduceEqDiff,Int.reduceToNat,Nat.reduceSub,Nat.reduceMod,Nat.reduceDiv,Int.reducePow,Int.reduceLE,Int.reduceNeg,Int.reduceLT,Int.reduceBEq,Int.reduceBNe,Int.reduceEq,Try.facts]
  first | refine CallK.p (c0) ?_ | refine CallP.i (c0) ?_
  simp (disch := omega) only [↓aI,↓zP,aD,zD,aS0,Nat.reduceBEq,Nat.reduceLT,reduceCtorEq,↓reduceIte,Nat.reduceMul,Nat.reduceAdd,Nat.reduceLeDiff,Nat.reduceEqDiff,Int.reduceToNat,Nat.reduceSub,Nat.reduceMod,Nat.reduceDiv,Int.reducePow,Int.reduceLE,Int.reduceNeg,Int.reduceLT,Int.reduceBEq,Int.reduceBNe,Int.reduceEq,Try.facts]
  first | exact Abs.Sub.refl _ | exact ⟨rfl,Abs.Sub.refl _⟩ | trace_state
theorem sopen_pure (key nonce other box : List UInt8) (hk : key.length = 32) (hn : nonce.length = 12) (ho : other.length ≤ 100000) (ht : box.length ≤ 90000) : APure Try.prog 19 [eu key,eu nonce,eu other,eu box] (.tup [eu (openB key nonce other box).1,.sc (.int .i64 (openB key nonce other box).2)]) := by
  have c0 := sright_pure key nonce
  rw [decide_eq_true (⟨hk,hn⟩ : _ ∧ _)] at c0
  have hel := gz box
  unfold openB
  by_cases h : box.length < 16
  · rw [if_pos h]
    have w1 : IntKind.i64.wrap ((box.length : Int) - 16) = (box.length : Int) - 16 := iw (by omega)
    have b3 : decide ((box.length : Int) - 16 < 0) = true := dT (by omega)
    simp only [eu] at c0
    refine az (c := ⟨Try.prog,45,[],[],[]⟩) (rs := [ResultVar.tmp 8,ResultVar.tmp 9]) Try.mixed Try.func19 rfl rfl rfl (Nat.le_of_ble_eq_true rfl) (by kernel_rfl) fun H => ?_
    simp (disch := omega) only [↓aI,↓zP,aD,zD,aS0,Nat.reduceBEq,Nat.reduceLT,reduceCtorEq,↓reduceIte,Nat.reduceMul,Nat.reduceAdd,Nat.reduceLeDiff,Nat.reduceEqDiff,Int.reduceToNat,Nat.reduceSub,Nat.reduceMod,Nat.reduceDiv,Int.reducePow,Int.reduceLE,Int.reduceNeg,Int.reduceLT,Int.reduceBEq,Int.reduceBNe,Int.reduceEq,Try.facts]
    first | refine CallK.p (c0) ?_ | refine CallP.i (c0) ?_
    simp (disch := omega) only [↓aI,↓zP,aD,zD,aS0,Nat.reduceBEq,Nat.reduceLT,reduceCtorEq,↓reduceIte,Nat.reduceMul,Nat.reduceAdd,Nat.reduceLeDiff,Nat.reduceEqDiff,Int.reduceToNat,Nat.reduceSub,Nat.reduceMod,Nat.reduceDiv,Int.reducePow,Int.reduceLE,Int.reduceNeg,Int.reduceLT,Int.reduceBEq,Int.reduceBNe,Int.reduceEq,Try.facts,w1,b3]
    exact ⟨rfl,Abs.Sub.refl _⟩
  · rw [if_neg h]
    have w1 : IntKind.i64.wrap ((box.length : Int) - 16) = ((box.length - 16 : Nat) : Int) := by rw [iw (by omega)]; omega
    have b3 : decide (((box.length - 16 : Nat) : Int) < 0) = false := dF (by omega)
    have htl : (box.take (box.length - 16)).length = box.length - 16 := by rw [List.length_take]; omega
    have hdl : (box.drop (box.length - 16)).length = 16 := by rw [List.length_drop]; omega
    have c1 := stagb_pure key nonce other (box.take (box.length - 16)) hk hn ho (by omega)
    have htg : (tagB key nonce other (box.take (box.length - 16))).length = 16 := tagM_len _ _
    have c2 := equal_pure (box.drop (box.length - 16)) (tagB key nonce other (box.take (box.length - 16))) (by omega)
    have c3 := sxor_pure key nonce (box.take (box.length - 16)) hk hn (by omega)
    have hsl := strM_len key nonce (box.take (box.length - 16))
    rw [htl] at hsl
    generalize tagB key nonce other (box.take (box.length - 16)) = T at *
    generalize strM key nonce (box.take (box.length - 16)) = X at *
    simp only [eu,htl,hdl,htg,hsl] at c0 c1 c2 c3
    refine az (c := ⟨Try.prog,45,[],[],[]⟩) (rs := [ResultVar.tmp 8,ResultVar.tmp 9]) Try.mixed Try.func19 rfl rfl rfl (Nat.le_of_ble_eq_true rfl) (by kernel_rfl) fun H => ?_
    simp (disch := omega) only [↓aI,↓zP,aD,zD,aS0,Nat.reduceBEq,Nat.reduceLT,reduceCtorEq,↓reduceIte,Nat.reduceMul,Nat.reduceAdd,Nat.reduceLeDiff,Nat.reduceEqDiff,Int.reduceToNat,Nat.reduceSub,Nat.reduceMod,Nat.reduceDiv,Int.reducePow,Int.reduceLE,Int.reduceNeg,Int.reduceLT,Int.reduceBEq,Int.reduceBNe,Int.reduceEq,Try.facts]
    first | refine CallK.p (c0) ?_ | refine CallP.i (c0) ?_
    simp (disch := omega) only [↓aI,↓zP,aD,zD,aS0,Nat.reduceBEq,Nat.reduceLT,reduceCtorEq,↓reduceIte,Nat.reduceMul,Nat.reduceAdd,Nat.reduceLeDiff,Nat.reduceEqDiff,Int.reduceToNat,Nat.reduceSub,Nat.reduceMod,Nat.reduceDiv,Int.reducePow,Int.reduceLE,Int.reduceNeg,Int.reduceLT,Int.reduceBEq,Int.reduceBNe,Int.reduceEq,Try.facts,w1,b3]
    intro k hk0 hk
    have hd16 : box.length - (box.length - 16) = 16 := by omega
    have htk : List.take (box.length - (box.length - 16)) (List.drop (box.length - 16) (bw box)) = bw (box.drop (box.length - 16)) := by
      rw [encB_drop,List.take_of_length_le (by rw [gz,List.length_drop]; omega)]
    have hDl := gz (box.drop (box.length - 16))
    rw [hdl] at hDl
    rw [htk,hd16]
    have htk2 : List.take (box.length - 16) (bw box) = bw (box.take (box.length - 16)) := by rw [encB_take]
    rw [htl] at *
    generalize box.drop (box.length - 16) = DR at *
    generalize box.take (box.length - 16) = BT at *
    have hsz : ai0 Try.prog 5 = 1 := by kernel_rfl
    have hmin : min 16 16 = 16 := rfl
    have hT : ax Try.prog 5 = true := by kernel_rfl
    have hput : bG [.sc (.int .u8 0),.sc (.int .u8 0),.sc (.int .u8 0),.sc (.int .u8 0),.sc (.int .u8 0),.sc (.int .u8 0),.sc (.int .u8 0),.sc (.int .u8 0),.sc (.int .u8 0),.sc (.int .u8 0),.sc (.int .u8 0),.sc (.int .u8 0),.sc (.int .u8 0),.sc (.int .u8 0),.sc (.int .u8 0),.sc (.int .u8 0)] 0 (bw DR) = bw DR := by
      rw [ah,hDl]
      simp
    refine copy_m (e := 5) (ns := 16) (cs := [.sc (.int .u8 0),.sc (.int .u8 0),.sc (.int .u8 0),.sc (.int .u8 0),.sc (.int .u8 0),.sc (.int .u8 0),.sc (.int .u8 0),.sc (.int .u8 0),.sc (.int .u8 0),.sc (.int .u8 0),.sc (.int .u8 0),.sc (.int .u8 0),.sc (.int .u8 0),.sc (.int .u8 0),.sc (.int .u8 0),.sc (.int .u8 0)]) (news := bw DR) (by kernel_rfl) rfl (by rw [hsz]; exact set_get) ⟨by omega,by rw [hsz,hDl],by rw [hmin,hsz,Nat.mul_one,List.take_of_length_le (by omega)]⟩ (by rw [hmin,hsz,hDl]) hT (by omega) (by rw [hsz]; omega) (.inl (by rw [hDl]; decide)) ?_
    rw [hsz,set_set,hput]
    simp (disch := omega) only [↓aI,↓zP,aD,zD,aS0,Nat.reduceBEq,Nat.reduceLT,reduceCtorEq,↓reduceIte,Nat.reduceMul,Nat.reduceAdd,Nat.reduceLeDiff,Nat.reduceEqDiff,Int.reduceToNat,Nat.reduceSub,Nat.reduceMod,Nat.reduceDiv,Int.reducePow,Int.reduceLE,Int.reduceNeg,Int.reduceLT,Int.reduceBEq,Int.reduceBNe,Int.reduceEq,Try.facts,htk2,Nat.sub_zero]
    first | refine CallK.p (c1) ?_ | refine CallP.i (c1) ?_
    simp (disch := omega) only [↓aI,↓zP,aD,zD,aS0,Nat.reduceBEq,Nat.reduceLT,reduceCtorEq,↓reduceIte,Nat.reduceMul,Nat.reduceAdd,Nat.reduceLeDiff,Nat.reduceEqDiff,Int.reduceToNat,Nat.reduceSub,Nat.reduceMod,Nat.reduceDiv,Int.reducePow,Int.reduceLE,Int.reduceNeg,Int.reduceLT,Int.reduceBEq,Int.reduceBNe,Int.reduceEq,Try.facts]
    refine CallK.lend c2 ⟨?_,.same,trivial⟩ ?_
    · have := Lend.row (H := H.set k (.cells (bw DR) 5 1)) (k := k) (n := 16) (cs := bw DR) (e := 5) (s := 1) set_get (by rw [hDl]; omega)
      rwa [Nat.mul_one,List.take_of_length_le (by rw [hDl]; omega)] at this
    by_cases heq : DR = T
    · rw [if_pos heq]
      have hq : (DR == T) = true := beq_iff_eq.2 heq
      simp (disch := omega) only [↓aI,↓zP,aD,zD,aS0,Nat.reduceBEq,Nat.reduceLT,reduceCtorEq,↓reduceIte,Nat.reduceMul,Nat.reduceAdd,Nat.reduceLeDiff,Nat.reduceEqDiff,Int.reduceToNat,Nat.reduceSub,Nat.reduceMod,Nat.reduceDiv,Int.reducePow,Int.reduceLE,Int.reduceNeg,Int.reduceLT,Int.reduceBEq,Int.reduceBNe,Int.reduceEq,Try.facts,hq,htk2,Nat.sub_zero]
      first | refine CallK.p (c3) ?_ | refine CallP.i (c3) ?_
      simp (disch := omega) only [↓aI,↓zP,aD,zD,aS0,Nat.reduceBEq,Nat.reduceLT,reduceCtorEq,↓reduceIte,Nat.reduceMul,Nat.reduceAdd,Nat.reduceLeDiff,Nat.reduceEqDiff,Int.reduceToNat,Nat.reduceSub,Nat.reduceMod,Nat.reduceDiv,Int.reducePow,Int.reduceLE,Int.reduceNeg,Int.reduceLT,Int.reduceBEq,Int.reduceBNe,Int.reduceEq,Try.facts]
      exact ⟨by unfold eu; rw [hsl],Sub.set_new hk⟩
    · rw [if_neg heq]
      have hq : (DR == T) = false := beq_eq_false_iff_ne.2 heq
      simp (disch := omega) only [↓aI,↓zP,aD,zD,aS0,Nat.reduceBEq,Nat.reduceLT,reduceCtorEq,↓reduceIte,Nat.reduceMul,Nat.reduceAdd,Nat.reduceLeDiff,Nat.reduceEqDiff,Int.reduceToNat,Nat.reduceSub,Nat.reduceMod,Nat.reduceDiv,Int.reducePow,Int.reduceLE,Int.reduceNeg,Int.reduceLT,Int.reduceBEq,Int.reduceBNe,Int.reduceEq,Try.facts,hq]
      exact ⟨rfl,Sub.set_new hk⟩
end Go.Proofs.Ytibipjdngpjndaa
end
section
set_option linter.unusedSimpArgs false
set_option linter.unusedVariables false
set_option maxRecDepth 20000
set_option maxHeartbeats 8000000
namespace Go.Proofs.Ytibipjdngpjndaa
open Go Go.Abs Go.Proofs Go.Box
def rsealB (key : List UInt8) (n : Int) (other text : List UInt8) : List UInt8 := if n < 0 then [] else if key.length ≠ 32 then [] else sealB key (nonM n.toNat) other text
theorem rseal_live (h : Nat) (H : AH) (key other text : List UInt8) (n : Int) (hn : n < 9223372036854775808) (ho : other.length ≤ 100000) (ht : text.length ≤ 90000) : ACalls Try.prog 6 [.ptr h 0,eu key,.sc (.int .i64 n),eu other,eu text] H fun v H' => v = eu (rsealB key n other text) ∧ H' = H := by
  unfold rsealB
  by_cases h : n < 0
  · rw [if_pos h]
    have b1 : decide (n < 0) = true := decide_eq_true h
    refine ao0 (c := ⟨Try.prog,25,[],[],[]⟩) (rs := [ResultVar.tmp 10]) Try.mixed Try.func6 rfl rfl rfl (Nat.le_of_ble_eq_true rfl) (by kernel_rfl) ?_
    simp (disch := omega) only [↓aI,↓zP,aD,zD,aS0,Nat.reduceBEq,Nat.reduceLT,reduceCtorEq,↓reduceIte,Nat.reduceMul,Nat.reduceAdd,Nat.reduceLeDiff,Nat.reduceEqDiff,Int.reduceToNat,Nat.reduceSub,Nat.reduceMod,Nat.reduceDiv,Int.reducePow,Int.reduceLE,Int.reduceNeg,Int.reduceLT,Int.reduceBEq,Int.reduceBNe,Int.reduceEq,Try.facts,b1]
    exact ⟨_,rfl,H,Abs.Sub.refl _,rfl,rfl⟩
  · rw [if_neg h]
    have b1 : decide (n < 0) = false := decide_eq_false h
    obtain ⟨m,rfl⟩ : ∃ m : Nat,n = (m : Int) := ⟨n.toNat,by omega⟩
    rw [Int.toNat_natCast]
    have c1 := snonce_pure m (by omega)
    have hnl := nonM_len m
    generalize nonM m = N at *
    by_cases hk : key.length = 32
    · rw [if_neg (by simp [hk])]
      have c2 := sbox_pure key N other text hk hnl ho ht
      generalize sealB key N other text = R at *
      refine ao0 (c := ⟨Try.prog,25,[],[],[]⟩) (rs := [ResultVar.tmp 10]) Try.mixed Try.func6 rfl rfl rfl (Nat.le_of_ble_eq_true rfl) (by kernel_rfl) ?_
      simp (disch := omega) only [↓aI,↓zP,aD,zD,aS0,Nat.reduceBEq,Nat.reduceLT,reduceCtorEq,↓reduceIte,Nat.reduceMul,Nat.reduceAdd,Nat.reduceLeDiff,Nat.reduceEqDiff,Int.reduceToNat,Nat.reduceSub,Nat.reduceMod,Nat.reduceDiv,Int.reducePow,Int.reduceLE,Int.reduceNeg,Int.reduceLT,Int.reduceBEq,Int.reduceBNe,Int.reduceEq,Try.facts,b1]
      first | refine CallK.p (c1) ?_ | refine CallP.i (c1) ?_
      simp (disch := omega) only [↓aI,↓zP,aD,zD,aS0,Nat.reduceBEq,Nat.reduceLT,reduceCtorEq,↓reduceIte,Nat.reduceMul,Nat.reduceAdd,Nat.reduceLeDiff,Nat.reduceEqDiff,Int.reduceToNat,Nat.reduceSub,Nat.reduceMod,Nat.reduceDiv,Int.reducePow,Int.reduceLE,Int.reduceNeg,Int.reduceLT,Int.reduceBEq,Int.reduceBNe,Int.reduceEq,Try.facts]
      first | refine CallK.p (c2) ?_ | refine CallP.i (c2) ?_
      simp (disch := omega) only [↓aI,↓zP,aD,zD,aS0,Nat.reduceBEq,Nat.reduceLT,reduceCtorEq,↓reduceIte,Nat.reduceMul,Nat.reduceAdd,Nat.reduceLeDiff,Nat.reduceEqDiff,Int.reduceToNat,Nat.reduceSub,Nat.reduceMod,Nat.reduceDiv,Int.reducePow,Int.reduceLE,Int.reduceNeg,Int.reduceLT,Int.reduceBEq,Int.reduceBNe,Int.reduceEq,Try.facts]
      exact ⟨_,rfl,H,Abs.Sub.refl _,rfl,rfl⟩
    · rw [if_pos (by simp [hk])]
      have c2 := sboxno_pure key N other text (by simp [hk])
      refine ao0 (c := ⟨Try.prog,25,[],[],[]⟩) (rs := [ResultVar.tmp 10]) Try.mixed Try.func6 rfl rfl rfl (Nat.le_of_ble_eq_true rfl) (by kernel_rfl) ?_
      simp (disch := omega) only [↓aI,↓zP,aD,zD,aS0,Nat.reduceBEq,Nat.reduceLT,reduceCtorEq,↓reduceIte,Nat.reduceMul,Nat.reduceAdd,Nat.reduceLeDiff,Nat.reduceEqDiff,Int.reduceToNat,Nat.reduceSub,Nat.reduceMod,Nat.reduceDiv,Int.reducePow,Int.reduceLE,Int.reduceNeg,Int.reduceLT,Int.reduceBEq,Int.reduceBNe,Int.reduceEq,Try.facts,b1]
      first | refine CallK.p (c1) ?_ | refine CallP.i (c1) ?_
      simp (disch := omega) only [↓aI,↓zP,aD,zD,aS0,Nat.reduceBEq,Nat.reduceLT,reduceCtorEq,↓reduceIte,Nat.reduceMul,Nat.reduceAdd,Nat.reduceLeDiff,Nat.reduceEqDiff,Int.reduceToNat,Nat.reduceSub,Nat.reduceMod,Nat.reduceDiv,Int.reducePow,Int.reduceLE,Int.reduceNeg,Int.reduceLT,Int.reduceBEq,Int.reduceBNe,Int.reduceEq,Try.facts]
      first | refine CallK.p (c2) ?_ | refine CallP.i (c2) ?_
      simp (disch := omega) only [↓aI,↓zP,aD,zD,aS0,Nat.reduceBEq,Nat.reduceLT,reduceCtorEq,↓reduceIte,Nat.reduceMul,Nat.reduceAdd,Nat.reduceLeDiff,Nat.reduceEqDiff,Int.reduceToNat,Nat.reduceSub,Nat.reduceMod,Nat.reduceDiv,Int.reducePow,Int.reduceLE,Int.reduceNeg,Int.reduceLT,Int.reduceBEq,Int.reduceBNe,Int.reduceEq,Try.facts]
      exact ⟨_,rfl,H,Abs.Sub.refl _,rfl,rfl⟩
theorem ropen_live (h : Nat) (H : AH) (key other box : List UInt8) (n : Int) (hn : n < 9223372036854775808) (ho : other.length ≤ 100000) (ht : box.length ≤ 90000) : ACalls Try.prog 9 [.ptr h 0,eu key,.sc (.int .i64 n),eu other,eu box] H fun v H' => v = .tup [eu (ropenB key n other box).1,.sc (.int .i64 (ropenB key n other box).2)] ∧ H' = H := by
  unfold ropenB
  by_cases hk : key.length = 32
  · have b0 : ((key.length : Int) != 32) = false := by rw [hk]; rfl
    by_cases h : n < 0
    · rw [if_pos (.inr h)]
      have b1 : decide (n < 0) = true := decide_eq_true h
      refine ao0 (c := ⟨Try.prog,33,[],[],[]⟩) (rs := [ResultVar.tmp 10,ResultVar.tmp 11]) Try.mixed Try.func9 rfl rfl rfl (Nat.le_of_ble_eq_true rfl) (by kernel_rfl) ?_
      simp (disch := omega) only [↓aI,↓zP,aD,zD,aS0,Nat.reduceBEq,Nat.reduceLT,reduceCtorEq,↓reduceIte,Nat.reduceMul,Nat.reduceAdd,Nat.reduceLeDiff,Nat.reduceEqDiff,Int.reduceToNat,Nat.reduceSub,Nat.reduceMod,Nat.reduceDiv,Int.reducePow,Int.reduceLE,Int.reduceNeg,Int.reduceLT,Int.reduceBEq,Int.reduceBNe,Int.reduceEq,Try.facts,b0,b1]
      exact ⟨_,rfl,H,Abs.Sub.refl _,rfl,rfl⟩
    · rw [if_neg (by omega)]
      have b1 : decide (n < 0) = false := decide_eq_false h
      obtain ⟨m,rfl⟩ : ∃ m : Nat,n = (m : Int) := ⟨n.toNat,by omega⟩
      rw [Int.toNat_natCast]
      have c1 := snonce_pure m (by omega)
      have hnl := nonM_len m
      generalize nonM m = N at *
      have c2 := sopen_pure key N other box hk hnl ho ht
      generalize openB key N other box = R at *
      obtain ⟨t,e⟩ := R
      by_cases he : e = 0
      · subst he
        have b2 : (((0 : Nat) : Int) != 0) = false := by decide
        refine ao0 (c := ⟨Try.prog,33,[],[],[]⟩) (rs := [ResultVar.tmp 10,ResultVar.tmp 11]) Try.mixed Try.func9 rfl rfl rfl (Nat.le_of_ble_eq_true rfl) (by kernel_rfl) ?_
        simp (disch := omega) only [↓aI,↓zP,aD,zD,aS0,Nat.reduceBEq,Nat.reduceLT,reduceCtorEq,↓reduceIte,Nat.reduceMul,Nat.reduceAdd,Nat.reduceLeDiff,Nat.reduceEqDiff,Int.reduceToNat,Nat.reduceSub,Nat.reduceMod,Nat.reduceDiv,Int.reducePow,Int.reduceLE,Int.reduceNeg,Int.reduceLT,Int.reduceBEq,Int.reduceBNe,Int.reduceEq,Try.facts,b0,b1]
        first | refine CallK.p (c1) ?_ | refine CallP.i (c1) ?_
        simp (disch := omega) only [↓aI,↓zP,aD,zD,aS0,Nat.reduceBEq,Nat.reduceLT,reduceCtorEq,↓reduceIte,Nat.reduceMul,Nat.reduceAdd,Nat.reduceLeDiff,Nat.reduceEqDiff,Int.reduceToNat,Nat.reduceSub,Nat.reduceMod,Nat.reduceDiv,Int.reducePow,Int.reduceLE,Int.reduceNeg,Int.reduceLT,Int.reduceBEq,Int.reduceBNe,Int.reduceEq,Try.facts]
        first | refine CallK.p (c2) ?_ | refine CallP.i (c2) ?_
        simp (disch := omega) only [↓aI,↓zP,aD,zD,aS0,Nat.reduceBEq,Nat.reduceLT,reduceCtorEq,↓reduceIte,Nat.reduceMul,Nat.reduceAdd,Nat.reduceLeDiff,Nat.reduceEqDiff,Int.reduceToNat,Nat.reduceSub,Nat.reduceMod,Nat.reduceDiv,Int.reducePow,Int.reduceLE,Int.reduceNeg,Int.reduceLT,Int.reduceBEq,Int.reduceBNe,Int.reduceEq,Try.facts,b2]
        exact ⟨_,rfl,H,Abs.Sub.refl _,rfl,rfl⟩
      · have b2 : ((e : Int) != 0) = true := nT (by omega)
        rw [if_neg he]
        refine ao0 (c := ⟨Try.prog,33,[],[],[]⟩) (rs := [ResultVar.tmp 10,ResultVar.tmp 11]) Try.mixed Try.func9 rfl rfl rfl (Nat.le_of_ble_eq_true rfl) (by kernel_rfl) ?_
        simp (disch := omega) only [↓aI,↓zP,aD,zD,aS0,Nat.reduceBEq,Nat.reduceLT,reduceCtorEq,↓reduceIte,Nat.reduceMul,Nat.reduceAdd,Nat.reduceLeDiff,Nat.reduceEqDiff,Int.reduceToNat,Nat.reduceSub,Nat.reduceMod,Nat.reduceDiv,Int.reducePow,Int.reduceLE,Int.reduceNeg,Int.reduceLT,Int.reduceBEq,Int.reduceBNe,Int.reduceEq,Try.facts,b0,b1]
        first | refine CallK.p (c1) ?_ | refine CallP.i (c1) ?_
        simp (disch := omega) only [↓aI,↓zP,aD,zD,aS0,Nat.reduceBEq,Nat.reduceLT,reduceCtorEq,↓reduceIte,Nat.reduceMul,Nat.reduceAdd,Nat.reduceLeDiff,Nat.reduceEqDiff,Int.reduceToNat,Nat.reduceSub,Nat.reduceMod,Nat.reduceDiv,Int.reducePow,Int.reduceLE,Int.reduceNeg,Int.reduceLT,Int.reduceBEq,Int.reduceBNe,Int.reduceEq,Try.facts]
        first | refine CallK.p (c2) ?_ | refine CallP.i (c2) ?_
        simp (disch := omega) only [↓aI,↓zP,aD,zD,aS0,Nat.reduceBEq,Nat.reduceLT,reduceCtorEq,↓reduceIte,Nat.reduceMul,Nat.reduceAdd,Nat.reduceLeDiff,Nat.reduceEqDiff,Int.reduceToNat,Nat.reduceSub,Nat.reduceMod,Nat.reduceDiv,Int.reducePow,Int.reduceLE,Int.reduceNeg,Int.reduceLT,Int.reduceBEq,Int.reduceBNe,Int.reduceEq,Try.facts,b2]
        exact ⟨_,rfl,H,Abs.Sub.refl _,rfl,rfl⟩
  · have b0 : ((key.length : Int) != 32) = true := nT (by omega)
    rw [if_pos (.inl hk)]
    refine ao0 (c := ⟨Try.prog,33,[],[],[]⟩) (rs := [ResultVar.tmp 10,ResultVar.tmp 11]) Try.mixed Try.func9 rfl rfl rfl (Nat.le_of_ble_eq_true rfl) (by kernel_rfl) ?_
    simp (disch := omega) only [↓aI,↓zP,aD,zD,aS0,Nat.reduceBEq,Nat.reduceLT,reduceCtorEq,↓reduceIte,Nat.reduceMul,Nat.reduceAdd,Nat.reduceLeDiff,Nat.reduceEqDiff,Int.reduceToNat,Nat.reduceSub,Nat.reduceMod,Nat.reduceDiv,Int.reducePow,Int.reduceLE,Int.reduceNeg,Int.reduceLT,Int.reduceBEq,Int.reduceBNe,Int.reduceEq,Try.facts,b0]
    exact ⟨_,rfl,H,Abs.Sub.refl _,rfl,rfl⟩
theorem real_new (H : AH) : ACalls Try.prog 5 [.imm 0 [] 0] H fun v H' => ∃ h,v = .ptr h 0 ∧ h ≠ 0 ∧ Abs.Sub H H' := by
  refine ao0 (c := ⟨Try.prog,8,[],[3],[]⟩) (rs := [ResultVar.tmp 2]) Try.mixed Try.func5 rfl rfl rfl (Nat.le_of_ble_eq_true rfl) (by kernel_rfl) ?_
  simp (disch := omega) only [↓aI,↓zP,aD,zD,aS0,Nat.reduceBEq,Nat.reduceLT,reduceCtorEq,↓reduceIte,Nat.reduceMul,Nat.reduceAdd,Nat.reduceLeDiff,Nat.reduceEqDiff,Int.reduceToNat,Nat.reduceSub,Nat.reduceMod,Nat.reduceDiv,Int.reducePow,Int.reduceLE,Int.reduceNeg,Int.reduceLT,Int.reduceBEq,Int.reduceBNe,Int.reduceEq,Try.facts]
  intro k hk0 hk
  simp (disch := omega) only [↓aI,↓zP,aD,zD,aS0,Nat.reduceBEq,Nat.reduceLT,reduceCtorEq,↓reduceIte,Nat.reduceMul,Nat.reduceAdd,Nat.reduceLeDiff,Nat.reduceEqDiff,Int.reduceToNat,Nat.reduceSub,Nat.reduceMod,Nat.reduceDiv,Int.reducePow,Int.reduceLE,Int.reduceNeg,Int.reduceLT,Int.reduceBEq,Int.reduceBNe,Int.reduceEq,Try.facts,hk0]
  intro k2 o2 hk20 hk2 ho2
  intro b hb0 hb
  exact ⟨_,rfl,_,Abs.Sub.refl _,b,rfl,hb0,(Sub.set_new (am hk2)).set_free (am hb)⟩
theorem ropen_seal (key : List UInt8) (n : Int) (other text : List UInt8) : ropenB key n other (rsealB key n other text) = if key.length = 32 ∧ 0 ≤ n then (text,0) else ([],1) := by
  unfold ropenB rsealB
  by_cases h : key.length = 32 ∧ 0 ≤ n
  · obtain ⟨h1,h2⟩ := h
    have hl := sealB_len key (nonM n.toNat) other text
    have e : openB key (nonM n.toNat) other (sealB key (nonM n.toNat) other text) = (text,0) := by
      have hsl := strM_len key (nonM n.toNat) text
      have ht : (sealB key (nonM n.toNat) other text).take text.length = strM key (nonM n.toNat) text := by
        unfold sealB
        rw [← hsl,List.take_left]
      have hd : (sealB key (nonM n.toNat) other text).drop text.length = tagB key (nonM n.toNat) other (strM key (nonM n.toNat) text) := by
        unfold sealB
        rw [← hsl,List.drop_left]
      unfold openB
      rw [if_neg (by omega),hl,Nat.add_sub_cancel,ht,hd,if_pos rfl,strM_twice]
    rw [if_neg (by omega : ¬ (key.length ≠ 32 ∨ n < 0)),if_neg (by omega : ¬ n < 0),if_neg (by simp [h1] : ¬ key.length ≠ 32),e,if_pos rfl,if_pos ⟨h1,h2⟩]
  · rw [if_neg h,if_pos (by omega)]
theorem rsealB_len (key : List UInt8) (n : Int) (other text : List UInt8) : (rsealB key n other text).length ≤ text.length + 16 := by
  unfold rsealB
  split
  · simp
  · split
    · simp
    · rw [sealB_len]
      omega
theorem boxes_walk (x0 : List UInt8) (x1 : Int) (x2 x3 : List UInt8) (h0 : x0.length ≤ 140737488355328) (h1 : x1 < 9223372036854775808) (h2 : x2.length ≤ 140737488355328) (h3 : x3.length ≤ 140737488355328) : APure Try.prog 3 [eu x0,.sc (.int .i64 x1),eu x2,eu x3] (.sc (.bool true)) := by
  have haw := awake_pure
  refine az (c := ⟨Try.prog,118,[(7,[0,0,0,0,0,0,0,0,0]),(4000014,[8]),(4000012,[11,12,13,14,104]),(4000011,[0,1,3,11,12,13,14,15,16]),(4000010,[0,1,2,3,9,10,11,12,13,14]),(4000009,[0,1,2,3,9,10,11,12]),(4000007,[0,1,2,3,9,10,46]),(4000006,[0,1,2,3,9,10]),(4000001,[0,1,2,3,24])],[],[]⟩) (rs := [ResultVar.tmp 8]) Try.mixed Try.func3 rfl rfl rfl (Nat.le_of_ble_eq_true rfl) (by kernel_rfl) fun H => ?_
  by_cases hb0 : 1000 < x2.length
  · have b0 : decide ((1000 : Int) < (x2.length : Int)) = true := dT (by omega)
    simp (disch := omega) only [↓aI,↓zP,aD,zD,aS0,Nat.reduceBEq,Nat.reduceLT,reduceCtorEq,↓reduceIte,Nat.reduceMul,Nat.reduceAdd,Nat.reduceLeDiff,Nat.reduceEqDiff,Int.reduceToNat,Nat.reduceSub,Nat.reduceMod,Nat.reduceDiv,Int.reducePow,Int.reduceLE,Int.reduceNeg,Int.reduceLT,Int.reduceBEq,Int.reduceBNe,Int.reduceEq,Try.facts,b0]
    first | refine CallK.p (haw) ?_ | refine CallP.i (haw) ?_
    simp (disch := omega) only [↓aI,↓zP,aD,zD,aS0,Nat.reduceBEq,Nat.reduceLT,reduceCtorEq,↓reduceIte,Nat.reduceMul,Nat.reduceAdd,Nat.reduceLeDiff,Nat.reduceEqDiff,Int.reduceToNat,Nat.reduceSub,Nat.reduceMod,Nat.reduceDiv,Int.reducePow,Int.reduceLE,Int.reduceNeg,Int.reduceLT,Int.reduceBEq,Int.reduceBNe,Int.reduceEq,Try.facts]
    first | exact Abs.Sub.refl _ | trace_state
  · have b0 : decide ((1000 : Int) < (x2.length : Int)) = false := dF (by omega)
    by_cases hb1 : 2000 < x3.length
    · have b1 : decide ((2000 : Int) < (x3.length : Int)) = true := dT (by omega)
      simp (disch := omega) only [↓aI,↓zP,aD,zD,aS0,Nat.reduceBEq,Nat.reduceLT,reduceCtorEq,↓reduceIte,Nat.reduceMul,Nat.reduceAdd,Nat.reduceLeDiff,Nat.reduceEqDiff,Int.reduceToNat,Nat.reduceSub,Nat.reduceMod,Nat.reduceDiv,Int.reducePow,Int.reduceLE,Int.reduceNeg,Int.reduceLT,Int.reduceBEq,Int.reduceBNe,Int.reduceEq,Try.facts,b0,b1]
      first | refine CallK.p (haw) ?_ | refine CallP.i (haw) ?_
      simp (disch := omega) only [↓aI,↓zP,aD,zD,aS0,Nat.reduceBEq,Nat.reduceLT,reduceCtorEq,↓reduceIte,Nat.reduceMul,Nat.reduceAdd,Nat.reduceLeDiff,Nat.reduceEqDiff,Int.reduceToNat,Nat.reduceSub,Nat.reduceMod,Nat.reduceDiv,Int.reducePow,Int.reduceLE,Int.reduceNeg,Int.reduceLT,Int.reduceBEq,Int.reduceBNe,Int.reduceEq,Try.facts]
      first | exact Abs.Sub.refl _ | trace_state
    · have b1 : decide ((2000 : Int) < (x3.length : Int)) = false := dF (by omega)
      have o0 := own_pure x0 h0
      have o2 := own_pure x2 h2
      have o3 := own_pure x3 h3
      have hsl := rsealB_len x0 x1 x2 x3
      have hds := drseal_pure x0 x2 x3 x1 h1 (by omega) (by omega)
      have hdo := dropen_pure x0 x2 x3 x1 h1 (by omega) (by omega)
      rw [← show rsealB x0 x1 x2 x3 = (if x1 < 0 then [] else if x0.length ≠ 32 then [] else sealB x0 (nonM x1.toNat) x2 x3) from rfl] at hds
      have hback := ropen_seal x0 x1 x2 x3
      have c1 := fun h H => rseal_live h H x0 x2 x3 x1 h1 (by omega) (by omega)
      have c2 := fun h H => ropen_live h H x0 x2 x3 x1 h1 (by omega) (by omega)
      have c3 := fun h H => ropen_live h H x0 x2 (rsealB x0 x1 x2 x3) x1 h1 (by omega) (by omega)
      rw [hback] at c3
      generalize rsealB x0 x1 x2 x3 = B at *
      generalize ropenB x0 x1 x2 x3 = R at *
      simp (disch := omega) only [↓aI,↓zP,aD,zD,aS0,Nat.reduceBEq,Nat.reduceLT,reduceCtorEq,↓reduceIte,Nat.reduceMul,Nat.reduceAdd,Nat.reduceLeDiff,Nat.reduceEqDiff,Int.reduceToNat,Nat.reduceSub,Nat.reduceMod,Nat.reduceDiv,Int.reducePow,Int.reduceLE,Int.reduceNeg,Int.reduceLT,Int.reduceBEq,Int.reduceBNe,Int.reduceEq,Try.facts,b0,b1]
      refine CallK.i (real_new _) ?_
      rintro v E ⟨h,rfl,hh0,hs⟩
      simp (disch := omega) only [↓aI,↓zP,aD,zD,aS0,Nat.reduceBEq,Nat.reduceLT,reduceCtorEq,↓reduceIte,Nat.reduceMul,Nat.reduceAdd,Nat.reduceLeDiff,Nat.reduceEqDiff,Int.reduceToNat,Nat.reduceSub,Nat.reduceMod,Nat.reduceDiv,Int.reducePow,Int.reduceLE,Int.reduceNeg,Int.reduceLT,Int.reduceBEq,Int.reduceBNe,Int.reduceEq,Try.facts]
      first | refine CallK.p (o0) ?_ | refine CallP.i (o0) ?_
      simp (disch := omega) only [↓aI,↓zP,aD,zD,aS0,Nat.reduceBEq,Nat.reduceLT,reduceCtorEq,↓reduceIte,Nat.reduceMul,Nat.reduceAdd,Nat.reduceLeDiff,Nat.reduceEqDiff,Int.reduceToNat,Nat.reduceSub,Nat.reduceMod,Nat.reduceDiv,Int.reducePow,Int.reduceLE,Int.reduceNeg,Int.reduceLT,Int.reduceBEq,Int.reduceBNe,Int.reduceEq,Try.facts]
      first | refine CallK.p (o2) ?_ | refine CallP.i (o2) ?_
      simp (disch := omega) only [↓aI,↓zP,aD,zD,aS0,Nat.reduceBEq,Nat.reduceLT,reduceCtorEq,↓reduceIte,Nat.reduceMul,Nat.reduceAdd,Nat.reduceLeDiff,Nat.reduceEqDiff,Int.reduceToNat,Nat.reduceSub,Nat.reduceMod,Nat.reduceDiv,Int.reducePow,Int.reduceLE,Int.reduceNeg,Int.reduceLT,Int.reduceBEq,Int.reduceBNe,Int.reduceEq,Try.facts]
      first | refine CallK.p (o3) ?_ | refine CallP.i (o3) ?_
      simp (disch := omega) only [↓aI,↓zP,aD,zD,aS0,Nat.reduceBEq,Nat.reduceLT,reduceCtorEq,↓reduceIte,Nat.reduceMul,Nat.reduceAdd,Nat.reduceLeDiff,Nat.reduceEqDiff,Int.reduceToNat,Nat.reduceSub,Nat.reduceMod,Nat.reduceDiv,Int.reducePow,Int.reduceLE,Int.reduceNeg,Int.reduceLT,Int.reduceBEq,Int.reduceBNe,Int.reduceEq,Try.facts]
      refine CallK.i (c1 _ _) ?_
      rintro v E2 ⟨rfl,rfl⟩
      simp (disch := omega) only [↓aI,↓zP,aD,zD,aS0,Nat.reduceBEq,Nat.reduceLT,reduceCtorEq,↓reduceIte,Nat.reduceMul,Nat.reduceAdd,Nat.reduceLeDiff,Nat.reduceEqDiff,Int.reduceToNat,Nat.reduceSub,Nat.reduceMod,Nat.reduceDiv,Int.reducePow,Int.reduceLE,Int.reduceNeg,Int.reduceLT,Int.reduceBEq,Int.reduceBNe,Int.reduceEq,Try.facts]
      first | refine CallK.p (hds) ?_ | refine CallP.i (hds) ?_
      simp (disch := omega) only [↓aI,↓zP,aD,zD,aS0,Nat.reduceBEq,Nat.reduceLT,reduceCtorEq,↓reduceIte,Nat.reduceMul,Nat.reduceAdd,Nat.reduceLeDiff,Nat.reduceEqDiff,Int.reduceToNat,Nat.reduceSub,Nat.reduceMod,Nat.reduceDiv,Int.reducePow,Int.reduceLE,Int.reduceNeg,Int.reduceLT,Int.reduceBEq,Int.reduceBNe,Int.reduceEq,Try.facts]
      first | refine CallK.p (o0) ?_ | refine CallP.i (o0) ?_
      simp (disch := omega) only [↓aI,↓zP,aD,zD,aS0,Nat.reduceBEq,Nat.reduceLT,reduceCtorEq,↓reduceIte,Nat.reduceMul,Nat.reduceAdd,Nat.reduceLeDiff,Nat.reduceEqDiff,Int.reduceToNat,Nat.reduceSub,Nat.reduceMod,Nat.reduceDiv,Int.reducePow,Int.reduceLE,Int.reduceNeg,Int.reduceLT,Int.reduceBEq,Int.reduceBNe,Int.reduceEq,Try.facts]
      first | refine CallK.p (o2) ?_ | refine CallP.i (o2) ?_
      simp (disch := omega) only [↓aI,↓zP,aD,zD,aS0,Nat.reduceBEq,Nat.reduceLT,reduceCtorEq,↓reduceIte,Nat.reduceMul,Nat.reduceAdd,Nat.reduceLeDiff,Nat.reduceEqDiff,Int.reduceToNat,Nat.reduceSub,Nat.reduceMod,Nat.reduceDiv,Int.reducePow,Int.reduceLE,Int.reduceNeg,Int.reduceLT,Int.reduceBEq,Int.reduceBNe,Int.reduceEq,Try.facts]
      first | refine CallK.p (o3) ?_ | refine CallP.i (o3) ?_
      simp (disch := omega) only [↓aI,↓zP,aD,zD,aS0,Nat.reduceBEq,Nat.reduceLT,reduceCtorEq,↓reduceIte,Nat.reduceMul,Nat.reduceAdd,Nat.reduceLeDiff,Nat.reduceEqDiff,Int.reduceToNat,Nat.reduceSub,Nat.reduceMod,Nat.reduceDiv,Int.reducePow,Int.reduceLE,Int.reduceNeg,Int.reduceLT,Int.reduceBEq,Int.reduceBNe,Int.reduceEq,Try.facts]
      refine CallK.i (c2 _ _) ?_
      rintro v E3 ⟨rfl,rfl⟩
      simp (disch := omega) only [↓aI,↓zP,aD,zD,aS0,Nat.reduceBEq,Nat.reduceLT,reduceCtorEq,↓reduceIte,Nat.reduceMul,Nat.reduceAdd,Nat.reduceLeDiff,Nat.reduceEqDiff,Int.reduceToNat,Nat.reduceSub,Nat.reduceMod,Nat.reduceDiv,Int.reducePow,Int.reduceLE,Int.reduceNeg,Int.reduceLT,Int.reduceBEq,Int.reduceBNe,Int.reduceEq,Try.facts]
      first | refine CallK.p (hdo) ?_ | refine CallP.i (hdo) ?_
      simp (disch := omega) only [↓aI,↓zP,aD,zD,aS0,Nat.reduceBEq,Nat.reduceLT,reduceCtorEq,↓reduceIte,Nat.reduceMul,Nat.reduceAdd,Nat.reduceLeDiff,Nat.reduceEqDiff,Int.reduceToNat,Nat.reduceSub,Nat.reduceMod,Nat.reduceDiv,Int.reducePow,Int.reduceLE,Int.reduceNeg,Int.reduceLT,Int.reduceBEq,Int.reduceBNe,Int.reduceEq,Try.facts]
      first | refine CallK.p (o0) ?_ | refine CallP.i (o0) ?_
      simp (disch := omega) only [↓aI,↓zP,aD,zD,aS0,Nat.reduceBEq,Nat.reduceLT,reduceCtorEq,↓reduceIte,Nat.reduceMul,Nat.reduceAdd,Nat.reduceLeDiff,Nat.reduceEqDiff,Int.reduceToNat,Nat.reduceSub,Nat.reduceMod,Nat.reduceDiv,Int.reducePow,Int.reduceLE,Int.reduceNeg,Int.reduceLT,Int.reduceBEq,Int.reduceBNe,Int.reduceEq,Try.facts]
      first | refine CallK.p (o2) ?_ | refine CallP.i (o2) ?_
      simp (disch := omega) only [↓aI,↓zP,aD,zD,aS0,Nat.reduceBEq,Nat.reduceLT,reduceCtorEq,↓reduceIte,Nat.reduceMul,Nat.reduceAdd,Nat.reduceLeDiff,Nat.reduceEqDiff,Int.reduceToNat,Nat.reduceSub,Nat.reduceMod,Nat.reduceDiv,Int.reducePow,Int.reduceLE,Int.reduceNeg,Int.reduceLT,Int.reduceBEq,Int.reduceBNe,Int.reduceEq,Try.facts]
      refine CallK.i (c3 _ _) ?_
      rintro v E4 ⟨rfl,rfl⟩
      have hq : ((R.2 : Int) == (R.2 : Int)) = true := beq_self_eq_true _
      by_cases hc : x0.length = 32 ∧ 0 ≤ x1
      · rw [if_pos hc]
        have hz : (((0 : Nat) : Int) == 0) = true := by decide
        have hz2 : (((0 : Nat) : Int) != 0) = false := by decide
        simp (disch := omega) only [↓aI,↓zP,aD,zD,aS0,Nat.reduceBEq,Nat.reduceLT,reduceCtorEq,↓reduceIte,Nat.reduceMul,Nat.reduceAdd,Nat.reduceLeDiff,Nat.reduceEqDiff,Int.reduceToNat,Nat.reduceSub,Nat.reduceMod,Nat.reduceDiv,Int.reducePow,Int.reduceLE,Int.reduceNeg,Int.reduceLT,Int.reduceBEq,Int.reduceBNe,Int.reduceEq,Try.facts,hz,hz2,hq]
        first | refine CallK.p (haw) ?_ | refine CallP.i (haw) ?_
        simp (disch := omega) only [↓aI,↓zP,aD,zD,aS0,Nat.reduceBEq,Nat.reduceLT,reduceCtorEq,↓reduceIte,Nat.reduceMul,Nat.reduceAdd,Nat.reduceLeDiff,Nat.reduceEqDiff,Int.reduceToNat,Nat.reduceSub,Nat.reduceMod,Nat.reduceDiv,Int.reducePow,Int.reduceLE,Int.reduceNeg,Int.reduceLT,Int.reduceBEq,Int.reduceBNe,Int.reduceEq,Try.facts]
        first | exact hs | trace_state
      · rw [if_neg hc]
        have hz : (((1 : Nat) : Int) == 0) = false := by decide
        have hz2 : (((1 : Nat) : Int) != 0) = true := by decide
        have hz3 : (((0 : Nat) : Int) != 0) = false := by decide
        by_cases h32 : x0.length = 32
        · have b2 : ((x0.length : Int) == 32) = true := qT (by omega)
          have b3 : decide (0 ≤ x1) = false := decide_eq_false (by omega)
          simp (disch := omega) only [↓aI,↓zP,aD,zD,aS0,Nat.reduceBEq,Nat.reduceLT,reduceCtorEq,↓reduceIte,Nat.reduceMul,Nat.reduceAdd,Nat.reduceLeDiff,Nat.reduceEqDiff,Int.reduceToNat,Nat.reduceSub,Nat.reduceMod,Nat.reduceDiv,Int.reducePow,Int.reduceLE,Int.reduceNeg,Int.reduceLT,Int.reduceBEq,Int.reduceBNe,Int.reduceEq,Try.facts,hz,hz2,hz3,hq,b2,b3]
          first | refine CallK.p (haw) ?_ | refine CallP.i (haw) ?_
          simp (disch := omega) only [↓aI,↓zP,aD,zD,aS0,Nat.reduceBEq,Nat.reduceLT,reduceCtorEq,↓reduceIte,Nat.reduceMul,Nat.reduceAdd,Nat.reduceLeDiff,Nat.reduceEqDiff,Int.reduceToNat,Nat.reduceSub,Nat.reduceMod,Nat.reduceDiv,Int.reducePow,Int.reduceLE,Int.reduceNeg,Int.reduceLT,Int.reduceBEq,Int.reduceBNe,Int.reduceEq,Try.facts]
          first | exact hs | trace_state
        · have b2 : ((x0.length : Int) == 32) = false := qF (by omega)
          simp (disch := omega) only [↓aI,↓zP,aD,zD,aS0,Nat.reduceBEq,Nat.reduceLT,reduceCtorEq,↓reduceIte,Nat.reduceMul,Nat.reduceAdd,Nat.reduceLeDiff,Nat.reduceEqDiff,Int.reduceToNat,Nat.reduceSub,Nat.reduceMod,Nat.reduceDiv,Int.reducePow,Int.reduceLE,Int.reduceNeg,Int.reduceLT,Int.reduceBEq,Int.reduceBNe,Int.reduceEq,Try.facts,hz,hz2,hz3,hq,b2]
          first | refine CallK.p (haw) ?_ | refine CallP.i (haw) ?_
          simp (disch := omega) only [↓aI,↓zP,aD,zD,aS0,Nat.reduceBEq,Nat.reduceLT,reduceCtorEq,↓reduceIte,Nat.reduceMul,Nat.reduceAdd,Nat.reduceLeDiff,Nat.reduceEqDiff,Int.reduceToNat,Nat.reduceSub,Nat.reduceMod,Nat.reduceDiv,Int.reducePow,Int.reduceLE,Int.reduceNeg,Int.reduceLT,Int.reduceBEq,Int.reduceBNe,Int.reduceEq,Try.facts]
          first | exact hs | trace_state
end Go.Proofs.Ytibipjdngpjndaa
end
