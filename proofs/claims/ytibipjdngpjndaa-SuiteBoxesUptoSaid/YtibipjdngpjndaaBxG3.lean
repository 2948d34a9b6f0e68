/-
  Several texts in one: each says what it proves.
  Conditions: none. Lemmas only.
-/
import Derived.Test.YtibipjdngpjndaaBxG2
import Derived.Test.YtibipjdngpjndaaAbsG6
set_option linter.all false
section
set_option linter.unusedSimpArgs false
set_option linter.unusedVariables false
set_option maxRecDepth 20000
set_option maxHeartbeats 4000000
namespace Go.Proofs.Ytibipjdngpjndaa
open Go Go.Abs Go.Proofs Go.Box
def putK (w : List Nat) (p : Nat × Nat × Nat × Nat) (q : Q4) : Nat → List Nat
  | 0 => w
  | 1 => w.set p.1 q.a
  | 2 => (w.set p.1 q.a).set p.2.1 q.b
  | 3 => ((w.set p.1 q.a).set p.2.1 q.b).set p.2.2.1 q.c
  | _ + 4 => putQ w p q
theorem putK_len (w : List Nat) (p : Nat × Nat × Nat × Nat) (q : Q4) (k : Nat) : (putK w p q k).length = w.length := by
  match k with
  | 0 | 1 | 2 | 3 | _ + 4 => simp [putK,putQ]
theorem tellW_snoc (w : List Nat) {n : Nat} (h : n < 64) : (tellW w).take (n + 1) = (tellW w).take n ++ [UInt8.ofNat (w.getD (n / 4) 0 / 2 ^ (8 * (n % 4)))] := by
  rw [List.take_succ_eq_append_getElem (by rw [tellW_len]; exact h)]
  congr 1
  simp [tellW]
theorem places_lt : ∀ y,y < 8 → (placesL.getD y (0,0,0,0)).1 < 16 ∧ (placesL.getD y (0,0,0,0)).2.1 < 16 ∧ (placesL.getD y (0,0,0,0)).2.2.1 < 16 ∧ (placesL.getD y (0,0,0,0)).2.2.2 < 16 := by decide
theorem places_at {y : Nat} (h : y < 8) : (placesL.map placeV)[y]? = some (placeV (placesL.getD y (0,0,0,0))) := by
  have hl : placesL.length = 8 := rfl
  rw [List.getElem?_map,List.getElem?_eq_getElem (by omega)]
  simp [List.getD,List.getElem?_eq_getElem (show y < placesL.length by omega)]
theorem ofNat_mod (x : Nat) : UInt8.ofNat (x % 256) = UInt8.ofNat x := UInt8.toNat.inj (by simp)
theorem sumW_at (w s : List Nat) {i : Nat} (h : i < 16) : (sumW w s).getD i 0 = eU (w.getD i 0) (s.getD i 0) := by
  unfold sumW
  simp [List.getD,h]
theorem dblk_pure (key nonce : List UInt8) (c : Nat) (hk : key.length = 32) (hn : nonce.length = 12) (hc : c < 4294967296) : APure Try.prog 31 [eu key,eu nonce,.sc (.int .u32 c)] (eu (blkM key nonce c)) := by
  have h1 := words_pure key 8 (by omega) (by omega)
  have h2 := words_pure nonce 3 (by omega) (by omega)
  have hp := places_pure
  have lw1 := wordsM_len key 8
  have lw2 := wordsM_len nonce 3
  have hS : stateM key nonce c = ([1634760805,857760878,2036477234,1797285236] ++ wordsM key 8 ++ [c]) ++ wordsM nonce 3 := rfl
  have hSo := state_ok key nonce hc
  have hbl : blkM key nonce c = tellW (sumW (roundsM (stateM key nonce c) 10) (stateM key nonce c)) := rfl
  rw [hbl]
  generalize stateM key nonce c = S at *
  generalize wordsM key 8 = W1 at *
  generalize wordsM nonce 3 = W2 at *
  have hpl : (placesL.map placeV).length = 8 := rfl
  have hpa := fun y (h : y < 8) => places_at h
  have hplt := places_lt
  generalize placesL.map placeV = pl at *
  have e0 : ([AV.sc (.int .u32 1634760805),AV.sc (.int .u32 857760878),AV.sc (.int .u32 2036477234),AV.sc (.int .u32 1797285236)] : List AV) = u32A [1634760805,857760878,2036477234,1797285236] := rfl
  have hlW1 : (u32A W1).length = 8 := by rw [u32A_length,lw1]
  have hlW2 : (u32A W2).length = 3 := by rw [u32A_length,lw2]
  refine az (c := ⟨Try.prog,113,[(14,[0,0,0,1,0,1,0,0,0,1,0,1,0,0,0,1,0,1,0,0,0,1,0,1,0,0]),(18,[0,0,0,0,1,0,0,0,1,0,2]),(23,[0,0,0,1,0,0,0,1,0,0]),(4000027,[7,8,15,16,17,18]),(4000023,[7,8,15,16,17]),(4000018,[7,8,9,10,11,12,13,14]),(4000014,[7,8,9,10,11,12,13]),(4000013,[7,8,9,10,11,12]),(4000004,[7]),(4000003,[1,7]),(4000002,[1,2,7])],[19,1000032,1000034],[]⟩) (rs := [ResultVar.tmp 6]) Try.mixed Try.func31 rfl rfl rfl (Nat.le_of_ble_eq_true rfl) (by kernel_rfl) fun H => ?_
  simp (disch := omega) only [↓aI,↓zP,aD,zD,aS0,Nat.reduceBEq,Nat.reduceLT,reduceCtorEq,↓reduceIte,Nat.reduceMul,Nat.reduceAdd,Nat.reduceLeDiff,Nat.reduceEqDiff,Int.reduceToNat,Nat.reduceSub,Nat.reduceMod,Nat.reduceDiv,Int.reducePow,Int.reduceLE,Int.reduceNeg,Int.reduceLT,Int.reduceBEq,Int.reduceBNe,Int.reduceEq,Try.facts]
  intro k1 hk10 hk1
  first | refine CallK.p (h1) ?_ | refine CallP.i (h1) ?_
  simp (disch := omega) only [↓aI,↓zP,aD,zD,aS0,Nat.reduceBEq,Nat.reduceLT,reduceCtorEq,↓reduceIte,Nat.reduceMul,Nat.reduceAdd,Nat.reduceLeDiff,Nat.reduceEqDiff,Int.reduceToNat,Nat.reduceSub,Nat.reduceMod,Nat.reduceDiv,Int.reducePow,Int.reduceLE,Int.reduceNeg,Int.reduceLT,Int.reduceBEq,Int.reduceBNe,Int.reduceEq,Try.facts,set_get,hk10,hlW1]
  intro k2 o2 hk20 hk2 ho2
  simp (disch := omega) only [↓aI,↓zP,aD,zD,aS0,Nat.reduceBEq,Nat.reduceLT,reduceCtorEq,↓reduceIte,Nat.reduceMul,Nat.reduceAdd,Nat.reduceLeDiff,Nat.reduceEqDiff,Int.reduceToNat,Nat.reduceSub,Nat.reduceMod,Nat.reduceDiv,Int.reducePow,Int.reduceLE,Int.reduceNeg,Int.reduceLT,Int.reduceBEq,Int.reduceBNe,Int.reduceEq,Try.facts,hk20,ho2,hlW1]
  intro k3 o3 hk30 hk3 ho3
  first | refine CallK.p (h2) ?_ | refine CallP.i (h2) ?_
  simp (disch := omega) only [↓aI,↓zP,aD,zD,aS0,Nat.reduceBEq,Nat.reduceLT,reduceCtorEq,↓reduceIte,Nat.reduceMul,Nat.reduceAdd,Nat.reduceLeDiff,Nat.reduceEqDiff,Int.reduceToNat,Nat.reduceSub,Nat.reduceMod,Nat.reduceDiv,Int.reducePow,Int.reduceLE,Int.reduceNeg,Int.reduceLT,Int.reduceBEq,Int.reduceBNe,Int.reduceEq,Try.facts,set_get,hk30,ho3,hlW1,hlW2]
  intro k4 o4 hk40 hk4 ho4
  intro kz hkz0 hkz kw hkw
  have n2 := am hk2
  have n3 := am hk3
  rw [ef n2] at hk4
  have n4 := am hk4
  simp only [ef n2,ef n3] at hkz hkw ⊢
  obtain ⟨E,hE⟩ : ∃ E,E = H.set k4 o4 := ⟨_,rfl⟩
  have hsub : Abs.Sub H E := by rw [hE]; exact Sub.set_new n4
  rw [← hE] at hkz hkw ⊢
  have hwn : E kw = none := by
    rcases hkw with rfl | ⟨_,h⟩
    · exact hkz
    · exact am h
  rw [ef hkz]
  have hSc : (AV.sc (.int .u32 1634760805) :: AV.sc (.int .u32 857760878) :: AV.sc (.int .u32 2036477234) :: AV.sc (.int .u32 1797285236) :: (u32A W1 ++ [AV.sc (.int .u32 c)] ++ u32A W2)) = u32A S := by
    rw [hS]
    simp [u32A]
  rw [hSc]
  first | refine CallK.p (hp) ?_ | refine CallP.i (hp) ?_
  simp (disch := omega) only [↓aI,↓zP,aD,zD,aS0,Nat.reduceBEq,Nat.reduceLT,reduceCtorEq,↓reduceIte,Nat.reduceMul,Nat.reduceAdd,Nat.reduceLeDiff,Nat.reduceEqDiff,Int.reduceToNat,Nat.reduceSub,Nat.reduceMod,Nat.reduceDiv,Int.reducePow,Int.reduceLE,Int.reduceNeg,Int.reduceLT,Int.reduceBEq,Int.reduceBNe,Int.reduceEq,Try.facts,hSc]
  refine br (c := ⟨Try.prog,113,[(14,[0,0,0,1,0,1,0,0,0,1,0,1,0,0,0,1,0,1,0,0,0,1,0,1,0,0]),(18,[0,0,0,0,1,0,0,0,1,0,2]),(23,[0,0,0,1,0,0,0,1,0,0]),(4000027,[7,8,15,16,17,18]),(4000023,[7,8,15,16,17]),(4000018,[7,8,9,10,11,12,13,14]),(4000014,[7,8,9,10,11,12,13]),(4000013,[7,8,9,10,11,12]),(4000004,[7]),(4000003,[1,7]),(4000002,[1,2,7])],[19,1000032,1000034],[]⟩) Try.mixed (by kernel_rfl) (fun m σ H' => ∃ n : Nat,n + m = 10 ∧ σ 7 = .imm k4 (u32A S) 16 ∧ σ 8 = .own kw 0 16 ∧ σ 9 = .imm 0 pl 8 ∧ σ 10 = .sc (.int .i64 n) ∧ H' = E.set kw (.cells (u32A (roundsM S n)) 49 1)) 10 ?_ ?_
  · refine ⟨0,by omega,?_⟩
    simp (disch := omega) only [↓aI,↓zP,aD,zD,aS0,Nat.reduceBEq,Nat.reduceLT,reduceCtorEq,↓reduceIte,Nat.reduceMul,Nat.reduceAdd,Nat.reduceLeDiff,Nat.reduceEqDiff,Int.reduceToNat,Nat.reduceSub,Nat.reduceMod,Nat.reduceDiv,Int.reducePow,Int.reduceLE,Int.reduceNeg,Int.reduceLT,Int.reduceBEq,Int.reduceBNe,Int.reduceEq,Try.facts,hSc]
    first | exact ⟨rfl,rfl⟩ | rfl | trace_state
  · rintro m σ H' ⟨n,hn,g7,g8,g9,g10,rfl⟩
    have hRo := hSo.rounds n
    by_cases hlt : n < 10
    · have hb : decide ((n : Int) < 10) = true := by simp; omega
      have hrn : roundsM S (n + 1) = someM (roundsM S n) 8 := rfl
      generalize roundsM S n = R at *
      simp (disch := omega) only [↓aI,↓zP,aD,zD,aS0,Nat.reduceBEq,Nat.reduceLT,reduceCtorEq,↓reduceIte,Nat.reduceMul,Nat.reduceAdd,Nat.reduceLeDiff,Nat.reduceEqDiff,Int.reduceToNat,Nat.reduceSub,Nat.reduceMod,Nat.reduceDiv,Int.reducePow,Int.reduceLE,Int.reduceNeg,Int.reduceLT,Int.reduceBEq,Int.reduceBNe,Int.reduceEq,Try.facts,g7,g8,g9,g10,hb]
      refine br (c := ⟨Try.prog,113,[(14,[0,0,0,1,0,1,0,0,0,1,0,1,0,0,0,1,0,1,0,0,0,1,0,1,0,0]),(18,[0,0,0,0,1,0,0,0,1,0,2]),(23,[0,0,0,1,0,0,0,1,0,0]),(4000027,[7,8,15,16,17,18]),(4000023,[7,8,15,16,17]),(4000018,[7,8,9,10,11,12,13,14]),(4000014,[7,8,9,10,11,12,13]),(4000013,[7,8,9,10,11,12]),(4000004,[7]),(4000003,[1,7]),(4000002,[1,2,7])],[19,1000032,1000034],[]⟩) Try.mixed (by kernel_rfl) (fun m2 σ2 H2 => ∃ y : Nat,y + m2 = 8 ∧ σ2 7 = .imm k4 (u32A S) 16 ∧ σ2 8 = .own kw 0 16 ∧ σ2 9 = .imm 0 pl 8 ∧ σ2 10 = .sc (.int .i64 n) ∧ σ2 11 = .sc (.int .i64 y) ∧ H2 = E.set kw (.cells (u32A (someM R y)) 49 1)) 8 ?_ ?_
      · refine ⟨0,by omega,?_⟩
        simp (disch := omega) only [↓aI,↓zP,aD,zD,aS0,Nat.reduceBEq,Nat.reduceLT,reduceCtorEq,↓reduceIte,Nat.reduceMul,Nat.reduceAdd,Nat.reduceLeDiff,Nat.reduceEqDiff,Int.reduceToNat,Nat.reduceSub,Nat.reduceMod,Nat.reduceDiv,Int.reducePow,Int.reduceLE,Int.reduceNeg,Int.reduceLT,Int.reduceBEq,Int.reduceBNe,Int.reduceEq,Try.facts,g7,g8,g9,g10]
        rfl
      · rintro m2 σ2 H2 ⟨y,hy,e7,e8,e9,e10,e11,rfl⟩
        by_cases hly : y < 8
        · have hb2 : decide ((y : Int) < 8) = true := by simp; omega
          have hWo := hRo.some y
          have hny : someM R (y + 1) = oneM (someM R y) (placesL.getD y (0,0,0,0)) := rfl
          obtain ⟨p1,p2,p3,p4⟩ := hplt y hly
          have hpy := hpa y hly
          generalize someM R y = W at *
          generalize placesL.getD y (0,0,0,0) = p at *
          have hq := dquart_pure (getQ W p).a (getQ W p).b (getQ W p).c (getQ W p).d (hWo.getQ p)
          have hone : oneM W p = putQ W p (quartM (getQ W p)) := rfl
          have a0 := u32A_at (l := W) (i := p.1) (by rw [hWo.len]; omega)
          have a1 := u32A_at (l := W) (i := p.2.1) (by rw [hWo.len]; omega)
          have a2 := u32A_at (l := W) (i := p.2.2.1) (by rw [hWo.len]; omega)
          have a3 := u32A_at (l := W) (i := p.2.2.2) (by rw [hWo.len]; omega)
          have hwl : (u32A W).length = 16 := by rw [u32A_length,hWo.len]
          rw [show (⟨(getQ W p).a,(getQ W p).b,(getQ W p).c,(getQ W p).d⟩ : Q4) = getQ W p from rfl] at hq
          generalize quartM (getQ W p) = q at *
          simp (disch := omega) only [↓aI,↓zP,aD,zD,aS0,Nat.reduceBEq,Nat.reduceLT,reduceCtorEq,↓reduceIte,Nat.reduceMul,Nat.reduceAdd,Nat.reduceLeDiff,Nat.reduceEqDiff,Int.reduceToNat,Nat.reduceSub,Nat.reduceMod,Nat.reduceDiv,Int.reducePow,Int.reduceLE,Int.reduceNeg,Int.reduceLT,Int.reduceBEq,Int.reduceBNe,Int.reduceEq,Try.facts,e7,e8,e9,e10,e11,hb2,hpy,hpl,placeV,a0,a1,a2,a3,hwl]
          first | refine CallK.p (hq) ?_ | refine CallP.i (hq) ?_
          simp (disch := omega) only [↓aI,↓zP,aD,zD,aS0,Nat.reduceBEq,Nat.reduceLT,reduceCtorEq,↓reduceIte,Nat.reduceMul,Nat.reduceAdd,Nat.reduceLeDiff,Nat.reduceEqDiff,Int.reduceToNat,Nat.reduceSub,Nat.reduceMod,Nat.reduceDiv,Int.reducePow,Int.reduceLE,Int.reduceNeg,Int.reduceLT,Int.reduceBEq,Int.reduceBNe,Int.reduceEq,Try.facts,e7,e8,e9,e10,e11]
          refine br (c := ⟨Try.prog,113,[(14,[0,0,0,1,0,1,0,0,0,1,0,1,0,0,0,1,0,1,0,0,0,1,0,1,0,0]),(18,[0,0,0,0,1,0,0,0,1,0,2]),(23,[0,0,0,1,0,0,0,1,0,0]),(4000027,[7,8,15,16,17,18]),(4000023,[7,8,15,16,17]),(4000018,[7,8,9,10,11,12,13,14]),(4000014,[7,8,9,10,11,12,13]),(4000013,[7,8,9,10,11,12]),(4000004,[7]),(4000003,[1,7]),(4000002,[1,2,7])],[19,1000032,1000034],[]⟩) Try.mixed (by kernel_rfl) (fun m4 σ4 H4 => ∃ k : Nat,k + m4 = 4 ∧ σ4 7 = .imm k4 (u32A S) 16 ∧ σ4 8 = .own kw 0 16 ∧ σ4 9 = .imm 0 pl 8 ∧ σ4 10 = .sc (.int .i64 n) ∧ σ4 11 = .sc (.int .i64 y) ∧ σ4 12 = placeV p ∧ σ4 13 = .imm 0 [.sc (.int .u32 q.a),.sc (.int .u32 q.b),.sc (.int .u32 q.c),.sc (.int .u32 q.d)] 4 ∧ σ4 14 = .sc (.int .i64 k) ∧ H4 = E.set kw (.cells (u32A (putK W p q k)) 49 1)) 4 ?_ ?_
          · refine ⟨0,by omega,?_⟩
            simp (disch := omega) only [↓aI,↓zP,aD,zD,aS0,Nat.reduceBEq,Nat.reduceLT,reduceCtorEq,↓reduceIte,Nat.reduceMul,Nat.reduceAdd,Nat.reduceLeDiff,Nat.reduceEqDiff,Int.reduceToNat,Nat.reduceSub,Nat.reduceMod,Nat.reduceDiv,Int.reducePow,Int.reduceLE,Int.reduceNeg,Int.reduceLT,Int.reduceBEq,Int.reduceBNe,Int.reduceEq,Try.facts,e7,e8,e9,e10,e11]
            first | exact ⟨rfl,rfl⟩ | rfl | trace_state
          · rintro m4 σ4 H4 ⟨k,hk4',f7,f8,f9,f10,f11,f12,f13,f14,rfl⟩
            by_cases hlk : k < 4
            · have hc4 : k = 0 ∨ k = 1 ∨ k = 2 ∨ k = 3 := by omega
              rcases hc4 with rfl | rfl | rfl | rfl
              · have hput := u32A_put (l := putK W p q 0) (i := p.1) (x := q.a) (by rw [putK_len,hWo.len]; omega)
                rw [show (putK W p q 0).set p.1 q.a = putK W p q 1 from rfl] at hput
                have hcl : (u32A (putK W p q 0)).length = 16 := by rw [u32A_length,putK_len,hWo.len]
                simp (disch := omega) only [↓aI,↓zP,aD,zD,aS0,Nat.reduceBEq,Nat.reduceLT,reduceCtorEq,↓reduceIte,Nat.reduceMul,Nat.reduceAdd,Nat.reduceLeDiff,Nat.reduceEqDiff,Int.reduceToNat,Nat.reduceSub,Nat.reduceMod,Nat.reduceDiv,Int.reducePow,Int.reduceLE,Int.reduceNeg,Int.reduceLT,Int.reduceBEq,Int.reduceBNe,Int.reduceEq,Try.facts,f7,f8,f9,f10,f11,f12,f13,f14,placeV,hcl,hput]
                exact ⟨m4 - 1,by omega,1,by omega,rfl,rfl⟩
              · have hput := u32A_put (l := putK W p q 1) (i := p.2.1) (x := q.b) (by rw [putK_len,hWo.len]; omega)
                rw [show (putK W p q 1).set p.2.1 q.b = putK W p q 2 from rfl] at hput
                have hcl : (u32A (putK W p q 1)).length = 16 := by rw [u32A_length,putK_len,hWo.len]
                simp (disch := omega) only [↓aI,↓zP,aD,zD,aS0,Nat.reduceBEq,Nat.reduceLT,reduceCtorEq,↓reduceIte,Nat.reduceMul,Nat.reduceAdd,Nat.reduceLeDiff,Nat.reduceEqDiff,Int.reduceToNat,Nat.reduceSub,Nat.reduceMod,Nat.reduceDiv,Int.reducePow,Int.reduceLE,Int.reduceNeg,Int.reduceLT,Int.reduceBEq,Int.reduceBNe,Int.reduceEq,Try.facts,f7,f8,f9,f10,f11,f12,f13,f14,placeV,hcl,hput]
                exact ⟨m4 - 1,by omega,2,by omega,rfl,rfl⟩
              · have hput := u32A_put (l := putK W p q 2) (i := p.2.2.1) (x := q.c) (by rw [putK_len,hWo.len]; omega)
                rw [show (putK W p q 2).set p.2.2.1 q.c = putK W p q 3 from rfl] at hput
                have hcl : (u32A (putK W p q 2)).length = 16 := by rw [u32A_length,putK_len,hWo.len]
                simp (disch := omega) only [↓aI,↓zP,aD,zD,aS0,Nat.reduceBEq,Nat.reduceLT,reduceCtorEq,↓reduceIte,Nat.reduceMul,Nat.reduceAdd,Nat.reduceLeDiff,Nat.reduceEqDiff,Int.reduceToNat,Nat.reduceSub,Nat.reduceMod,Nat.reduceDiv,Int.reducePow,Int.reduceLE,Int.reduceNeg,Int.reduceLT,Int.reduceBEq,Int.reduceBNe,Int.reduceEq,Try.facts,f7,f8,f9,f10,f11,f12,f13,f14,placeV,hcl,hput]
                exact ⟨m4 - 1,by omega,3,by omega,rfl,rfl⟩
              · have hput := u32A_put (l := putK W p q 3) (i := p.2.2.2) (x := q.d) (by rw [putK_len,hWo.len]; omega)
                rw [show (putK W p q 3).set p.2.2.2 q.d = putK W p q 4 from rfl] at hput
                have hcl : (u32A (putK W p q 3)).length = 16 := by rw [u32A_length,putK_len,hWo.len]
                simp (disch := omega) only [↓aI,↓zP,aD,zD,aS0,Nat.reduceBEq,Nat.reduceLT,reduceCtorEq,↓reduceIte,Nat.reduceMul,Nat.reduceAdd,Nat.reduceLeDiff,Nat.reduceEqDiff,Int.reduceToNat,Nat.reduceSub,Nat.reduceMod,Nat.reduceDiv,Int.reducePow,Int.reduceLE,Int.reduceNeg,Int.reduceLT,Int.reduceBEq,Int.reduceBNe,Int.reduceEq,Try.facts,f7,f8,f9,f10,f11,f12,f13,f14,placeV,hcl,hput]
                exact ⟨m4 - 1,by omega,4,by omega,rfl,rfl⟩
            · obtain rfl : k = 4 := by omega
              simp (disch := omega) only [↓aI,↓zP,aD,zD,aS0,Nat.reduceBEq,Nat.reduceLT,reduceCtorEq,↓reduceIte,Nat.reduceMul,Nat.reduceAdd,Nat.reduceLeDiff,Nat.reduceEqDiff,Int.reduceToNat,Nat.reduceSub,Nat.reduceMod,Nat.reduceDiv,Int.reducePow,Int.reduceLE,Int.reduceNeg,Int.reduceLT,Int.reduceBEq,Int.reduceBNe,Int.reduceEq,Try.facts,f7,f8,f9,f10,f11,f12,f13,f14]
              exact ⟨m2 - 1,by omega,y + 1,by omega,rfl,by rw [hny,hone]; rfl⟩
        · obtain rfl : y = 8 := by omega
          have hb2 : decide (((8 : Nat) : Int) < 8) = false := by decide
          simp (disch := omega) only [↓aI,↓zP,aD,zD,aS0,Nat.reduceBEq,Nat.reduceLT,reduceCtorEq,↓reduceIte,Nat.reduceMul,Nat.reduceAdd,Nat.reduceLeDiff,Nat.reduceEqDiff,Int.reduceToNat,Nat.reduceSub,Nat.reduceMod,Nat.reduceDiv,Int.reducePow,Int.reduceLE,Int.reduceNeg,Int.reduceLT,Int.reduceBEq,Int.reduceBNe,Int.reduceEq,Try.facts,e7,e8,e9,e10,e11,hb2]
          exact ⟨m - 1,by omega,n + 1,by omega,rfl,by rw [hrn]⟩
    · obtain rfl : n = 10 := by omega
      have hb : decide (((10 : Nat) : Int) < 10) = false := by decide
      generalize roundsM S 10 = R at *
      simp (disch := omega) only [↓aI,↓zP,aD,zD,aS0,Nat.reduceBEq,Nat.reduceLT,reduceCtorEq,↓reduceIte,Nat.reduceMul,Nat.reduceAdd,Nat.reduceLeDiff,Nat.reduceEqDiff,Int.reduceToNat,Nat.reduceSub,Nat.reduceMod,Nat.reduceDiv,Int.reducePow,Int.reduceLE,Int.reduceNeg,Int.reduceLT,Int.reduceBEq,Int.reduceBNe,Int.reduceEq,Try.facts,g7,g8,g9,g10,hb]
      refine jn 15 (by simp (disch := omega) only [↓aI,↓zP,aD,zD,aS0,Nat.reduceBEq,Nat.reduceLT,reduceCtorEq,↓reduceIte,Nat.reduceMul,Nat.reduceAdd,Nat.reduceLeDiff,Nat.reduceEqDiff,Int.reduceToNat,Nat.reduceSub,Nat.reduceMod,Nat.reduceDiv,Int.reducePow,Int.reduceLE,Int.reduceNeg,Int.reduceLT,Int.reduceBEq,Int.reduceBNe,Int.reduceEq,Try.facts]) fun kt hkt0 hkt => ?_
      generalize hE1 : E.set kw (.cells (u32A R) 49 1) = E1 at *
      have hw1 : E1 kw = some (.cells (u32A R) 49 1) := by rw [← hE1]; exact set_get
      have hsub1 : Abs.Sub H E1 := by rw [← hE1]; exact hsub.trans (Sub.set_new hwn)
      have hRl : (u32A R).length = 16 := by rw [u32A_length,hRo.len]
      have hSl : (u32A S).length = 16 := by rw [u32A_length,hSo.len]
      have hXl : ∀ i,(sumW R S).getD i 0 < 4294967296 := fun i => by
        by_cases hi : i < 16
        · rw [sumW_at R S hi]; exact addM_lt _ _
        · have hn : (sumW R S).length ≤ i := by simp [sumW]; omega
          simp only [List.getD,List.getElem?_eq_none hn,Option.getD_none]
          exact (by decide : (0 : Nat) < 4294967296)
      have hXa := fun i (h : i < 16) => sumW_at R S h
      have hTs := fun n (h : n < 64) => tellW_snoc (sumW R S) h
      have hTl := tellW_len (sumW R S)
      have hTt : ∀ n,n ≤ 64 → ((tellW (sumW R S)).take n).length = n := fun n hn => by rw [List.length_take,hTl]; omega
      generalize tellW (sumW R S) = T at *
      generalize sumW R S = X at *
      refine br (c := ⟨Try.prog,113,[(14,[0,0,0,1,0,1,0,0,0,1,0,1,0,0,0,1,0,1,0,0,0,1,0,1,0,0]),(18,[0,0,0,0,1,0,0,0,1,0,2]),(23,[0,0,0,1,0,0,0,1,0,0]),(4000027,[7,8,15,16,17,18]),(4000023,[7,8,15,16,17]),(4000018,[7,8,9,10,11,12,13,14]),(4000014,[7,8,9,10,11,12,13]),(4000013,[7,8,9,10,11,12]),(4000004,[7]),(4000003,[1,7]),(4000002,[1,2,7])],[19,1000032,1000034],[]⟩) Try.mixed (by kernel_rfl) (fun m σ H' => ∃ i kt ot,i + m = 16 ∧ σ 7 = .imm k4 (u32A S) 16 ∧ σ 8 = .own kw 0 16 ∧ σ 16 = .sc (.int .i64 (i : Nat)) ∧ kt ≠ 0 ∧ E1 kt = none ∧ H' = E1.set kt ot ∧ cy 5 1 ot (4 * i) ∧ σ 15 = .imm kt (bw (T.take (4 * i))) (4 * i)) 16 ?_ ?_
      · refine ⟨0,kt,.nilt,by omega,?_⟩
        simp (disch := omega) only [↓aI,↓zP,aD,zD,aS0,Nat.reduceBEq,Nat.reduceLT,reduceCtorEq,↓reduceIte,Nat.reduceMul,Nat.reduceAdd,Nat.reduceLeDiff,Nat.reduceEqDiff,Int.reduceToNat,Nat.reduceSub,Nat.reduceMod,Nat.reduceDiv,Int.reducePow,Int.reduceLE,Int.reduceNeg,Int.reduceLT,Int.reduceBEq,Int.reduceBNe,Int.reduceEq,Try.facts,g7,g8,g9,g10]
        first | exact ⟨hkt0,hkt,rfl⟩ | exact ⟨hkt0,hkt⟩ | trace_state
      · clear hkt0 hkt
        clear kt
        rintro m σ H' ⟨i,kt,ot,hi,e7,e8,e16,hkt0,hkt,rfl,hot,e15⟩
        have hne : ¬ kw = kt := fun e => by rw [← e,hw1] at hkt; cases hkt
        by_cases hli : i < 16
        · have hb2 : decide ((i : Int) < 16) = true := by simp; omega
          have a0 := u32A_at (l := R) (i := i) (by rw [hRo.len]; omega)
          have a1 := u32A_at (l := S) (i := i) (by rw [hSo.len]; omega)
          have hxa := hXa i hli
          have hxl := hXl i
          have hts : ∀ k,k < 4 → T.take (4 * i + k + 1) = T.take (4 * i + k) ++ [UInt8.ofNat (X.getD i 0 / 2 ^ (8 * k))] := fun k hk => by
            have h := hTs (4 * i + k) (by omega)
            rw [show (4 * i + k) / 4 = i by omega,show (4 * i + k) % 4 = k by omega] at h
            exact h
          unfold eU at hxa
          generalize R.getD i 0 = y0 at *
          generalize S.getD i 0 = y1 at *
          generalize X.getD i 0 = x at *
          simp (disch := omega) only [↓aI,↓zP,aD,zD,aS0,Nat.reduceBEq,Nat.reduceLT,reduceCtorEq,↓reduceIte,Nat.reduceMul,Nat.reduceAdd,Nat.reduceLeDiff,Nat.reduceEqDiff,Int.reduceToNat,Nat.reduceSub,Nat.reduceMod,Nat.reduceDiv,Int.reducePow,Int.reduceLE,Int.reduceNeg,Int.reduceLT,Int.reduceBEq,Int.reduceBNe,Int.reduceEq,Try.facts,e7,e8,e15,e16,hb2,a0,a1,hRl,hSl,wadd32,aP0 hne,hw1]
          rw [← hxa]
          refine br (c := ⟨Try.prog,113,[(14,[0,0,0,1,0,1,0,0,0,1,0,1,0,0,0,1,0,1,0,0,0,1,0,1,0,0]),(18,[0,0,0,0,1,0,0,0,1,0,2]),(23,[0,0,0,1,0,0,0,1,0,0]),(4000027,[7,8,15,16,17,18]),(4000023,[7,8,15,16,17]),(4000018,[7,8,9,10,11,12,13,14]),(4000014,[7,8,9,10,11,12,13]),(4000013,[7,8,9,10,11,12]),(4000004,[7]),(4000003,[1,7]),(4000002,[1,2,7])],[19,1000032,1000034],[]⟩) Try.mixed (by kernel_rfl) (fun m2 σ2 H2 => ∃ k kt ot,k + m2 = 4 ∧ σ2 7 = .imm k4 (u32A S) 16 ∧ σ2 8 = .own kw 0 16 ∧ σ2 16 = .sc (.int .i64 (i : Nat)) ∧ σ2 17 = .sc (.int .u32 (x / 2 ^ (8 * k) : Nat)) ∧ σ2 18 = .sc (.int .i64 (k : Nat)) ∧ kt ≠ 0 ∧ E1 kt = none ∧ H2 = E1.set kt ot ∧ cy 5 1 ot (4 * i + k) ∧ σ2 15 = .imm kt (bw (T.take (4 * i + k))) (4 * i + k)) 4 ?_ ?_
          · refine ⟨0,kt,ot,by omega,?_⟩
            rw [show x / 2 ^ (8 * 0) = x by simp]
            simp (disch := omega) only [↓aI,↓zP,aD,zD,aS0,Nat.reduceBEq,Nat.reduceLT,reduceCtorEq,↓reduceIte,Nat.reduceMul,Nat.reduceAdd,Nat.reduceLeDiff,Nat.reduceEqDiff,Int.reduceToNat,Nat.reduceSub,Nat.reduceMod,Nat.reduceDiv,Int.reducePow,Int.reduceLE,Int.reduceNeg,Int.reduceLT,Int.reduceBEq,Int.reduceBNe,Int.reduceEq,Try.facts,e7,e8,e15,e16]
            exact ⟨hkt0,hkt,hot⟩
          · clear hkt0 hkt hot hne e15
            clear kt ot
            rintro m2 σ2 H2 ⟨k,kt,ot,hk,f7,f8,f16,f17,f18,hkt0,hkt,rfl,hot,f15⟩
            have htl := hTt (4 * i + k) (by omega)
            by_cases hlk : k < 4
            · have hb3 : decide ((k : Int) < 4) = true := by simp; omega
              have htk := hts k hlk
              have hd : x / 2 ^ (8 * k) / 256 = x / 2 ^ (8 * (k + 1)) := by rw [Nat.div_div_eq_div_mul]; congr 1; rw [show 8 * (k + 1) = 8 * k + 8 by omega,Nat.pow_add]
              have hzl : x / 2 ^ (8 * k) < 4294967296 := Nat.lt_of_le_of_lt (Nat.div_le_self _ _) hxl
              generalize hnz : x / 2 ^ (8 * (k + 1)) = nz at *
              generalize x / 2 ^ (8 * k) = z at *
              have w1 : IntKind.u32.wrap ((z / 256 : Nat) : Int) = (nz : Int) := by rw [hd,wcast32,Nat.mod_eq_of_lt (by omega)]
              generalize hT2 : T.take (4 * i + k + 1) = T2 at *
              generalize T.take (4 * i + k) = T1 at *
              simp (disch := omega) only [↓aI,↓zP,aD,zD,aS0,Nat.reduceBEq,Nat.reduceLT,reduceCtorEq,↓reduceIte,Nat.reduceMul,Nat.reduceAdd,Nat.reduceLeDiff,Nat.reduceEqDiff,Int.reduceToNat,Nat.reduceSub,Nat.reduceMod,Nat.reduceDiv,Int.reducePow,Int.reduceLE,Int.reduceNeg,Int.reduceLT,Int.reduceBEq,Int.reduceBNe,Int.reduceEq,Try.facts,f7,f8,f15,f16,f17,f18,hb3,jd,tdivN,w1,jC,hkt0,hot,htl]
              intro k' o' hk0' hk' ho'
              exact ⟨m2 - 1,by omega,k + 1,k',o',by omega,by rw [hnz],rfl,hk0',am hk',rfl,ho',by rw [← Nat.add_assoc,hT2,htk,ofNat_mod]⟩
            · obtain rfl : k = 4 := by omega
              have hb3 : decide (((4 : Nat) : Int) < 4) = false := by decide
              simp (disch := omega) only [↓aI,↓zP,aD,zD,aS0,Nat.reduceBEq,Nat.reduceLT,reduceCtorEq,↓reduceIte,Nat.reduceMul,Nat.reduceAdd,Nat.reduceLeDiff,Nat.reduceEqDiff,Int.reduceToNat,Nat.reduceSub,Nat.reduceMod,Nat.reduceDiv,Int.reducePow,Int.reduceLE,Int.reduceNeg,Int.reduceLT,Int.reduceBEq,Int.reduceBNe,Int.reduceEq,Try.facts,f7,f8,f15,f16,f17,f18,hb3]
              exact ⟨m - 1,by omega,i + 1,kt,ot,by omega,rfl,hkt0,hkt,rfl,hot,rfl⟩
        · obtain rfl : i = 16 := by omega
          have hb2 : decide (((16 : Nat) : Int) < 16) = false := by decide
          rw [show 4 * 16 = 64 from rfl,List.take_of_length_le (by omega)] at e15
          simp (disch := omega) only [↓aI,↓zP,aD,zD,aS0,Nat.reduceBEq,Nat.reduceLT,reduceCtorEq,↓reduceIte,Nat.reduceMul,Nat.reduceAdd,Nat.reduceLeDiff,Nat.reduceEqDiff,Int.reduceToNat,Nat.reduceSub,Nat.reduceMod,Nat.reduceDiv,Int.reducePow,Int.reduceLE,Int.reduceNeg,Int.reduceLT,Int.reduceBEq,Int.reduceBNe,Int.reduceEq,Try.facts,e7,e8,e15,e16,hb2,hTl]
          exact ⟨by unfold eu; rw [hTl],hsub1.trans (Sub.set_new hkt)⟩
end Go.Proofs.Ytibipjdngpjndaa
end
section
set_option linter.unusedSimpArgs false
set_option linter.unusedVariables false
set_option maxRecDepth 20000
set_option maxHeartbeats 4000000
namespace Go.Proofs.Ytibipjdngpjndaa
open Go Go.Abs Go.Proofs Go.Box
theorem strM_snoc (key nonce b : List UInt8) {i : Nat} (h : i < b.length) : (strM key nonce b).take (i + 1) = (strM key nonce b).take i ++ [b.getD i 0 ^^^ (blkM key nonce (1 + i / 64)).getD (i % 64) 0] := by
  rw [List.take_succ_eq_append_getElem (by rw [strM_len]; exact h)]
  congr 1
  simp [strM]
theorem dxor_raw (H : AH) (key nonce b : List UInt8) (hk : key.length = 32) (hn0 : nonce.length = 12) (hb : b.length ≤ 10000000) : ACalls Try.prog 28 [eu key,eu nonce,.sc (.int .u32 1),eu b] H fun v H' => ∃ k o,k ≠ 0 ∧ H k = none ∧ v = .tup [.imm k (bw (strM key nonce b)) b.length,.sc (.int .i64 0)] ∧ cy 5 1 o b.length ∧ H' k = some o ∧ Abs.Sub H H' := by
  have hTl := strM_len key nonce b
  have hTs := fun i h => strM_snoc key nonce b (i := i) h
  have hTt : ∀ i,i ≤ b.length → ((strM key nonce b).take i).length = i := fun i hi => by rw [List.length_take,hTl]; omega
  generalize strM key nonce b = T at *
  have hel := gz b
  have b1 : ((key.length : Int) != 32) = false := by rw [hk]; rfl
  have b2 : ((nonce.length : Int) != 12) = false := by rw [hn0]; rfl
  have w3 : IntKind.i64.wrap (1 : Int) = 1 := by decide
  have w4 : IntKind.i64.wrap (4294967296 - 1) = 4294967295 := by decide
  have w5 : IntKind.i64.wrap ((b.length / 64 : Nat) : Int) = ((b.length / 64 : Nat) : Int) := iw (by omega)
  have w6 : IntKind.i64.wrap (((b.length / 64 : Nat) : Int) + 1) = ((b.length / 64 + 1 : Nat) : Int) := by rw [iw (by omega)]; rfl
  refine acalls_raw2 (c := ⟨Try.prog,67,[(14,[0,0,0,0,1,0,0,0,0,1,0,0,2,0]),(4000014,[0,1,2,3,11,12,13]),(4000013,[0,1,2,3,11,12,13]),(4000006,[0,1,2,3,35]),(4000001,[0,1,2,3,21])],[],[]⟩) (t1 := 8) (t2 := 9) Try.mixed Try.func28 rfl rfl rfl (Nat.le_of_ble_eq_true rfl) (by kernel_rfl) ?_
  by_cases hr : 0 < b.length % 64
  · have b3 : decide ((0 : Int) < ((b.length % 64 : Nat) : Int)) = true := dT (by omega)
    have b4 : decide (((4294967295 : Int)) < ((b.length / 64 + 1 : Nat) : Int)) = false := dF (by omega)
    have b4' : decide ((4294967296 - 1 : Int) < ((b.length / 64 + 1 : Nat) : Int)) = false := dF (by omega)
    simp (disch := omega) only [↓aI,↓zP,aD,zD,aS0,Nat.reduceBEq,Nat.reduceLT,reduceCtorEq,↓reduceIte,Nat.reduceMul,Nat.reduceAdd,Nat.reduceLeDiff,Nat.reduceEqDiff,Int.reduceToNat,Nat.reduceSub,Nat.reduceMod,Nat.reduceDiv,Int.reducePow,Int.reduceLE,Int.reduceNeg,Int.reduceLT,Int.reduceBEq,Int.reduceBNe,Int.reduceEq,Try.facts,b1,b2,b3,b4,b4',w3,w4,w5,w6,tdivN,jd,hel]
    refine jn 11 (by simp (disch := omega) only [↓aI,↓zP,aD,zD,aS0,Nat.reduceBEq,Nat.reduceLT,reduceCtorEq,↓reduceIte,Nat.reduceMul,Nat.reduceAdd,Nat.reduceLeDiff,Nat.reduceEqDiff,Int.reduceToNat,Nat.reduceSub,Nat.reduceMod,Nat.reduceDiv,Int.reducePow,Int.reduceLE,Int.reduceNeg,Int.reduceLT,Int.reduceBEq,Int.reduceBNe,Int.reduceEq,Try.facts]) fun kt hkt0 hkt => ?_
    refine br (c := ⟨Try.prog,67,[(14,[0,0,0,0,1,0,0,0,0,1,0,0,2,0]),(4000014,[0,1,2,3,11,12,13]),(4000013,[0,1,2,3,11,12,13]),(4000006,[0,1,2,3,35]),(4000001,[0,1,2,3,21])],[],[]⟩) Try.mixed (by kernel_rfl) (fun m σ H' => ∃ i kt ot,i + m = b.length ∧ σ 0 = eu key ∧ σ 1 = eu nonce ∧ σ 2 = .sc (.int .u32 1) ∧ σ 3 = eu b ∧ σ 13 = .sc (.int .i64 (i : Nat)) ∧ (i % 64 ≠ 0 → σ 12 = eu (blkM key nonce (1 + i / 64))) ∧ kt ≠ 0 ∧ H kt = none ∧ H' = H.set kt ot ∧ cy 5 1 ot i ∧ σ 11 = .imm kt (bw (T.take i)) i) b.length ?_ ?_
    · refine ⟨0,kt,.nilt,by omega,?_⟩
      simp (disch := omega) only [↓aI,↓zP,aD,zD,aS0,Nat.reduceBEq,Nat.reduceLT,reduceCtorEq,↓reduceIte,Nat.reduceMul,Nat.reduceAdd,Nat.reduceLeDiff,Nat.reduceEqDiff,Int.reduceToNat,Nat.reduceSub,Nat.reduceMod,Nat.reduceDiv,Int.reducePow,Int.reduceLE,Int.reduceNeg,Int.reduceLT,Int.reduceBEq,Int.reduceBNe,Int.reduceEq,Try.facts]
      first | exact ⟨hkt0,hkt,rfl⟩ | exact ⟨hkt0,hkt⟩ | trace_state
    · clear hkt0 hkt
      clear kt
      rintro m σ H' ⟨i,kt,ot,hi,g0,g1,g2,g3,g13,g12,hkt0,hkt,rfl,hot,g11⟩
      have htl := hTt i (by omega)
      by_cases hli : i < b.length
      · have hb2 : decide ((i : Int) < (b.length : Int)) = true := dT (by omega)
        have hts := hTs i hli
        have ha := encB_get (l := b) (i := i) hli
        have hx := encB_get (l := blkM key nonce (1 + i / 64)) (i := i % 64) (by rw [blkM_len]; omega)
        have hn := n8xor (b.getD i 0) ((blkM key nonce (1 + i / 64)).getD (i % 64) 0)
        have hbl := gz (blkM key nonce (1 + i / 64))
        rw [blkM_len] at hbl
        have hB2 : eu (blkM key nonce (1 + i / 64)) = .imm 0 (bw (blkM key nonce (1 + i / 64))) 64 := by unfold eu; rw [blkM_len]
        have hnx : ∀ j,j = i + 1 → j % 64 ≠ 0 → eu (blkM key nonce (1 + i / 64)) = eu (blkM key nonce (1 + j / 64)) := fun j hj h => by rw [show j / 64 = i / 64 by omega]
        by_cases h0 : i % 64 = 0
        · have hc := dblk_pure key nonce (1 + i / 64) hk hn0 (by omega)
          have hz : (((i % 64 : Nat) : Int) == 0) = true := by rw [h0]; rfl
          have w1 : IntKind.u32.wrap (IntKind.i64.wrap ((i / 64 : Nat) : Int)) = ((i / 64 : Nat) : Int) := by rw [iw (by omega),wcast32,Nat.mod_eq_of_lt (by omega)]
          have w1' : IntKind.u32.wrap ((i / 64 : Nat) : Int) = ((i / 64 : Nat) : Int) := by rw [wcast32,Nat.mod_eq_of_lt (by omega)]
          have w0 : IntKind.i64.wrap ((i / 64 : Nat) : Int) = ((i / 64 : Nat) : Int) := iw (by omega)
          have w2 : IntKind.u32.wrap (1 + ((i / 64 : Nat) : Int)) = ((1 + i / 64 : Nat) : Int) := by rw [show (1 : Int) + ((i / 64 : Nat) : Int) = ((1 + i / 64 : Nat) : Int) by omega,wcast32,Nat.mod_eq_of_lt (by omega)]
          rw [hB2] at hc
          generalize blkM key nonce (1 + i / 64) = B at *
          simp (disch := omega) only [↓aI,↓zP,aD,zD,aS0,Nat.reduceBEq,Nat.reduceLT,reduceCtorEq,↓reduceIte,Nat.reduceMul,Nat.reduceAdd,Nat.reduceLeDiff,Nat.reduceEqDiff,Int.reduceToNat,Nat.reduceSub,Nat.reduceMod,Nat.reduceDiv,Int.reducePow,Int.reduceLE,Int.reduceNeg,Int.reduceLT,Int.reduceBEq,Int.reduceBNe,Int.reduceEq,Try.facts,g0,g1,g2,g3,g11,g13,hb2,jd,tdivN,hz,w0,w1,w1',w2]
          first | refine CallK.p (hc) ?_ | refine CallP.i (hc) ?_
          simp (disch := omega) only [↓aI,↓zP,aD,zD,aS0,Nat.reduceBEq,Nat.reduceLT,reduceCtorEq,↓reduceIte,Nat.reduceMul,Nat.reduceAdd,Nat.reduceLeDiff,Nat.reduceEqDiff,Int.reduceToNat,Nat.reduceSub,Nat.reduceMod,Nat.reduceDiv,Int.reducePow,Int.reduceLE,Int.reduceNeg,Int.reduceLT,Int.reduceBEq,Int.reduceBNe,Int.reduceEq,Try.facts,g0,g1,g2,g3,g11,g13,jd,ha,hx,hn,hel,hbl,hkt0,hot,htl]
          intro k' o' hk0' hk' ho'
          exact ⟨m - 1,by omega,i + 1,k',o',by omega,rfl,fun h => by rw [← hB2]; exact hnx _ rfl h,hk0',am hk',rfl,ho',by rw [hts]⟩
        · have hz : (((i % 64 : Nat) : Int) == 0) = false := beq_eq_false_iff_ne.2 fun h => h0 (Int.ofNat.inj h)
          have g12 := g12 h0
          rw [hB2] at g12
          generalize blkM key nonce (1 + i / 64) = B at *
          simp (disch := omega) only [↓aI,↓zP,aD,zD,aS0,Nat.reduceBEq,Nat.reduceLT,reduceCtorEq,↓reduceIte,Nat.reduceMul,Nat.reduceAdd,Nat.reduceLeDiff,Nat.reduceEqDiff,Int.reduceToNat,Nat.reduceSub,Nat.reduceMod,Nat.reduceDiv,Int.reducePow,Int.reduceLE,Int.reduceNeg,Int.reduceLT,Int.reduceBEq,Int.reduceBNe,Int.reduceEq,Try.facts,g0,g1,g2,g3,g11,g12,g13,hb2,jd,hz,ha,hx,hn,hel,hbl,hkt0,hot,htl]
          intro k' o' hk0' hk' ho'
          exact ⟨m - 1,by omega,i + 1,k',o',by omega,rfl,fun h => by rw [← hB2]; exact hnx _ rfl h,hk0',am hk',rfl,ho',by rw [hts]⟩
      · obtain rfl : i = b.length := by omega
        have hb2 : decide ((b.length : Int) < (b.length : Int)) = false := by simp
        rw [List.take_of_length_le (by omega)] at g11
        simp (disch := omega) only [↓aI,↓zP,aD,zD,aS0,Nat.reduceBEq,Nat.reduceLT,reduceCtorEq,↓reduceIte,Nat.reduceMul,Nat.reduceAdd,Nat.reduceLeDiff,Nat.reduceEqDiff,Int.reduceToNat,Nat.reduceSub,Nat.reduceMod,Nat.reduceDiv,Int.reducePow,Int.reduceLE,Int.reduceNeg,Int.reduceLT,Int.reduceBEq,Int.reduceBNe,Int.reduceEq,Try.facts,g0,g1,g2,g3,g11,g13,hb2,PostT_ret]
        exact ⟨_,Abs.Sub.refl _,kt,ot,hkt0,hkt,rfl,hot,set_get,Sub.set_new hkt⟩
  · have b3 : decide ((0 : Int) < ((b.length % 64 : Nat) : Int)) = false := dF (by omega)
    have b4 : decide (((4294967295 : Int)) < ((b.length / 64 : Nat) : Int)) = false := dF (by omega)
    have b4' : decide ((4294967296 - 1 : Int) < ((b.length / 64 : Nat) : Int)) = false := dF (by omega)
    simp (disch := omega) only [↓aI,↓zP,aD,zD,aS0,Nat.reduceBEq,Nat.reduceLT,reduceCtorEq,↓reduceIte,Nat.reduceMul,Nat.reduceAdd,Nat.reduceLeDiff,Nat.reduceEqDiff,Int.reduceToNat,Nat.reduceSub,Nat.reduceMod,Nat.reduceDiv,Int.reducePow,Int.reduceLE,Int.reduceNeg,Int.reduceLT,Int.reduceBEq,Int.reduceBNe,Int.reduceEq,Try.facts,b1,b2,b3,b4,b4',w3,w4,w5,w6,tdivN,jd,hel]
    refine jn 11 (by simp (disch := omega) only [↓aI,↓zP,aD,zD,aS0,Nat.reduceBEq,Nat.reduceLT,reduceCtorEq,↓reduceIte,Nat.reduceMul,Nat.reduceAdd,Nat.reduceLeDiff,Nat.reduceEqDiff,Int.reduceToNat,Nat.reduceSub,Nat.reduceMod,Nat.reduceDiv,Int.reducePow,Int.reduceLE,Int.reduceNeg,Int.reduceLT,Int.reduceBEq,Int.reduceBNe,Int.reduceEq,Try.facts]) fun kt hkt0 hkt => ?_
    refine br (c := ⟨Try.prog,67,[(14,[0,0,0,0,1,0,0,0,0,1,0,0,2,0]),(4000014,[0,1,2,3,11,12,13]),(4000013,[0,1,2,3,11,12,13]),(4000006,[0,1,2,3,35]),(4000001,[0,1,2,3,21])],[],[]⟩) Try.mixed (by kernel_rfl) (fun m σ H' => ∃ i kt ot,i + m = b.length ∧ σ 0 = eu key ∧ σ 1 = eu nonce ∧ σ 2 = .sc (.int .u32 1) ∧ σ 3 = eu b ∧ σ 13 = .sc (.int .i64 (i : Nat)) ∧ (i % 64 ≠ 0 → σ 12 = eu (blkM key nonce (1 + i / 64))) ∧ kt ≠ 0 ∧ H kt = none ∧ H' = H.set kt ot ∧ cy 5 1 ot i ∧ σ 11 = .imm kt (bw (T.take i)) i) b.length ?_ ?_
    · refine ⟨0,kt,.nilt,by omega,?_⟩
      simp (disch := omega) only [↓aI,↓zP,aD,zD,aS0,Nat.reduceBEq,Nat.reduceLT,reduceCtorEq,↓reduceIte,Nat.reduceMul,Nat.reduceAdd,Nat.reduceLeDiff,Nat.reduceEqDiff,Int.reduceToNat,Nat.reduceSub,Nat.reduceMod,Nat.reduceDiv,Int.reducePow,Int.reduceLE,Int.reduceNeg,Int.reduceLT,Int.reduceBEq,Int.reduceBNe,Int.reduceEq,Try.facts]
      first | exact ⟨hkt0,hkt,rfl⟩ | exact ⟨hkt0,hkt⟩ | trace_state
    · clear hkt0 hkt
      clear kt
      rintro m σ H' ⟨i,kt,ot,hi,g0,g1,g2,g3,g13,g12,hkt0,hkt,rfl,hot,g11⟩
      have htl := hTt i (by omega)
      by_cases hli : i < b.length
      · have hb2 : decide ((i : Int) < (b.length : Int)) = true := dT (by omega)
        have hts := hTs i hli
        have ha := encB_get (l := b) (i := i) hli
        have hx := encB_get (l := blkM key nonce (1 + i / 64)) (i := i % 64) (by rw [blkM_len]; omega)
        have hn := n8xor (b.getD i 0) ((blkM key nonce (1 + i / 64)).getD (i % 64) 0)
        have hbl := gz (blkM key nonce (1 + i / 64))
        rw [blkM_len] at hbl
        have hB2 : eu (blkM key nonce (1 + i / 64)) = .imm 0 (bw (blkM key nonce (1 + i / 64))) 64 := by unfold eu; rw [blkM_len]
        have hnx : ∀ j,j = i + 1 → j % 64 ≠ 0 → eu (blkM key nonce (1 + i / 64)) = eu (blkM key nonce (1 + j / 64)) := fun j hj h => by rw [show j / 64 = i / 64 by omega]
        by_cases h0 : i % 64 = 0
        · have hc := dblk_pure key nonce (1 + i / 64) hk hn0 (by omega)
          have hz : (((i % 64 : Nat) : Int) == 0) = true := by rw [h0]; rfl
          have w1 : IntKind.u32.wrap (IntKind.i64.wrap ((i / 64 : Nat) : Int)) = ((i / 64 : Nat) : Int) := by rw [iw (by omega),wcast32,Nat.mod_eq_of_lt (by omega)]
          have w1' : IntKind.u32.wrap ((i / 64 : Nat) : Int) = ((i / 64 : Nat) : Int) := by rw [wcast32,Nat.mod_eq_of_lt (by omega)]
          have w0 : IntKind.i64.wrap ((i / 64 : Nat) : Int) = ((i / 64 : Nat) : Int) := iw (by omega)
          have w2 : IntKind.u32.wrap (1 + ((i / 64 : Nat) : Int)) = ((1 + i / 64 : Nat) : Int) := by rw [show (1 : Int) + ((i / 64 : Nat) : Int) = ((1 + i / 64 : Nat) : Int) by omega,wcast32,Nat.mod_eq_of_lt (by omega)]
          rw [hB2] at hc
          generalize blkM key nonce (1 + i / 64) = B at *
          simp (disch := omega) only [↓aI,↓zP,aD,zD,aS0,Nat.reduceBEq,Nat.reduceLT,reduceCtorEq,↓reduceIte,Nat.reduceMul,Nat.reduceAdd,Nat.reduceLeDiff,Nat.reduceEqDiff,Int.reduceToNat,Nat.reduceSub,Nat.reduceMod,Nat.reduceDiv,Int.reducePow,Int.reduceLE,Int.reduceNeg,Int.reduceLT,Int.reduceBEq,Int.reduceBNe,Int.reduceEq,Try.facts,g0,g1,g2,g3,g11,g13,hb2,jd,tdivN,hz,w0,w1,w1',w2]
          first | refine CallK.p (hc) ?_ | refine CallP.i (hc) ?_
          simp (disch := omega) only [↓aI,↓zP,aD,zD,aS0,Nat.reduceBEq,Nat.reduceLT,reduceCtorEq,↓reduceIte,Nat.reduceMul,Nat.reduceAdd,Nat.reduceLeDiff,Nat.reduceEqDiff,Int.reduceToNat,Nat.reduceSub,Nat.reduceMod,Nat.reduceDiv,Int.reducePow,Int.reduceLE,Int.reduceNeg,Int.reduceLT,Int.reduceBEq,Int.reduceBNe,Int.reduceEq,Try.facts,g0,g1,g2,g3,g11,g13,jd,ha,hx,hn,hel,hbl,hkt0,hot,htl]
          intro k' o' hk0' hk' ho'
          exact ⟨m - 1,by omega,i + 1,k',o',by omega,rfl,fun h => by rw [← hB2]; exact hnx _ rfl h,hk0',am hk',rfl,ho',by rw [hts]⟩
        · have hz : (((i % 64 : Nat) : Int) == 0) = false := beq_eq_false_iff_ne.2 fun h => h0 (Int.ofNat.inj h)
          have g12 := g12 h0
          rw [hB2] at g12
          generalize blkM key nonce (1 + i / 64) = B at *
          simp (disch := omega) only [↓aI,↓zP,aD,zD,aS0,Nat.reduceBEq,Nat.reduceLT,reduceCtorEq,↓reduceIte,Nat.reduceMul,Nat.reduceAdd,Nat.reduceLeDiff,Nat.reduceEqDiff,Int.reduceToNat,Nat.reduceSub,Nat.reduceMod,Nat.reduceDiv,Int.reducePow,Int.reduceLE,Int.reduceNeg,Int.reduceLT,Int.reduceBEq,Int.reduceBNe,Int.reduceEq,Try.facts,g0,g1,g2,g3,g11,g12,g13,hb2,jd,hz,ha,hx,hn,hel,hbl,hkt0,hot,htl]
          intro k' o' hk0' hk' ho'
          exact ⟨m - 1,by omega,i + 1,k',o',by omega,rfl,fun h => by rw [← hB2]; exact hnx _ rfl h,hk0',am hk',rfl,ho',by rw [hts]⟩
      · obtain rfl : i = b.length := by omega
        have hb2 : decide ((b.length : Int) < (b.length : Int)) = false := by simp
        rw [List.take_of_length_le (by omega)] at g11
        simp (disch := omega) only [↓aI,↓zP,aD,zD,aS0,Nat.reduceBEq,Nat.reduceLT,reduceCtorEq,↓reduceIte,Nat.reduceMul,Nat.reduceAdd,Nat.reduceLeDiff,Nat.reduceEqDiff,Int.reduceToNat,Nat.reduceSub,Nat.reduceMod,Nat.reduceDiv,Int.reducePow,Int.reduceLE,Int.reduceNeg,Int.reduceLT,Int.reduceBEq,Int.reduceBNe,Int.reduceEq,Try.facts,g0,g1,g2,g3,g11,g13,hb2,PostT_ret]
        exact ⟨_,Abs.Sub.refl _,kt,ot,hkt0,hkt,rfl,hot,set_get,Sub.set_new hkt⟩
end Go.Proofs.Ytibipjdngpjndaa
end
