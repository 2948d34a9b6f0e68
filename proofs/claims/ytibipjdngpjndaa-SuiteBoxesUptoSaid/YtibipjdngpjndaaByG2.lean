/-
  Several texts in one: each says what it proves.
  Conditions: none. Lemmas only.
-/
import Derived.Test.YtibipjdngpjndaaByG1
import Derived.Test.YtibipjdngpjndaaSuiG1
import Derived.Test.YtibipjdngpjndaaBxG1
set_option linter.all false
section
set_option linter.unusedSimpArgs false
set_option linter.unusedVariables false
set_option maxRecDepth 20000
set_option maxHeartbeats 4000000
namespace Go.Proofs.Ytibipjdngpjndaa
open Go Go.Abs Go.Proofs Go.Box
def unlike (xs ys : List UInt8) : UInt8 := (xs.zip ys).foldl (fun u p => u ||| (p.1 ^^^ p.2)) 0

theorem unlike_take (xs ys : List UInt8) (i : Nat) (h : i < xs.length) (h' : i < ys.length) : unlike (xs.take (i + 1)) (ys.take (i + 1)) = unlike (xs.take i) (ys.take i) ||| (xs[i] ^^^ ys[i]) := by
  unfold unlike
  rw [List.take_succ_eq_append_getElem h,List.take_succ_eq_append_getElem h',List.zip_append (by simp; omega),List.foldl_append]
  rfl

theorem equal_pure0 (xs ys : List UInt8) (h : xs.length ≤ 140737488355328) : APure Try.prog 35 [eu xs,eu ys] (.sc (.bool (xs.length == ys.length && unlike xs ys == 0))) := by
  refine az (c := ⟨Try.prog,31,[(7,[0,0,0,0,1,0,0,0,1,0,0,0])],[],[]⟩) (rs := [ResultVar.tmp 4]) Try.mixed Try.func35 rfl rfl rfl (Nat.le_of_ble_eq_true rfl) (by kernel_rfl) fun H => ?_
  by_cases hl : xs.length = ys.length
  · have hb : ((xs.length : Int) != (ys.length : Int)) = false := by simp [hl]
    simp (disch := omega) only [↓aI,↓zP,aD,zD,aS0,Nat.reduceBEq,Nat.reduceLT,reduceCtorEq,↓reduceIte,Nat.reduceMul,Nat.reduceAdd,Nat.reduceLeDiff,Nat.reduceEqDiff,Int.reduceToNat,Nat.reduceSub,Nat.reduceMod,Nat.reduceDiv,Int.reducePow,Int.reduceLE,Int.reduceNeg,Int.reduceLT,Int.reduceBEq,Int.reduceBNe,Int.reduceEq,Try.facts,hb]
    refine br (c := ⟨Try.prog,31,[(7,[0,0,0,0,1,0,0,0,1,0,0,0])],[],[]⟩) Try.mixed (by kernel_rfl) (fun m σ H' => H' = H ∧ ∃ i,i ≤ xs.length ∧ m = xs.length - i ∧ σ 0 = eu xs ∧ σ 1 = eu ys ∧ σ 13 = .sc (.int .i64 xs.length) ∧ σ 14 = .sc (.int .i64 i) ∧ σ 5 = .sc (.int .u8 (unlike (xs.take i) (ys.take i)).toNat)) xs.length ?_ ?_
    · refine ⟨rfl,0,Nat.zero_le _,by omega,?_⟩
      simp (disch := omega) only [↓aI,↓zP,aD,zD,aS0,Nat.reduceBEq,Nat.reduceLT,reduceCtorEq,↓reduceIte,Nat.reduceMul,Nat.reduceAdd,Nat.reduceLeDiff,Nat.reduceEqDiff,Int.reduceToNat,Nat.reduceSub,Nat.reduceMod,Nat.reduceDiv,Int.reducePow,Int.reduceLE,Int.reduceNeg,Int.reduceLT,Int.reduceBEq,Int.reduceBNe,Int.reduceEq,Try.facts]
      simp [unlike]
    · rintro m σ H' ⟨rfl,i,hi,rfl,h0,h1,h13,h14,h5⟩
      by_cases hlt : i < xs.length
      · have hb1 : decide ((i : Int) < (xs.length : Int)) = true := by simp; omega
        have g1 := getB hlt
        have g2 := getB (l := ys) (i := i) (by omega)
        have hu := unlike_take xs ys i hlt (by omega)
        simp (disch := omega) only [↓aI,↓zP,aD,zD,aS0,Nat.reduceBEq,Nat.reduceLT,reduceCtorEq,↓reduceIte,Nat.reduceMul,Nat.reduceAdd,Nat.reduceLeDiff,Nat.reduceEqDiff,Int.reduceToNat,Nat.reduceSub,Nat.reduceMod,Nat.reduceDiv,Int.reducePow,Int.reduceLE,Int.reduceNeg,Int.reduceLT,Int.reduceBEq,Int.reduceBNe,Int.reduceEq,Try.facts,h0,h1,h13,h14,h5,hb1,g1,g2]
        exact ⟨_,by omega,i + 1,hlt,rfl,by simp,by rw [hu]⟩
      · have hb1 : decide ((i : Int) < (xs.length : Int)) = false := by simp; omega
        obtain rfl : i = xs.length := by omega
        rw [List.take_length,hl,List.take_length] at h5
        simp (disch := omega) only [↓aI,↓zP,aD,zD,aS0,Nat.reduceBEq,Nat.reduceLT,reduceCtorEq,↓reduceIte,Nat.reduceMul,Nat.reduceAdd,Nat.reduceLeDiff,Nat.reduceEqDiff,Int.reduceToNat,Nat.reduceSub,Nat.reduceMod,Nat.reduceDiv,Int.reducePow,Int.reduceLE,Int.reduceNeg,Int.reduceLT,Int.reduceBEq,Int.reduceBNe,Int.reduceEq,Try.facts,h0,h1,h13,h14,h5,hb1]
        first | done | simp [hl,Abs.Sub.refl]
  · have hb : ((xs.length : Int) != (ys.length : Int)) = true := by simp; omega
    simp (disch := omega) only [↓aI,↓zP,aD,zD,aS0,Nat.reduceBEq,Nat.reduceLT,reduceCtorEq,↓reduceIte,Nat.reduceMul,Nat.reduceAdd,Nat.reduceLeDiff,Nat.reduceEqDiff,Int.reduceToNat,Nat.reduceSub,Nat.reduceMod,Nat.reduceDiv,Int.reducePow,Int.reduceLE,Int.reduceNeg,Int.reduceLT,Int.reduceBEq,Int.reduceBNe,Int.reduceEq,Try.facts,hb]
    simp [hl,Abs.Sub.refl]

theorem unlike_zero (xs ys : List UInt8) (h : xs.length = ys.length) : (unlike xs ys == 0) = (xs == ys) := by
  have key : ∀ (xs ys : List UInt8) (u : UInt8),xs.length = ys.length → ((xs.zip ys).foldl (fun u p => u ||| (p.1 ^^^ p.2)) u = 0 ↔ u = 0 ∧ xs = ys) := by
    intro xs
    induction xs with
    | nil => intro ys u h; cases ys with | nil => simp | cons _ _ => simp at h
    | cons x xs ih =>
      intro ys u h
      cases ys with
      | nil => simp at h
      | cons y ys =>
        simp only [List.zip_cons_cons,List.foldl_cons]
        rw [ih ys _ (by simpa using h)]
        have e : (u ||| (x ^^^ y)) = 0 ↔ u = 0 ∧ x = y := by
          rw [UInt8.or_eq_zero_iff,UInt8.xor_eq_zero_iff]
        rw [e]
        simp [and_assoc]
  rw [Bool.eq_iff_iff]
  simp only [beq_iff_eq]
  have := key xs ys 0 h
  simpa [unlike] using this

theorem equal_pure (xs ys : List UInt8) (h : xs.length ≤ 140737488355328) : APure Try.prog 35 [eu xs,eu ys] (.sc (.bool (xs == ys))) := by
  have e : (xs.length == ys.length && unlike xs ys == 0) = (xs == ys) := by
    by_cases hl : xs.length = ys.length
    · simp [hl,unlike_zero xs ys hl]
    · have h2 : (xs == ys) = false := by simp; exact fun e => hl (by rw [e])
      have h1 : (xs.length == ys.length) = false := by simp [hl]
      rw [h1,h2]; rfl
  rw [← e]
  exact equal_pure0 xs ys h

theorem sjoin_pure (ls : List (List UInt8)) (hl : ls.length ≤ 1000) (hf : ls.flatten.length ≤ 10000000) : APure Try.prog 26 [fZ ls] (eu ls.flatten) := by
  have hfe := gz ls.flatten
  refine az (c := ⟨Try.prog,17,[],[],[]⟩) (rs := [ResultVar.tmp 2]) Try.mixed Try.func26 rfl rfl rfl (Nat.le_of_ble_eq_true rfl) (by kernel_rfl) fun H => ?_
  simp (disch := omega) only [↓aI,↓zP,aD,zD,aS0,Nat.reduceBEq,Nat.reduceLT,reduceCtorEq,↓reduceIte,Nat.reduceMul,Nat.reduceAdd,Nat.reduceLeDiff,Nat.reduceEqDiff,Int.reduceToNat,Nat.reduceSub,Nat.reduceMod,Nat.reduceDiv,Int.reducePow,Int.reduceLE,Int.reduceNeg,Int.reduceLT,Int.reduceBEq,Int.reduceBNe,Int.reduceEq,Try.facts]
  refine jn 3 (by simp (disch := omega) only [↓aI,↓zP,aD,zD,aS0,Nat.reduceBEq,Nat.reduceLT,reduceCtorEq,↓reduceIte,Nat.reduceMul,Nat.reduceAdd,Nat.reduceLeDiff,Nat.reduceEqDiff,Int.reduceToNat,Nat.reduceSub,Nat.reduceMod,Nat.reduceDiv,Int.reducePow,Int.reduceLE,Int.reduceNeg,Int.reduceLT,Int.reduceBEq,Int.reduceBNe,Int.reduceEq,Try.facts]) fun k hk0 hk => ?_
  refine br (c := ⟨Try.prog,17,[],[],[]⟩) Try.mixed (by kernel_rfl) (fun m σ H' => ∃ i,i + m = ls.length ∧ σ 6 = fZ ls ∧ σ 7 = .sc (.int .i64 ls.length) ∧ σ 8 = .sc (.int .i64 i) ∧ ∃ k o,k ≠ 0 ∧ H k = none ∧ H' = H.set k o ∧ cy 5 1 o (ls.take i).flatten.length ∧ σ 3 = .imm k (bw (ls.take i).flatten) (ls.take i).flatten.length) ls.length ?_ ?_
  · refine ⟨0,by omega,?_⟩
    simp (disch := omega) only [↓aI,↓zP,aD,zD,aS0,Nat.reduceBEq,Nat.reduceLT,reduceCtorEq,↓reduceIte,Nat.reduceMul,Nat.reduceAdd,Nat.reduceLeDiff,Nat.reduceEqDiff,Int.reduceToNat,Nat.reduceSub,Nat.reduceMod,Nat.reduceDiv,Int.reducePow,Int.reduceLE,Int.reduceNeg,Int.reduceLT,Int.reduceBEq,Int.reduceBNe,Int.reduceEq,Try.facts]
    exact ⟨k,_,hk0,hk,rfl,.inr ⟨rfl,rfl⟩,rfl⟩
  · rintro m σ H' ⟨i,hi,h6,h7,h8,k,o,hk0,hk,rfl,ho,h3⟩
    by_cases hlt : i < ls.length
    · have hb1 : decide ((i : Int) < (ls.length : Int)) = true := by simp; omega
      have g1 := getR hlt
      have hz := flat_take hlt
      have hle := flat_le (ls := ls) (i + 1)
      have hl2 := gz (ls.take i).flatten
      have hl3 := gz ls[i]
      have w1 : IntKind.i64.wrap ((i : Int) + 1) = ((i + 1 : Nat) : Int) := by rw [iw (by omega)]; rfl
      rw [hz,List.length_append] at hle
      generalize hL : (ls.take (i + 1)).flatten = L1 at *
      generalize (ls.take i).flatten = L0 at *
      generalize ls[i] = x at *
      simp (disch := omega) only [↓aI,↓zP,aD,zD,aS0,Nat.reduceBEq,Nat.reduceLT,reduceCtorEq,↓reduceIte,Nat.reduceMul,Nat.reduceAdd,Nat.reduceLeDiff,Nat.reduceEqDiff,Int.reduceToNat,Nat.reduceSub,Nat.reduceMod,Nat.reduceDiv,Int.reducePow,Int.reduceLE,Int.reduceNeg,Int.reduceLT,Int.reduceBEq,Int.reduceBNe,Int.reduceEq,Try.facts,h3,h6,h7,h8,hb1,g1,List.length_map,hk0,ho,hl2,hl3,w1]
      intro k' o' hk0' hk' ho'
      exact ⟨m - 1,by omega,i + 1,by omega,rfl,k',o',hk0',am hk',rfl,by rw [hL,hz,List.length_append]; exact ho',by rw [hL,hz,encB_append,List.length_append]⟩
    · have hb1 : decide ((i : Int) < (ls.length : Int)) = false := by simp; omega
      obtain rfl : i = ls.length := by omega
      rw [List.take_length] at h3
      simp (disch := omega) only [↓aI,↓zP,aD,zD,aS0,Nat.reduceBEq,Nat.reduceLT,reduceCtorEq,↓reduceIte,Nat.reduceMul,Nat.reduceAdd,Nat.reduceLeDiff,Nat.reduceEqDiff,Int.reduceToNat,Nat.reduceSub,Nat.reduceMod,Nat.reduceDiv,Int.reducePow,Int.reduceLE,Int.reduceNeg,Int.reduceLT,Int.reduceBEq,Int.reduceBNe,Int.reduceEq,Try.facts,h3,h6,h7,h8,hb1]
      first | exact Sub.set_new hk | exact ⟨rfl,Sub.set_new hk⟩ | trace_state
theorem sbytes_pure (n : Nat) (hn : n < 18446744073709551616) : APure Try.prog 42 [.sc (.int .u64 n),.sc (.int .i64 8)] (.tup [eu (fh 8 n),.sc (.int .i64 0)]) := by
  have hl8 := fe0 8 n
  refine az (c := ⟨Try.prog,27,[],[],[]⟩) (rs := [ResultVar.tmp 4,ResultVar.tmp 5]) Try.mixed Try.func42 rfl rfl rfl (Nat.le_of_ble_eq_true rfl) (by kernel_rfl) fun H => ?_
  simp (disch := omega) only [↓aI,↓zP,aD,zD,aS0,Nat.reduceBEq,Nat.reduceLT,reduceCtorEq,↓reduceIte,Nat.reduceMul,Nat.reduceAdd,Nat.reduceLeDiff,Nat.reduceEqDiff,Int.reduceToNat,Nat.reduceSub,Nat.reduceMod,Nat.reduceDiv,Int.reducePow,Int.reduceLE,Int.reduceNeg,Int.reduceLT,Int.reduceBEq,Int.reduceBNe,Int.reduceEq,Try.facts]
  refine jn 6 (by simp (disch := omega) only [↓aI,↓zP,aD,zD,aS0,Nat.reduceBEq,Nat.reduceLT,reduceCtorEq,↓reduceIte,Nat.reduceMul,Nat.reduceAdd,Nat.reduceLeDiff,Nat.reduceEqDiff,Int.reduceToNat,Nat.reduceSub,Nat.reduceMod,Nat.reduceDiv,Int.reducePow,Int.reduceLE,Int.reduceNeg,Int.reduceLT,Int.reduceBEq,Int.reduceBNe,Int.reduceEq,Try.facts]) fun k hk0 hk => ?_
  refine br (c := ⟨Try.prog,27,[],[],[]⟩) Try.mixed (by kernel_rfl) (fun m σ H' => ∃ i acc,i + m = 8 ∧ acc.length = i ∧ acc ++ fh m (n / 256 ^ i) = fh 8 n ∧ σ 0 = .sc (.int .u64 (n / 256 ^ i : Nat)) ∧ σ 13 = .sc (.int .i64 8) ∧ σ 14 = .sc (.int .i64 i) ∧ ∃ k o,k ≠ 0 ∧ H k = none ∧ H' = H.set k o ∧ cy 5 1 o i ∧ σ 6 = .imm k (bw acc) i) 8 ?_ ?_
  · refine ⟨0,[],by omega,rfl,by simp,?_⟩
    simp (disch := omega) only [↓aI,↓zP,aD,zD,aS0,Nat.reduceBEq,Nat.reduceLT,reduceCtorEq,↓reduceIte,Nat.reduceMul,Nat.reduceAdd,Nat.reduceLeDiff,Nat.reduceEqDiff,Int.reduceToNat,Nat.reduceSub,Nat.reduceMod,Nat.reduceDiv,Int.reducePow,Int.reduceLE,Int.reduceNeg,Int.reduceLT,Int.reduceBEq,Int.reduceBNe,Int.reduceEq,Try.facts,Nat.pow_zero,Nat.div_one]
    exact ⟨k,_,hk0,hk,rfl,.inr ⟨rfl,rfl⟩,rfl⟩
  · rintro m σ H' ⟨i,acc,hi,hacc,hu,h0,h13,h14,k,o,hk0,hk,rfl,hto,h6⟩
    have hle : n / 256 ^ i ≤ n := Nat.div_le_self _ _
    have hdd : n / 256 ^ i / 256 = n / 256 ^ (i + 1) := by rw [Nat.div_div_eq_div_mul,Nat.pow_succ]
    have hz8 : i = 8 → n / 256 ^ i = 0 := fun h => by subst h; exact Nat.div_eq_of_lt (by omega)
    generalize hnn : n / 256 ^ i = nn at *
    by_cases hlt : i < 8
    · have hb3 : decide ((i : Int) < 8) = true := by simp; omega
      obtain ⟨m,rfl⟩ : ∃ m',m = m' + 1 := ⟨m - 1,by omega⟩
      have hal : (bw acc).length = i := by rw [gz,hacc]
      simp (disch := omega) only [↓aI,↓zP,aD,zD,aS0,Nat.reduceBEq,Nat.reduceLT,reduceCtorEq,↓reduceIte,Nat.reduceMul,Nat.reduceAdd,Nat.reduceLeDiff,Nat.reduceEqDiff,Int.reduceToNat,Nat.reduceSub,Nat.reduceMod,Nat.reduceDiv,Int.reducePow,Int.reduceLE,Int.reduceNeg,Int.reduceLT,Int.reduceBEq,Int.reduceBNe,Int.reduceEq,Try.facts,h0,h13,h14,h6,hb3,hto,hacc,hal,hk0,↓jC,fdivN]
      intro k' o' hk0' hk' ho'
      exact ⟨m,by omega,i + 1,acc ++ [UInt8.ofNat nn],by omega,by simp [hacc],by rw [← hu,← hdd]; simp [fh],by rw [hdd],rfl,k',o',hk0',am hk',rfl,ho',rfl⟩
    · obtain rfl : m = 0 := by omega
      obtain rfl : i = 8 := by omega
      have hz := hz8 rfl
      have hb3 : decide (((8 : Nat) : Int) < 8) = false := by decide
      subst hz
      have hb4 : (((0 : Nat) : Int) != 0) = false := by decide
      simp (disch := omega) only [↓aI,↓zP,aD,zD,aS0,Nat.reduceBEq,Nat.reduceLT,reduceCtorEq,↓reduceIte,Nat.reduceMul,Nat.reduceAdd,Nat.reduceLeDiff,Nat.reduceEqDiff,Int.reduceToNat,Nat.reduceSub,Nat.reduceMod,Nat.reduceDiv,Int.reducePow,Int.reduceLE,Int.reduceNeg,Int.reduceLT,Int.reduceBEq,Int.reduceBNe,Int.reduceEq,Try.facts,h0,h13,h14,h6,hb3,hb4]
      rw [← hu]
      refine ⟨?_,Sub.set_new hk⟩
      unfold eu
      simp [fh,hacc]
theorem sfilled_pure (n : Nat) (hn : n ≤ 1000000) : APure Try.prog 44 [.sc (.int .i64 n)] (eu (fillM n)) := by
  have w1 : IntKind.i64.wrap (16 - ((n % 16 : Nat) : Int)) = ((16 - n % 16 : Nat) : Int) := by rw [iw (by omega)]; omega
  have hfl : (fillM n).length = (16 - n % 16) % 16 := by simp [fillM]
  have hz := zeros_b ((16 - n % 16) % 16)
  rw [show List.replicate ((16 - n % 16) % 16) 0 = fillM n from rfl] at hz
  have hel := gz (fillM n)
  generalize fillM n = F at *
  refine az (c := ⟨Try.prog,8,[],[],[]⟩) (rs := [ResultVar.tmp 2]) Try.mixed Try.func44 rfl rfl rfl (Nat.le_of_ble_eq_true rfl) (by kernel_rfl) fun H => ?_
  simp (disch := omega) only [↓aI,↓zP,aD,zD,aS0,Nat.reduceBEq,Nat.reduceLT,reduceCtorEq,↓reduceIte,Nat.reduceMul,Nat.reduceAdd,Nat.reduceLeDiff,Nat.reduceEqDiff,Int.reduceToNat,Nat.reduceSub,Nat.reduceMod,Nat.reduceDiv,Int.reducePow,Int.reduceLE,Int.reduceNeg,Int.reduceLT,Int.reduceBEq,Int.reduceBNe,Int.reduceEq,Try.facts,jd,w1]
  intro k hk0 hk
  simp (disch := omega) only [↓aI,↓zP,aD,zD,aS0,Nat.reduceBEq,Nat.reduceLT,reduceCtorEq,↓reduceIte,Nat.reduceMul,Nat.reduceAdd,Nat.reduceLeDiff,Nat.reduceEqDiff,Int.reduceToNat,Nat.reduceSub,Nat.reduceMod,Nat.reduceDiv,Int.reducePow,Int.reduceLE,Int.reduceNeg,Int.reduceLT,Int.reduceBEq,Int.reduceBNe,Int.reduceEq,Try.facts,hz]
  rw [hk]
  refine ⟨?_,by omega,Sub.set_new hk⟩
  show some (AV.imm 0 ((bw F).take ((16 - n % 16) % 16 * 1)) ((16 - n % 16) % 16)) = _
  rw [List.take_of_length_le (by omega)]
  unfold eu
  rw [hfl]
theorem sright_pure (key nonce : List UInt8) : APure Try.prog 24 [eu key,eu nonce] (.sc (.bool (decide (key.length = 32 ∧ nonce.length = 12)))) := by
  refine az (c := ⟨Try.prog,13,[],[],[]⟩) (rs := [ResultVar.tmp 4]) Try.mixed Try.func24 rfl rfl rfl (Nat.le_of_ble_eq_true rfl) (by kernel_rfl) fun H => ?_
  by_cases h1 : key.length = 32
  · have b1 : ((key.length : Int) == 32) = true := qT (by omega)
    by_cases h2 : nonce.length = 12
    · have b2 : ((nonce.length : Int) == 12) = true := qT (by omega)
      rw [decide_eq_true ⟨h1,h2⟩]
      simp (disch := omega) only [↓aI,↓zP,aD,zD,aS0,Nat.reduceBEq,Nat.reduceLT,reduceCtorEq,↓reduceIte,Nat.reduceMul,Nat.reduceAdd,Nat.reduceLeDiff,Nat.reduceEqDiff,Int.reduceToNat,Nat.reduceSub,Nat.reduceMod,Nat.reduceDiv,Int.reducePow,Int.reduceLE,Int.reduceNeg,Int.reduceLT,Int.reduceBEq,Int.reduceBNe,Int.reduceEq,Try.facts,b1,b2]
      first | exact Abs.Sub.refl _ | trace_state
    · have b2 : ((nonce.length : Int) == 12) = false := qF (by omega)
      rw [decide_eq_false (fun h => h2 h.2)]
      simp (disch := omega) only [↓aI,↓zP,aD,zD,aS0,Nat.reduceBEq,Nat.reduceLT,reduceCtorEq,↓reduceIte,Nat.reduceMul,Nat.reduceAdd,Nat.reduceLeDiff,Nat.reduceEqDiff,Int.reduceToNat,Nat.reduceSub,Nat.reduceMod,Nat.reduceDiv,Int.reducePow,Int.reduceLE,Int.reduceNeg,Int.reduceLT,Int.reduceBEq,Int.reduceBNe,Int.reduceEq,Try.facts,b1,b2]
      first | exact Abs.Sub.refl _ | trace_state
  · have b1 : ((key.length : Int) == 32) = false := qF (by omega)
    rw [decide_eq_false (fun h => h1 h.1)]
    simp (disch := omega) only [↓aI,↓zP,aD,zD,aS0,Nat.reduceBEq,Nat.reduceLT,reduceCtorEq,↓reduceIte,Nat.reduceMul,Nat.reduceAdd,Nat.reduceLeDiff,Nat.reduceEqDiff,Int.reduceToNat,Nat.reduceSub,Nat.reduceMod,Nat.reduceDiv,Int.reducePow,Int.reduceLE,Int.reduceNeg,Int.reduceLT,Int.reduceBEq,Int.reduceBNe,Int.reduceEq,Try.facts,b1]
    first | exact Abs.Sub.refl _ | trace_state
theorem snonce_pure (n : Nat) (hn : n < 9223372036854775808) : APure Try.prog 16 [.sc (.int .i64 n)] (eu (nonM n)) := by
  have h1 := jj n hn
  have hll := fe0 8 n
  have hN : eu (nonM n) = .imm 0 (.sc (.int .u8 0) :: .sc (.int .u8 0) :: .sc (.int .u8 0) :: .sc (.int .u8 0) :: bw (fh 8 n)) 12 := by
    unfold eu
    rw [nonM_len]
    rfl
  rw [hN]
  unfold eu at h1
  rw [hll] at h1
  have hel := gz (fh 8 n)
  rw [hll] at hel
  generalize fh 8 n = L at *
  refine az (c := ⟨Try.prog,7,[(2000001,[1,2,0,3,4]),(1,[0,0,2,2,0])],[1000006],[]⟩) (rs := [ResultVar.tmp 2]) Try.mixed Try.func16 rfl rfl rfl (Nat.le_of_ble_eq_true rfl) (by kernel_rfl) fun H => ?_
  simp (disch := omega) only [↓aI,↓zP,aD,zD,aS0,Nat.reduceBEq,Nat.reduceLT,reduceCtorEq,↓reduceIte,Nat.reduceMul,Nat.reduceAdd,Nat.reduceLeDiff,Nat.reduceEqDiff,Int.reduceToNat,Nat.reduceSub,Nat.reduceMod,Nat.reduceDiv,Int.reducePow,Int.reduceLE,Int.reduceNeg,Int.reduceLT,Int.reduceBEq,Int.reduceBNe,Int.reduceEq,Try.facts]
  first | refine CallK.p (h1) ?_ | refine CallP.i (h1) ?_
  simp (disch := omega) only [↓aI,↓zP,aD,zD,aS0,Nat.reduceBEq,Nat.reduceLT,reduceCtorEq,↓reduceIte,Nat.reduceMul,Nat.reduceAdd,Nat.reduceLeDiff,Nat.reduceEqDiff,Int.reduceToNat,Nat.reduceSub,Nat.reduceMod,Nat.reduceDiv,Int.reducePow,Int.reduceLE,Int.reduceNeg,Int.reduceLT,Int.reduceBEq,Int.reduceBNe,Int.reduceEq,Try.facts,hel]
  intro k hk0 hk k' hk'
  have f1 : H k' = none := by
    rcases hk' with rfl | ⟨_,h⟩
    · exact hk
    · exact am h
  try rw [ef hk]
  rw [f1]
  refine ⟨?_,Sub.set_new f1⟩
  show some (AV.imm 0 ((AV.sc (.int .u8 0) :: .sc (.int .u8 0) :: .sc (.int .u8 0) :: .sc (.int .u8 0) :: bw L).take (12 * 1)) 12) = _
  rw [List.take_of_length_le (by simp [hel])]
end Go.Proofs.Ytibipjdngpjndaa
end
section
set_option linter.unusedSimpArgs false
set_option linter.unusedVariables false
set_option maxRecDepth 20000
set_option maxHeartbeats 4000000
namespace Go.Proofs.Ytibipjdngpjndaa
open Go Go.Abs Go.Proofs Go.Box
def u64A (l : List Nat) : List AV := l.map fun x : Nat => AV.sc (.int .u64 x)
theorem u64A_length (l : List Nat) : (u64A l).length = l.length := by simp [u64A]
theorem u64A_at {l : List Nat} {i : Nat} (h : i < l.length) : (u64A l)[i]? = some (.sc (.int .u64 (l.getD i 0 : Nat))) := by simp [u64A,List.getD,h]
theorem u64A_put {l : List Nat} {i x : Nat} (h : i < l.length) : bG (u64A l) i [.sc (.int .u64 x)] = u64A (l.set i x) := by
  rw [ah,List.set_eq_take_append_cons_drop,if_pos h]
  simp [u64A]
theorem u64A_strip (l : List Nat) : (u64A l).map AV.strip0 = u64A l := by simp [u64A,AV.strip0]
theorem wget (k n i : Nat) : (wordsW k n).getD i 0 < 18446744073709551616 := by
  by_cases h : i < k
  · rw [wordsW_get k n i h]; exact Nat.mod_lt _ (by decide)
  · rw [List.getD,List.getElem?_eq_none (by rw [wordsW_len]; omega)]; decide
theorem numL_snoc (b : List UInt8) {i : Nat} (h : i < b.length) : numL (b.take (i + 1)) = numL (b.take i) + 256 ^ i * (b.getD i 0).toNat := by
  rw [List.take_succ_eq_append_getElem h,numL_append,List.length_take,Nat.min_eq_left (by omega)]
  simp [numL,valD,List.getD,h]
theorem sfrom_pure (b : List UInt8) (hb : b.length ≤ 32) : APure Try.prog 60 [eu b] (.tup [.agg (u64A (wordsW 4 (numL b))),.sc (.int .i64 0)]) := by
  have hel := gz b
  have b1 : decide ((32 : Int) < (b.length : Int)) = false := dF (by omega)
  have hF : numL (b.take b.length) = numL b := by rw [List.take_length]
  have hlt := fun i (h : i ≤ b.length) => (show numL (b.take i) < 256 ^ i by have := numL_lt (b.take i); rwa [List.length_take,Nat.min_eq_left h] at this)
  have hs := fun i h => numL_snoc b (i := i) h
  rw [← hF]
  generalize hG : (fun i => numL (b.take i)) = G
  have hG' : ∀ i,numL (b.take i) = G i := fun i => by rw [← hG]
  simp only [hG'] at hlt hs ⊢
  have hz : u64A (wordsW 4 (G 0)) = [.sc (.int .u64 0),.sc (.int .u64 0),.sc (.int .u64 0),.sc (.int .u64 0)] := by
    rw [← hG]
    show u64A (wordsW 4 (numL (b.take 0))) = _
    rw [List.take_zero]
    rfl
  clear hG hG' hF
  unfold eu
  refine az (c := ⟨Try.prog,32,[(7,[0,0,0,1,0,0,0,0,0,0,0,0,2])],[],[]⟩) (rs := [ResultVar.cell 2 87,ResultVar.tmp 3]) Try.mixed Try.func60 rfl rfl rfl (Nat.le_of_ble_eq_true rfl) (by kernel_rfl) fun H => ?_
  simp (disch := omega) only [↓aI,↓zP,aD,zD,aS0,Nat.reduceBEq,Nat.reduceLT,reduceCtorEq,↓reduceIte,Nat.reduceMul,Nat.reduceAdd,Nat.reduceLeDiff,Nat.reduceEqDiff,Int.reduceToNat,Nat.reduceSub,Nat.reduceMod,Nat.reduceDiv,Int.reducePow,Int.reduceLE,Int.reduceNeg,Int.reduceLT,Int.reduceBEq,Int.reduceBNe,Int.reduceEq,Try.facts,b1]
  intro k hk0 hk k2 hk20 hk2
  have n2 := bK hk2
  have hk2' := am hk2
  refine br (c := ⟨Try.prog,32,[(7,[0,0,0,1,0,0,0,0,0,0,0,0,2])],[],[]⟩) Try.mixed (by kernel_rfl) (fun m σ H' => ∃ i,i + m = b.length ∧ σ 2 = .ptr k 0 ∧ σ 3 = .sc (.int .i64 0) ∧ σ 4 = .ptr k2 0 ∧ σ 11 = .imm 0 (bw b) b.length ∧ σ 12 = .sc (.int .i64 b.length) ∧ σ 13 = .sc (.int .i64 (i : Nat)) ∧ H' = (H.set k (.cells [.sc (.int .u64 0),.sc (.int .u64 0),.sc (.int .u64 0),.sc (.int .u64 0)] 87 4)).set k2 (.cells (u64A (wordsW 4 (G i))) 87 4)) b.length ?_ ?_
  · refine ⟨0,by omega,?_⟩
    rw [hz]
    simp (disch := omega) only [↓aI,↓zP,aD,zD,aS0,Nat.reduceBEq,Nat.reduceLT,reduceCtorEq,↓reduceIte,Nat.reduceMul,Nat.reduceAdd,Nat.reduceLeDiff,Nat.reduceEqDiff,Int.reduceToNat,Nat.reduceSub,Nat.reduceMod,Nat.reduceDiv,Int.reducePow,Int.reduceLE,Int.reduceNeg,Int.reduceLT,Int.reduceBEq,Int.reduceBNe,Int.reduceEq,Try.facts]
    first | rfl | exact ⟨rfl,rfl⟩ | trace_state
  · rintro m σ H' ⟨i,hi,g2,g3,g4,g11,g12,g13,rfl⟩
    by_cases hl : i < b.length
    · have hb2 : decide ((i : Int) < (b.length : Int)) = true := dT (by omega)
      have ha := encB_get (l := b) (i := i) hl
      have hm := byte_more (k := 4) (hlt i (by omega)) (b.getD i 0).toNat_lt (by omega : i < 8 * 4)
      rw [← hs i hl] at hm
      have hx := (b.getD i 0).toNat_lt
      have aw := u64A_at (l := wordsW 4 (G i)) (i := i / 8) (by rw [wordsW_len]; omega)
      have hput := fun x => u64A_put (l := wordsW 4 (G i)) (i := i / 8) (x := x) (by rw [wordsW_len]; omega)
      have hwl : (u64A (wordsW 4 (G i))).length = 4 := by rw [u64A_length,wordsW_len]
      have hwg := wget 4 (G i) (i / 8)
      have hp8 : (256 : Nat) ^ (i % 8) = 2 ^ (8 * (i % 8)) := by rw [Nat.pow_mul]
      have hx8 : (b.getD i 0).toNat * 2 ^ (8 * (i % 8)) < 18446744073709551616 := by
        rw [← hp8]
        have h1 : (b.getD i 0).toNat * 256 ^ (i % 8) ≤ 255 * 256 ^ (i % 8) := Nat.mul_le_mul_right _ (by omega)
        have h2 : (256 : Nat) ^ (i % 8) ≤ 256 ^ 7 := Nat.pow_le_pow_right (by decide) (by omega)
        have h3 : (255 : Nat) * 256 ^ 7 < 18446744073709551616 := by decide
        omega
      rw [hp8] at hm
      generalize (b.getD i 0).toNat = x at *
      obtain ⟨hm1,hm2⟩ := hm
      generalize wordsW 4 (G i) = W at *
      generalize hW' : wordsW 4 (G (i + 1)) = W' at *
      generalize W.getD (i / 8) 0 = y at *
      have w1 : IntKind.i64.wrap ((i / 8 : Nat) : Int) = ((i / 8 : Nat) : Int) := iw (by omega)
      have w2 : IntKind.u64.wrap (x : Int) = (x : Int) := jw (by omega)
      have w3 : 8 * ((i % 8 : Nat) : Int) = ((8 * (i % 8) : Nat) : Int) := by omega
      have w4 : IntKind.i64.wrap ((8 * (i % 8) : Nat) : Int) = ((8 * (i % 8) : Nat) : Int) := iw (by omega)
      have b3 : decide (((8 * (i % 8) : Nat) : Int) < 0) = false := dF (by omega)
      have hmin : min (8 * (i % 8)) 64 = 8 * (i % 8) := by omega
      have w5 : IntKind.u64.wrap ((x : Int) * 2 ^ (8 * (i % 8))) = ((x * 2 ^ (8 * (i % 8)) : Nat) : Int) := by
        rw [show ((x : Int) * 2 ^ (8 * (i % 8))) = ((x * 2 ^ (8 * (i % 8)) : Nat) : Int) by rw [Int.natCast_mul,Int.natCast_pow]; rfl]
        exact jw hx8
      have hor : bits .or .u64 (y : Int) ((x * 2 ^ (8 * (i % 8)) : Nat) : Int) = ((y + x * 2 ^ (8 * (i % 8)) : Nat) : Int) := by
        rw [bits_or64 hwg hx8,or_add hm2,Nat.mul_comm x]
      have hput := hput (y + x * 2 ^ (8 * (i % 8)))
      rw [hm1] at hput
      simp (disch := omega) only [↓aI,↓zP,aD,zD,aS0,Nat.reduceBEq,Nat.reduceLT,reduceCtorEq,↓reduceIte,Nat.reduceMul,Nat.reduceAdd,Nat.reduceLeDiff,Nat.reduceEqDiff,Int.reduceToNat,Nat.reduceSub,Nat.reduceMod,Nat.reduceDiv,Int.reducePow,Int.reduceLE,Int.reduceNeg,Int.reduceLT,Int.reduceBEq,Int.reduceBNe,Int.reduceEq,Try.facts,g2,g3,g4,g11,g12,g13,hb2,ha,hel,jd,tdivN,w1,w2,w3,w4,w5,b3,bits_u64,hmin,aw,hwl,set_get,set_set,hor,hput]
      exact ⟨m - 1,by omega,i + 1,by omega,rfl,by rw [hW']⟩
    · obtain rfl : i = b.length := by omega
      have hb2 : decide ((b.length : Int) < (b.length : Int)) = false := by simp
      have hwl : (u64A (wordsW 4 (G b.length))).length = 4 := by rw [u64A_length,wordsW_len]
      have htk : (u64A (wordsW 4 (G b.length))).take 4 = u64A (wordsW 4 (G b.length)) := List.take_of_length_le (by omega)
      have v1 : ∀ Y,((H.set k (.cells [.sc (.int .u64 0),.sc (.int .u64 0),.sc (.int .u64 0),.sc (.int .u64 0)] 87 4)).set k2 Y) k = some (.cells [.sc (.int .u64 0),.sc (.int .u64 0),.sc (.int .u64 0),.sc (.int .u64 0)] 87 4) := fun Y => by
        first
          | (rw [aP0 n2]; exact set_get)
          | (rw [aP0 (fun e => n2 e.symm)]; exact set_get)
      simp (disch := omega) only [↓aI,↓zP,aD,zD,aS0,Nat.reduceBEq,Nat.reduceLT,reduceCtorEq,↓reduceIte,Nat.reduceMul,Nat.reduceAdd,Nat.reduceLeDiff,Nat.reduceEqDiff,Int.reduceToNat,Nat.reduceSub,Nat.reduceMod,Nat.reduceDiv,Int.reducePow,Int.reduceLE,Int.reduceNeg,Int.reduceLT,Int.reduceBEq,Int.reduceBNe,Int.reduceEq,Try.facts,g2,g3,g4,g11,g12,g13,hb2,set_get,hwl,htk,v1,ah]
      exact ⟨by rw [u64A_strip],((Sub.set_new hk).set_free hk2').set_free hk⟩
def bytF (n i : Nat) : List UInt8 := (List.range 32).map fun t => if t < i then UInt8.ofNat (n / 256 ^ t % 256) else 0
theorem bytF_len (n i : Nat) : (bytF n i).length = 32 := by simp [bytF]
theorem bytF_zero (n : Nat) : bytF n 0 = List.replicate 32 0 := rfl
theorem bytF_end (n : Nat) : bytF n 32 = bytesN 32 n := by
  apply List.ext_getElem (by rw [bytF_len,bytesN_len])
  intro t h1 h2
  rw [bytF_len] at h1
  rw [bytesN_get]
  simp only [bytF,List.getElem_map,List.getElem_range]
  rw [if_pos h1]
theorem bytF_set (n : Nat) {i : Nat} (h : i < 32) : (bytF n i).set i (UInt8.ofNat (n / 256 ^ i % 256)) = bytF n (i + 1) := by
  apply List.ext_getElem (by rw [List.length_set,bytF_len,bytF_len])
  intro t h1 h2
  by_cases e : i = t
  · subst e
    rw [List.getElem_set_self]
    simp [bytF]
  · rw [List.getElem_set_ne e]
    simp only [bytF,List.getElem_map,List.getElem_range]
    by_cases c : t < i
    · rw [if_pos c,if_pos (by omega)]
    · rw [if_neg c,if_neg (by omega)]
theorem swbytes_pure (n : Nat) : APure Try.prog 65 [.agg (u64A (wordsW 4 n))] (eu (bytesN 32 n)) := by
  have hwl : (u64A (wordsW 4 n)).length = 4 := by rw [u64A_length,wordsW_len]
  have hwt : (u64A (wordsW 4 n)).take 4 = u64A (wordsW 4 n) := List.take_of_length_le (by omega)
  have hbo := fun i (h : i < 32) => byte_of 4 n i h
  have hat := fun i (h : i < 32) => u64A_at (l := wordsW 4 n) (i := i / 8) (by rw [wordsW_len]; omega)
  have f0 := bytF_zero n
  have fe := bytF_end n
  have fl := bytF_len n
  have fs := fun i h => bytF_set n (i := i) h
  have hll := bytesN_len 32 n
  rw [← fe] at hll ⊢
  generalize bytF n = F at *
  generalize wordsW 4 n = W at *
  refine az (c := ⟨Try.prog,25,[(1000000,[1])],[],[]⟩) (rs := [ResultVar.tmp 2]) Try.mixed Try.func65 rfl rfl rfl (Nat.le_of_ble_eq_true rfl) (by kernel_rfl) fun H => ?_
  simp (disch := omega) only [↓aI,↓zP,aD,zD,aS0,Nat.reduceBEq,Nat.reduceLT,reduceCtorEq,↓reduceIte,Nat.reduceMul,Nat.reduceAdd,Nat.reduceLeDiff,Nat.reduceEqDiff,Int.reduceToNat,Nat.reduceSub,Nat.reduceMod,Nat.reduceDiv,Int.reducePow,Int.reduceLE,Int.reduceNeg,Int.reduceLT,Int.reduceBEq,Int.reduceBNe,Int.reduceEq,Try.facts,hwl,hwt]
  intro k hk0 hkn k2 hk20 hk2
  have hk2' : H k2 = none := by rw [ef hkn] at hk2; exact hk2
  try rw [ef hkn]
  refine br (c := ⟨Try.prog,25,[(1000000,[1])],[],[]⟩) Try.mixed (by kernel_rfl) (fun m σ H' => ∃ i : Nat,i + m = 32 ∧ σ 1 = .ip (u64A W) 0 ∧ σ 3 = .own k2 0 32 ∧ σ 7 = .sc (.int .i64 32) ∧ σ 8 = .sc (.int .i64 i) ∧ H' = H.set k2 (.cells (bw (F i)) 5 1)) 32 ?_ ?_
  · refine ⟨0,by omega,?_⟩
    rw [f0]
    simp (disch := omega) only [↓aI,↓zP,aD,zD,aS0,Nat.reduceBEq,Nat.reduceLT,reduceCtorEq,↓reduceIte,Nat.reduceMul,Nat.reduceAdd,Nat.reduceLeDiff,Nat.reduceEqDiff,Int.reduceToNat,Nat.reduceSub,Nat.reduceMod,Nat.reduceDiv,Int.reducePow,Int.reduceLE,Int.reduceNeg,Int.reduceLT,Int.reduceBEq,Int.reduceBNe,Int.reduceEq,Try.facts]
    rfl
  · rintro m σ H' ⟨i,hi,g1,g3,g7,g8,rfl⟩
    have hl := fl i
    by_cases hlt : i < 32
    · have hb : decide ((i : Int) < 32) = true := dT (by omega)
      have ha := hat i hlt
      have hby := hbo i hlt
      have hput := put_bytes (l := F i) (i := i) (b := UInt8.ofNat (n / 256 ^ i % 256)) (by omega)
      rw [fs i hlt,← hby,ofNat_mod] at hput
      have hfl := gz (F i)
      have w1 : IntKind.i64.wrap ((i / 8 : Nat) : Int) = ((i / 8 : Nat) : Int) := iw (by omega)
      have w2 : IntKind.i64.wrap (8 * ((i % 8 : Nat) : Int)) = ((8 * (i % 8) : Nat) : Int) := by rw [iw (by omega)]; omega
      have b2 : decide (((8 * (i % 8) : Nat) : Int) < 0) = false := dF (by omega)
      have hmin : min (8 * (i % 8)) 64 = 8 * (i % 8) := by omega
      have w3 : IntKind.i64.wrap ((i : Int) + 1) = ((i + 1 : Nat) : Int) := by rw [iw (by omega)]; rfl
      generalize W.getD (i / 8) 0 = x at *
      have hmul : (8 * (((i % 8 : Nat)) : Int)) = ((8 * (i % 8) : Nat) : Int) := by omega
      generalize hF' : F (i + 1) = F' at *
      simp (disch := omega) only [↓aI,↓zP,aD,zD,aS0,Nat.reduceBEq,Nat.reduceLT,reduceCtorEq,↓reduceIte,Nat.reduceMul,Nat.reduceAdd,Nat.reduceLeDiff,Nat.reduceEqDiff,Int.reduceToNat,Nat.reduceSub,Nat.reduceMod,Nat.reduceDiv,Int.reducePow,Int.reduceLE,Int.reduceNeg,Int.reduceLT,Int.reduceBEq,Int.reduceBNe,Int.reduceEq,Try.facts,g1,g3,g7,g8,hb,ha,hwl,jd,tdivN,w1,w2,w3,b2,bits_u64,hmin,shrN,hmul,↓jC,hl,hfl,hput]
      exact ⟨m - 1,by omega,i + 1,by omega,rfl,by rw [hF']⟩
    · obtain rfl : i = 32 := by omega
      have hb : decide (((32 : Nat) : Int) < 32) = false := by decide
      have hfl := gz (F 32)
      simp (disch := omega) only [↓aI,↓zP,aD,zD,aS0,Nat.reduceBEq,Nat.reduceLT,reduceCtorEq,↓reduceIte,Nat.reduceMul,Nat.reduceAdd,Nat.reduceLeDiff,Nat.reduceEqDiff,Int.reduceToNat,Nat.reduceSub,Nat.reduceMod,Nat.reduceDiv,Int.reducePow,Int.reduceLE,Int.reduceNeg,Int.reduceLT,Int.reduceBEq,Int.reduceBNe,Int.reduceEq,Try.facts,g1,g3,g7,g8,hb,hl]
      rw [hk2']
      refine ⟨?_,Sub.set_new hk2'⟩
      show some (AV.imm 0 ((bw (F 32)).take (32 * 1)) 32) = _
      rw [List.take_of_length_le (by omega)]
      unfold eu
      rw [hl]
def maskL : List UInt8 := [255,255,255,15,252,255,255,15,252,255,255,15,252,255,255,15]
theorem and_mask (x : UInt8) : ∀ i,i < 16 → x &&& maskL.getD i 0 = if i % 4 = 3 then x % 16 else if i % 4 = 0 ∧ 0 < i then x - x % 4 else x := by
  have h1 : x &&& 255 = x := UInt8.toNat.inj (by
    rw [UInt8.toNat_and]
    show x.toNat &&& (2 ^ 8 - 1) = _
    rw [Nat.and_two_pow_sub_one_eq_mod]
    exact Nat.mod_eq_of_lt x.toNat_lt)
  have h2 : x &&& 15 = x % 16 := UInt8.toNat.inj (by
    rw [UInt8.toNat_and,UInt8.toNat_mod]
    exact Nat.and_two_pow_sub_one_eq_mod x.toNat 4)
  have h3 : x &&& 252 = x - x % 4 := by
    have key : ∀ n : Fin 256,n.val &&& 252 = n.val - n.val % 4 := by decide
    apply UInt8.toNat.inj
    have hle : (x % 4).toNat ≤ x.toNat := by rw [UInt8.toNat_mod]; exact Nat.mod_le _ _
    rw [UInt8.toNat_and,UInt8.toNat_sub_of_le _ _ hle,UInt8.toNat_mod]
    exact key ⟨x.toNat,x.toNat_lt⟩
  intro i hi
  have hc : i = 0 ∨ i = 1 ∨ i = 2 ∨ i = 3 ∨ i = 4 ∨ i = 5 ∨ i = 6 ∨ i = 7 ∨ i = 8 ∨ i = 9 ∨ i = 10 ∨ i = 11 ∨ i = 12 ∨ i = 13 ∨ i = 14 ∨ i = 15 := by omega
  rcases hc with rfl | rfl | rfl | rfl | rfl | rfl | rfl | rfl | rfl | rfl | rfl | rfl | rfl | rfl | rfl | rfl <;> simp [maskL,h1,h2,h3]
def cutG (r : List UInt8) (i : Nat) : List UInt8 := (List.range 16).map fun t => if t < i then r.getD t 0 &&& maskL.getD t 0 else 0
theorem cutG_len (r : List UInt8) (i : Nat) : (cutG r i).length = 16 := by simp [cutG]
theorem cutG_zero (r : List UInt8) : cutG r 0 = List.replicate 16 0 := rfl
theorem cutG_end (r : List UInt8) : cutG r 16 = cutL r := by
  unfold cutG cutL
  refine List.map_congr_left fun t ht => ?_
  have h := List.mem_range.1 ht
  rw [if_pos h,and_mask _ t h]
theorem cutG_set (r : List UInt8) {i : Nat} (h : i < 16) : (cutG r i).set i (r.getD i 0 &&& maskL.getD i 0) = cutG r (i + 1) := by
  apply List.ext_getElem (by rw [List.length_set,cutG_len,cutG_len])
  intro t h1 h2
  by_cases e : i = t
  · subst e
    rw [List.getElem_set_self]
    simp [cutG]
  · rw [List.getElem_set_ne e]
    simp only [cutG,List.getElem_map,List.getElem_range]
    by_cases c : t < i
    · rw [if_pos c,if_pos (by omega)]
    · rw [if_neg c,if_neg (by omega)]
theorem scut_pure (r : List UInt8) (hr : r.length = 16) : APure Try.prog 59 [eu r] (.tup [eu (cutL r),.sc (.int .i64 0)]) := by
  have b1 : ((r.length : Int) != 16) = false := by rw [hr]; rfl
  have hel := gz r
  have f0 := cutG_zero r
  have fe := cutG_end r
  have fl := cutG_len r
  have fs := fun i h => cutG_set r (i := i) h
  have hll := cutL_len r
  rw [← fe] at hll ⊢
  generalize cutG r = F at *
  have hml : (bw maskL).length = 16 := rfl
  have hme : [AV.sc (.int .u8 255),.sc (.int .u8 255),.sc (.int .u8 255),.sc (.int .u8 15),.sc (.int .u8 252),.sc (.int .u8 255),.sc (.int .u8 255),.sc (.int .u8 15),.sc (.int .u8 252),.sc (.int .u8 255),.sc (.int .u8 255),.sc (.int .u8 15),.sc (.int .u8 252),.sc (.int .u8 255),.sc (.int .u8 255),.sc (.int .u8 15)] = bw maskL := rfl
  have hmat := fun i (h : i < 16) => encB_get (l := maskL) (i := i) h
  unfold eu
  refine az (c := ⟨Try.prog,30,[(8,[0,0,0,0,0,1,0,0,1,0,0,2]),(1000003,[4])],[],[]⟩) (rs := [ResultVar.tmp 2,ResultVar.tmp 3]) Try.mixed Try.func59 rfl rfl rfl (Nat.le_of_ble_eq_true rfl) (by kernel_rfl) fun H => ?_
  simp (disch := omega) only [↓aI,↓zP,aD,zD,aS0,Nat.reduceBEq,Nat.reduceLT,reduceCtorEq,↓reduceIte,Nat.reduceMul,Nat.reduceAdd,Nat.reduceLeDiff,Nat.reduceEqDiff,Int.reduceToNat,Nat.reduceSub,Nat.reduceMod,Nat.reduceDiv,Int.reducePow,Int.reduceLE,Int.reduceNeg,Int.reduceLT,Int.reduceBEq,Int.reduceBNe,Int.reduceEq,Try.facts,b1]
  intro k hk0 hkn
  simp (disch := omega) only [↓aI,↓zP,aD,zD,aS0,Nat.reduceBEq,Nat.reduceLT,reduceCtorEq,↓reduceIte,Nat.reduceMul,Nat.reduceAdd,Nat.reduceLeDiff,Nat.reduceEqDiff,Int.reduceToNat,Nat.reduceSub,Nat.reduceMod,Nat.reduceDiv,Int.reducePow,Int.reduceLE,Int.reduceNeg,Int.reduceLT,Int.reduceBEq,Int.reduceBNe,Int.reduceEq,Try.facts,set_get,aj hkn,ah]
  intro k2 hk20 hk2
  rw [hme]
  generalize bw maskL = MK at *
  refine br (c := ⟨Try.prog,30,[(8,[0,0,0,0,0,1,0,0,1,0,0,2]),(1000003,[4])],[],[]⟩) Try.mixed (by kernel_rfl) (fun m σ H' => ∃ i : Nat,i + m = 16 ∧ σ 0 = .imm 0 (bw r) r.length ∧ σ 4 = .ip MK 0 ∧ σ 5 = .own k2 0 16 ∧ σ 13 = .sc (.int .i64 16) ∧ σ 14 = .sc (.int .i64 i) ∧ H' = H.set k2 (.cells (bw (F i)) 5 1)) 16 ?_ ?_
  · refine ⟨0,by omega,?_⟩
    rw [f0]
    simp (disch := omega) only [↓aI,↓zP,aD,zD,aS0,Nat.reduceBEq,Nat.reduceLT,reduceCtorEq,↓reduceIte,Nat.reduceMul,Nat.reduceAdd,Nat.reduceLeDiff,Nat.reduceEqDiff,Int.reduceToNat,Nat.reduceSub,Nat.reduceMod,Nat.reduceDiv,Int.reducePow,Int.reduceLE,Int.reduceNeg,Int.reduceLT,Int.reduceBEq,Int.reduceBNe,Int.reduceEq,Try.facts]
    first | rfl | exact ⟨rfl,rfl⟩ | trace_state
  · rintro m σ H' ⟨i,hi,g0,g4,g5,g13,g14,rfl⟩
    have hl := fl i
    by_cases hlt : i < 16
    · have hb : decide ((i : Int) < 16) = true := dT (by omega)
      have ha := encB_get (l := r) (i := i) (by omega)
      have hma := hmat i hlt
      have hput := put_bytes (l := F i) (i := i) (b := r.getD i 0 &&& maskL.getD i 0) (by omega)
      rw [fs i hlt] at hput
      have hn := n8and (r.getD i 0) (maskL.getD i 0)
      have hfl := gz (F i)
      have w3 : IntKind.i64.wrap ((i : Int) + 1) = ((i + 1 : Nat) : Int) := by rw [iw (by omega)]; rfl
      generalize r.getD i 0 = x at *
      generalize maskL.getD i 0 = y at *
      generalize hF' : F (i + 1) = F' at *
      simp (disch := omega) only [↓aI,↓zP,aD,zD,aS0,Nat.reduceBEq,Nat.reduceLT,reduceCtorEq,↓reduceIte,Nat.reduceMul,Nat.reduceAdd,Nat.reduceLeDiff,Nat.reduceEqDiff,Int.reduceToNat,Nat.reduceSub,Nat.reduceMod,Nat.reduceDiv,Int.reducePow,Int.reduceLE,Int.reduceNeg,Int.reduceLT,Int.reduceBEq,Int.reduceBNe,Int.reduceEq,Try.facts,g0,g4,g5,g13,g14,hb,ha,hma,hel,hr,hml,hn,w3,hl,hfl,hput]
      exact ⟨m - 1,by omega,i + 1,by omega,rfl,by rw [hF']⟩
    · obtain rfl : i = 16 := by omega
      have hb : decide (((16 : Nat) : Int) < 16) = false := by decide
      have hfl := gz (F 16)
      simp (disch := omega) only [↓aI,↓zP,aD,zD,aS0,Nat.reduceBEq,Nat.reduceLT,reduceCtorEq,↓reduceIte,Nat.reduceMul,Nat.reduceAdd,Nat.reduceLeDiff,Nat.reduceEqDiff,Int.reduceToNat,Nat.reduceSub,Nat.reduceMod,Nat.reduceDiv,Int.reducePow,Int.reduceLE,Int.reduceNeg,Int.reduceLT,Int.reduceBEq,Int.reduceBNe,Int.reduceEq,Try.facts,g0,g4,g5,g13,g14,hb,hl]
      rw [hk2]
      refine ⟨?_,Sub.set_new hk2⟩
      show some (AV.tup [AV.imm 0 ((bw (F 16)).take (16 * 1)) 16,.sc (.int .i64 0)]) = _
      rw [List.take_of_length_le (by omega)]
end Go.Proofs.Ytibipjdngpjndaa
end
