/-
  Several texts in one: each says what it proves.
  Conditions: none. Lemmas only.
-/
import Derived.Test.YtibipjdngpjndaaBxG1
import Derived.Test.YtibipjdngpjndaaBxG3
set_option linter.all false
section
set_option linter.unusedSimpArgs false
set_option linter.unusedVariables false
set_option maxRecDepth 20000
set_option maxHeartbeats 4000000
namespace Go.Proofs.Ytibipjdngpjndaa
open Go Go.Abs Go.Proofs Go.Box
def numA (l : List Nat) : List AV := l.map fun x : Nat => AV.sc (.int .i64 x)
theorem numA_length (l : List Nat) : (numA l).length = l.length := by simp [numA]
theorem numA_at {l : List Nat} {i : Nat} (h : i < l.length) : (numA l)[i]? = some (.sc (.int .i64 (l.getD i 0 : Nat))) := by simp [numA,List.getD,h]
theorem numA_snoc (l : List Nat) (x : Nat) : numA l ++ [.sc (.int .i64 x)] = numA (l ++ [x]) := by simp [numA]
theorem numA_take (l : List Nat) (n : Nat) : (numA l).take n = numA (l.take n) := by simp [numA]
abbrev rowD (l : List Nat) : AV := .imm 0 (numA l) l.length
abbrev D (n : Nat) : AV := rowD (digs n)
theorem at_pure (l : List Nat) (i : Nat) : APure Try.prog 68 [rowD l,.sc (.int .i64 i)] (.sc (.int .i64 (l.getD i 0 : Nat))) := by
  have hl := numA_length l
  refine az (c := ⟨Try.prog,13,[],[],[]⟩) (rs := [ResultVar.tmp 4]) Try.mixed Try.func68 rfl rfl rfl (Nat.le_of_ble_eq_true rfl) (by kernel_rfl) fun H => ?_
  by_cases h : i < l.length
  · have hb : decide ((i : Int) < (l.length : Int)) = true := dT (by omega)
    have ha := numA_at h
    simp (disch := omega) only [↓aI,↓zP,aD,zD,aS0,Nat.reduceBEq,Nat.reduceLT,reduceCtorEq,↓reduceIte,Nat.reduceMul,Nat.reduceAdd,Nat.reduceLeDiff,Nat.reduceEqDiff,Int.reduceToNat,Nat.reduceSub,Nat.reduceMod,Nat.reduceDiv,Int.reducePow,Int.reduceLE,Int.reduceNeg,Int.reduceLT,Int.reduceBEq,Int.reduceBNe,Int.reduceEq,Try.facts,hb,ha,hl]
    first | exact Abs.Sub.refl _ | trace_state
  · have hb : decide ((i : Int) < (l.length : Int)) = false := dF (by omega)
    have hz : l.getD i 0 = 0 := by simp [List.getD,List.getElem?_eq_none (Nat.le_of_not_lt h)]
    rw [hz]
    simp (disch := omega) only [↓aI,↓zP,aD,zD,aS0,Nat.reduceBEq,Nat.reduceLT,reduceCtorEq,↓reduceIte,Nat.reduceMul,Nat.reduceAdd,Nat.reduceLeDiff,Nat.reduceEqDiff,Int.reduceToNat,Nat.reduceSub,Nat.reduceMod,Nat.reduceDiv,Int.reducePow,Int.reduceLE,Int.reduceNeg,Int.reduceLT,Int.reduceBEq,Int.reduceBNe,Int.reduceEq,Try.facts,hb,hl]
    first | exact Abs.Sub.refl _ | exact ⟨rfl,Abs.Sub.refl _⟩ | trace_state
theorem trim_pure (l : List Nat) (hd : Dg l) (hl : l.length ≤ 1000000000) : APure Try.prog 67 [rowD l] (rowD (trimD l)) := by
  have hll := numA_length l
  refine az (c := ⟨Try.prog,21,[],[],[]⟩) (rs := [ResultVar.tmp 2]) Try.mixed Try.func67 rfl rfl rfl (Nat.le_of_ble_eq_true rfl) (by kernel_rfl) fun H => ?_
  simp (disch := omega) only [↓aI,↓zP,aD,zD,aS0,Nat.reduceBEq,Nat.reduceLT,reduceCtorEq,↓reduceIte,Nat.reduceMul,Nat.reduceAdd,Nat.reduceLeDiff,Nat.reduceEqDiff,Int.reduceToNat,Nat.reduceSub,Nat.reduceMod,Nat.reduceDiv,Int.reducePow,Int.reduceLE,Int.reduceNeg,Int.reduceLT,Int.reduceBEq,Int.reduceBNe,Int.reduceEq,Try.facts]
  refine br (c := ⟨Try.prog,21,[],[],[]⟩) Try.mixed (by kernel_rfl) (fun m σ H' => m ≤ l.length ∧ trimD (l.take m) = trimD l ∧ σ 0 = rowD l ∧ σ 3 = .sc (.int .i64 (m : Nat)) ∧ H' = H) l.length ?_ ?_
  · refine ⟨Nat.le_refl _,by rw [List.take_length],?_⟩
    simp (disch := omega) only [↓aI,↓zP,aD,zD,aS0,Nat.reduceBEq,Nat.reduceLT,reduceCtorEq,↓reduceIte,Nat.reduceMul,Nat.reduceAdd,Nat.reduceLeDiff,Nat.reduceEqDiff,Int.reduceToNat,Nat.reduceSub,Nat.reduceMod,Nat.reduceDiv,Int.reducePow,Int.reduceLE,Int.reduceNeg,Int.reduceLT,Int.reduceBEq,Int.reduceBNe,Int.reduceEq,Try.facts]
  · rintro m σ H' ⟨hm,ht,g0,g3,rfl⟩
    by_cases h0 : m = 0
    · subst h0
      have hb : decide ((0 : Int) < ((0 : Nat) : Int)) = false := by decide
      have hr : trimD l = [] := by rw [← ht]; rfl
      rw [hr]
      simp (disch := omega) only [↓aI,↓zP,aD,zD,aS0,Nat.reduceBEq,Nat.reduceLT,reduceCtorEq,↓reduceIte,Nat.reduceMul,Nat.reduceAdd,Nat.reduceLeDiff,Nat.reduceEqDiff,Int.reduceToNat,Nat.reduceSub,Nat.reduceMod,Nat.reduceDiv,Int.reducePow,Int.reduceLE,Int.reduceNeg,Int.reduceLT,Int.reduceBEq,Int.reduceBNe,Int.reduceEq,Try.facts,g0,g3,hb,hll]
      first | exact ⟨rfl,Abs.Sub.refl _⟩ | trace_state
    · obtain ⟨n,rfl⟩ : ∃ n,m = n + 1 := ⟨m - 1,by omega⟩
      have hb : decide ((0 : Int) < ((n + 1 : Nat) : Int)) = true := dT (by omega)
      have hw : IntKind.i64.wrap (((n + 1 : Nat) : Int) - 1) = (n : Int) := by rw [iw (by omega)]; omega
      have ha : (numA l)[n + 1 - 1]? = some (.sc (.int .i64 (l.getD n 0 : Nat))) := numA_at (l := l) (i := n) (by omega)
      have htk : l.take (n + 1) = l.take n ++ [l.getD n 0] := by
        rw [List.take_succ_eq_append_getElem (by omega)]
        simp [List.getD,show n < l.length by omega]
      by_cases hz : l.getD n 0 = 0
      · have hq : (((l.getD n 0 : Nat) : Int) == 0) = true := by rw [hz]; rfl
        rw [htk,hz,trim_zero] at ht
        generalize l.getD n 0 = y at *
        simp (disch := omega) only [↓aI,↓zP,aD,zD,aS0,Nat.reduceBEq,Nat.reduceLT,reduceCtorEq,↓reduceIte,Nat.reduceMul,Nat.reduceAdd,Nat.reduceLeDiff,Nat.reduceEqDiff,Int.reduceToNat,Nat.reduceSub,Nat.reduceMod,Nat.reduceDiv,Int.reducePow,Int.reduceLE,Int.reduceNeg,Int.reduceLT,Int.reduceBEq,Int.reduceBNe,Int.reduceEq,Try.facts,g0,g3,hb,hw,ha,hll,hq]
        exact ⟨n,by omega,by omega,ht,rfl⟩
      · have hq : (((l.getD n 0 : Nat) : Int) == 0) = false := beq_eq_false_iff_ne.2 fun h => hz (Int.ofNat.inj h)
        have hs : trimD (l.take (n + 1)) = l.take (n + 1) := trim_stop (fun x hx => hd x (List.mem_of_mem_take hx)) (fun x hx => by
          rw [htk,List.getLast?_concat] at hx
          obtain rfl := Option.some.inj hx
          exact hz)
        rw [hs] at ht
        have hlen : (l.take (n + 1)).length = n + 1 := by rw [List.length_take]; omega
        rw [← ht]
        generalize l.getD n 0 = y at *
        simp (disch := omega) only [↓aI,↓zP,aD,zD,aS0,Nat.reduceBEq,Nat.reduceLT,reduceCtorEq,↓reduceIte,Nat.reduceMul,Nat.reduceAdd,Nat.reduceLeDiff,Nat.reduceEqDiff,Int.reduceToNat,Nat.reduceSub,Nat.reduceMod,Nat.reduceDiv,Int.reducePow,Int.reduceLE,Int.reduceNeg,Int.reduceLT,Int.reduceBEq,Int.reduceBNe,Int.reduceEq,Try.facts,g0,g3,hb,hw,ha,hll,hq,numA_take,hlen]
        exact ⟨by rw [Nat.sub_zero]; unfold rowD; rw [hlen],Abs.Sub.refl _⟩
theorem dg_map (b : List UInt8) : Dg (b.map UInt8.toNat) := fun x hx => by
  obtain ⟨y,-,rfl⟩ := List.mem_map.1 hx
  exact y.toNat_lt
theorem read_pure (b : List UInt8) (hb : b.length ≤ 1000000) : APure Try.prog 49 [eu b] (D (numL b)) := by
  have hel := gz b
  have htr := trim_pure (b.map UInt8.toNat) (dg_map b) (by rw [List.length_map]; omega)
  rw [show trimD (b.map UInt8.toNat) = digs (numL b) from rfl] at htr
  have hml : (b.map UInt8.toNat).length = b.length := List.length_map ..
  have hts : ∀ i,i < b.length → (b.map UInt8.toNat).take (i + 1) = (b.map UInt8.toNat).take i ++ [(b.getD i 0).toNat] := fun i h => by
    rw [List.take_succ_eq_append_getElem (by rw [hml]; exact h)]
    simp [List.getD,h]
  have htl : ∀ i,i ≤ b.length → ((b.map UInt8.toNat).take i).length = i := fun i h => by rw [List.length_take,hml]; omega
  unfold D rowD at *
  generalize b.map UInt8.toNat = l at *
  generalize digs (numL b) = R at *
  rw [hml] at htr
  unfold eu
  refine az (c := ⟨Try.prog,21,[],[],[]⟩) (rs := [ResultVar.tmp 2]) Try.mixed Try.func49 rfl rfl rfl (Nat.le_of_ble_eq_true rfl) (by kernel_rfl) fun H => ?_
  simp (disch := omega) only [↓aI,↓zP,aD,zD,aS0,Nat.reduceBEq,Nat.reduceLT,reduceCtorEq,↓reduceIte,Nat.reduceMul,Nat.reduceAdd,Nat.reduceLeDiff,Nat.reduceEqDiff,Int.reduceToNat,Nat.reduceSub,Nat.reduceMod,Nat.reduceDiv,Int.reducePow,Int.reduceLE,Int.reduceNeg,Int.reduceLT,Int.reduceBEq,Int.reduceBNe,Int.reduceEq,Try.facts]
  refine jn 3 (by simp (disch := omega) only [↓aI,↓zP,aD,zD,aS0,Nat.reduceBEq,Nat.reduceLT,reduceCtorEq,↓reduceIte,Nat.reduceMul,Nat.reduceAdd,Nat.reduceLeDiff,Nat.reduceEqDiff,Int.reduceToNat,Nat.reduceSub,Nat.reduceMod,Nat.reduceDiv,Int.reducePow,Int.reduceLE,Int.reduceNeg,Int.reduceLT,Int.reduceBEq,Int.reduceBNe,Int.reduceEq,Try.facts]) fun k hk0 hk => ?_
  refine br (c := ⟨Try.prog,21,[],[],[]⟩) Try.mixed (by kernel_rfl) (fun m σ H' => ∃ i k o,i + m = b.length ∧ σ 0 = .imm 0 (bw b) b.length ∧ σ 4 = .sc (.int .i64 (i : Nat)) ∧ k ≠ 0 ∧ H k = none ∧ H' = H.set k o ∧ cy 3 1 o i ∧ σ 3 = .imm k (numA (l.take i)) i) b.length ?_ ?_
  · refine ⟨0,k,.nilt,by omega,?_⟩
    simp (disch := omega) only [↓aI,↓zP,aD,zD,aS0,Nat.reduceBEq,Nat.reduceLT,reduceCtorEq,↓reduceIte,Nat.reduceMul,Nat.reduceAdd,Nat.reduceLeDiff,Nat.reduceEqDiff,Int.reduceToNat,Nat.reduceSub,Nat.reduceMod,Nat.reduceDiv,Int.reducePow,Int.reduceLE,Int.reduceNeg,Int.reduceLT,Int.reduceBEq,Int.reduceBNe,Int.reduceEq,Try.facts]
    first | exact ⟨hk0,hk,rfl⟩ | exact ⟨hk0,hk⟩ | trace_state
  · clear hk0 hk
    clear k
    rintro m σ H' ⟨i,k,o,hi,g0,g4,hk0,hk,rfl,ho,g3⟩
    have hal : (numA (l.take i)).length = i := by rw [numA_length,htl i (by omega)]
    by_cases hlt : i < b.length
    · have hb2 : decide ((i : Int) < (b.length : Int)) = true := dT (by omega)
      have ha := encB_get (l := b) (i := i) hlt
      have hs := hts i hlt
      have hx := (b.getD i 0).toNat_lt
      generalize (b.getD i 0).toNat = x at *
      have w1 : IntKind.i64.wrap (x : Int) = (x : Int) := iw (by omega)
      simp (disch := omega) only [↓aI,↓zP,aD,zD,aS0,Nat.reduceBEq,Nat.reduceLT,reduceCtorEq,↓reduceIte,Nat.reduceMul,Nat.reduceAdd,Nat.reduceLeDiff,Nat.reduceEqDiff,Int.reduceToNat,Nat.reduceSub,Nat.reduceMod,Nat.reduceDiv,Int.reducePow,Int.reduceLE,Int.reduceNeg,Int.reduceLT,Int.reduceBEq,Int.reduceBNe,Int.reduceEq,Try.facts,g0,g3,g4,hb2,ha,hel,w1,hk0,ho,hal]
      intro k' o' hk0' hk' ho'
      exact ⟨m - 1,by omega,i + 1,k',o',by omega,rfl,hk0',am hk',rfl,by simpa [hal] using ho',by rw [hs,← numA_snoc]⟩
    · obtain rfl : i = b.length := by omega
      have hb2 : decide ((b.length : Int) < (b.length : Int)) = false := by simp
      rw [List.take_of_length_le (by omega)] at g3
      simp (disch := omega) only [↓aI,↓zP,aD,zD,aS0,Nat.reduceBEq,Nat.reduceLT,reduceCtorEq,↓reduceIte,Nat.reduceMul,Nat.reduceAdd,Nat.reduceLeDiff,Nat.reduceEqDiff,Int.reduceToNat,Nat.reduceSub,Nat.reduceMod,Nat.reduceDiv,Int.reducePow,Int.reduceLE,Int.reduceNeg,Int.reduceLT,Int.reduceBEq,Int.reduceBNe,Int.reduceEq,Try.facts,g0,g3,g4,hb2,hel]
      first | refine CallK.p (htr) ?_ | refine CallP.i (htr) ?_
      simp (disch := omega) only [↓aI,↓zP,aD,zD,aS0,Nat.reduceBEq,Nat.reduceLT,reduceCtorEq,↓reduceIte,Nat.reduceMul,Nat.reduceAdd,Nat.reduceLeDiff,Nat.reduceEqDiff,Int.reduceToNat,Nat.reduceSub,Nat.reduceMod,Nat.reduceDiv,Int.reducePow,Int.reduceLE,Int.reduceNeg,Int.reduceLT,Int.reduceBEq,Int.reduceBNe,Int.reduceEq,Try.facts]
      first | exact Sub.set_new hk | trace_state
theorem dlen {n k : Nat} (h : n < 256 ^ k) : (digs n).length ≤ k := digs_len_le h
theorem sum_pure (a b : Nat) (ha : (digs a).length ≤ 1000) (hb : (digs b).length ≤ 1000) : APure Try.prog 50 [D a,D b] (D (a + b)) := by
  have c1 := fun i => at_pure (digs a) i
  have c2 := fun i => at_pure (digs b) i
  simp only [digs_get] at c1 c2
  obtain ⟨n,hn⟩ : ∃ n,n = max (digs a).length (digs b).length + 1 := ⟨_,rfl⟩
  have la := digs_lt_pow a
  have lb := digs_lt_pow b
  have lt : a + b < 256 ^ n := by
    have h1 : 256 ^ (digs a).length ≤ 256 ^ (n - 1) := Nat.pow_le_pow_right (by decide) (by omega)
    have h2 : 256 ^ (digs b).length ≤ 256 ^ (n - 1) := Nat.pow_le_pow_right (by decide) (by omega)
    have h3 : 256 ^ n = 256 ^ (n - 1) * 256 := by rw [← Nat.pow_succ]; congr 1; omega
    omega
  have htr := trim_pure (fstD n (a + b)) (fstD_ok n _) (by rw [fstD_len]; omega)
  rw [trim_fst lt] at htr
  unfold rowD at htr
  rw [fstD_len] at htr
  have hal := numA_length (digs a)
  have hbl := numA_length (digs b)
  have hmx : (if ((digs a).length : Int) < ((digs b).length : Int) then ((digs b).length : Int) else ((digs a).length : Int)) = ((n - 1 : Nat) : Int) := by split <;> omega
  unfold D rowD at *
  generalize hA : digs a = A at *
  generalize hB : digs b = B at *
  generalize digs (a + b) = R at *
  refine az (c := ⟨Try.prog,36,[],[],[]⟩) (rs := [ResultVar.tmp 4]) Try.mixed Try.func50 rfl rfl rfl (Nat.le_of_ble_eq_true rfl) (by kernel_rfl) fun H => ?_
  simp (disch := omega) only [↓aI,↓zP,aD,zD,aS0,Nat.reduceBEq,Nat.reduceLT,reduceCtorEq,↓reduceIte,Nat.reduceMul,Nat.reduceAdd,Nat.reduceLeDiff,Nat.reduceEqDiff,Int.reduceToNat,Nat.reduceSub,Nat.reduceMod,Nat.reduceDiv,Int.reducePow,Int.reduceLE,Int.reduceNeg,Int.reduceLT,Int.reduceBEq,Int.reduceBNe,Int.reduceEq,Try.facts]
  refine jn 5 (by simp (disch := omega) only [↓aI,↓zP,aD,zD,aS0,Nat.reduceBEq,Nat.reduceLT,reduceCtorEq,↓reduceIte,Nat.reduceMul,Nat.reduceAdd,Nat.reduceLeDiff,Nat.reduceEqDiff,Int.reduceToNat,Nat.reduceSub,Nat.reduceMod,Nat.reduceDiv,Int.reducePow,Int.reduceLE,Int.reduceNeg,Int.reduceLT,Int.reduceBEq,Int.reduceBNe,Int.reduceEq,Try.facts]) fun k hk0 hk => ?_
  refine br (c := ⟨Try.prog,36,[],[],[]⟩) Try.mixed (by kernel_rfl) (fun m σ H' => ∃ i k o,i + m = n ∧ σ 0 = .imm 0 (numA A) A.length ∧ σ 1 = .imm 0 (numA B) B.length ∧ σ 6 = .sc (.int .i64 ((a % 256 ^ i + b % 256 ^ i) / 256 ^ i : Nat)) ∧ σ 7 = .sc (.int .i64 (i : Nat)) ∧ k ≠ 0 ∧ H k = none ∧ H' = H.set k o ∧ cy 3 1 o i ∧ σ 5 = .imm k (numA (fstD i (a + b))) i) n ?_ ?_
  · refine ⟨0,k,.nilt,by omega,?_⟩
    rw [show (a % 256 ^ 0 + b % 256 ^ 0) / 256 ^ 0 = 0 by simp [Nat.mod_one]]
    simp (disch := omega) only [↓aI,↓zP,aD,zD,aS0,Nat.reduceBEq,Nat.reduceLT,reduceCtorEq,↓reduceIte,Nat.reduceMul,Nat.reduceAdd,Nat.reduceLeDiff,Nat.reduceEqDiff,Int.reduceToNat,Nat.reduceSub,Nat.reduceMod,Nat.reduceDiv,Int.reducePow,Int.reduceLE,Int.reduceNeg,Int.reduceLT,Int.reduceBEq,Int.reduceBNe,Int.reduceEq,Try.facts]
    first | exact ⟨hk0,hk,rfl⟩ | exact ⟨hk0,hk⟩ | trace_state
  · clear hk0 hk
    clear k
    rintro m σ H' ⟨i,k,o,hi,g0,g1,g6,g7,hk0,hk,rfl,ho,g5⟩
    have hfl : (numA (fstD i (a + b))).length = i := by rw [numA_length,fstD_len]
    by_cases hlt : i < n
    · have hb2 : decide ((i : Int) ≤ ((n - 1 : Nat) : Int)) = true := dT (by omega)
      have hpos : 0 < 256 ^ i := Nat.pow_pos (by decide)
      have d1 := sum_digit (B := 256) a b (256 ^ i) hpos (by decide)
      have d2 := car_le a b (256 ^ i) hpos
      have hfs := fstD_snoc i (a + b)
      rw [← Nat.pow_succ] at d1
      have mA := Nat.mod_lt (a / 256 ^ i) (show 0 < 256 by decide)
      have mB := Nat.mod_lt (b / 256 ^ i) (show 0 < 256 by decide)
      have cA := c1 i
      have cB := c2 i
      obtain ⟨d1,d3⟩ := d1
      rw [← d1] at hfs
      generalize hcn : (a % 256 ^ (i + 1) + b % 256 ^ (i + 1)) / 256 ^ (i + 1) = cn at *
      generalize (a % 256 ^ i + b % 256 ^ i) / 256 ^ i = ca at *
      generalize a / 256 ^ i % 256 = xa at *
      generalize b / 256 ^ i % 256 = xb at *
      have w1 : IntKind.i64.wrap ((xa : Int) + (xb : Int)) = ((xa + xb : Nat) : Int) := by rw [iw (by omega)]; rfl
      have w2 : IntKind.i64.wrap (((xa + xb : Nat) : Int) + (ca : Int)) = ((xa + xb + ca : Nat) : Int) := by rw [iw (by omega)]; rfl
      have w3 : IntKind.i64.wrap (((xa + xb + ca) / 256 : Nat) : Int) = (cn : Int) := by rw [iw (by omega)]; omega
      simp (disch := omega) only [↓aI,↓zP,aD,zD,aS0,Nat.reduceBEq,Nat.reduceLT,reduceCtorEq,↓reduceIte,Nat.reduceMul,Nat.reduceAdd,Nat.reduceLeDiff,Nat.reduceEqDiff,Int.reduceToNat,Nat.reduceSub,Nat.reduceMod,Nat.reduceDiv,Int.reducePow,Int.reduceLE,Int.reduceNeg,Int.reduceLT,Int.reduceBEq,Int.reduceBNe,Int.reduceEq,Try.facts,g0,g1,g5,g6,g7,hmx,hb2,hal,hbl]
      first | refine CallK.p (cA) ?_ | refine CallP.i (cA) ?_
      simp (disch := omega) only [↓aI,↓zP,aD,zD,aS0,Nat.reduceBEq,Nat.reduceLT,reduceCtorEq,↓reduceIte,Nat.reduceMul,Nat.reduceAdd,Nat.reduceLeDiff,Nat.reduceEqDiff,Int.reduceToNat,Nat.reduceSub,Nat.reduceMod,Nat.reduceDiv,Int.reducePow,Int.reduceLE,Int.reduceNeg,Int.reduceLT,Int.reduceBEq,Int.reduceBNe,Int.reduceEq,Try.facts,g0,g1,g5,g6,g7]
      first | refine CallK.p (cB) ?_ | refine CallP.i (cB) ?_
      simp (disch := omega) only [↓aI,↓zP,aD,zD,aS0,Nat.reduceBEq,Nat.reduceLT,reduceCtorEq,↓reduceIte,Nat.reduceMul,Nat.reduceAdd,Nat.reduceLeDiff,Nat.reduceEqDiff,Int.reduceToNat,Nat.reduceSub,Nat.reduceMod,Nat.reduceDiv,Int.reducePow,Int.reduceLE,Int.reduceNeg,Int.reduceLT,Int.reduceBEq,Int.reduceBNe,Int.reduceEq,Try.facts,g0,g1,g5,g6,g7,w1,w2,w3,jd,tdivN,hk0,ho,hfl]
      intro k' o' hk0' hk' ho'
      exact ⟨m - 1,by omega,i + 1,k',o',by omega,by rw [hcn,d3],rfl,hk0',am hk',rfl,by simpa [hfl] using ho',by rw [hfs,← numA_snoc]⟩
    · obtain rfl : i = n := by omega
      have hb2 : decide ((i : Int) ≤ ((i - 1 : Nat) : Int)) = false := dF (by omega)
      simp (disch := omega) only [↓aI,↓zP,aD,zD,aS0,Nat.reduceBEq,Nat.reduceLT,reduceCtorEq,↓reduceIte,Nat.reduceMul,Nat.reduceAdd,Nat.reduceLeDiff,Nat.reduceEqDiff,Int.reduceToNat,Nat.reduceSub,Nat.reduceMod,Nat.reduceDiv,Int.reducePow,Int.reduceLE,Int.reduceNeg,Int.reduceLT,Int.reduceBEq,Int.reduceBNe,Int.reduceEq,Try.facts,g0,g1,g5,g6,g7,hmx,hb2,hal,hbl]
      first | refine CallK.p (htr) ?_ | refine CallP.i (htr) ?_
      simp (disch := omega) only [↓aI,↓zP,aD,zD,aS0,Nat.reduceBEq,Nat.reduceLT,reduceCtorEq,↓reduceIte,Nat.reduceMul,Nat.reduceAdd,Nat.reduceLeDiff,Nat.reduceEqDiff,Int.reduceToNat,Nat.reduceSub,Nat.reduceMod,Nat.reduceDiv,Int.reducePow,Int.reduceLE,Int.reduceNeg,Int.reduceLT,Int.reduceBEq,Int.reduceBNe,Int.reduceEq,Try.facts]
      first | exact Sub.set_new hk | trace_state
theorem less_pure (a b : Nat) (ha : (digs a).length ≤ 1000) (hb : (digs b).length ≤ 1000) : APure Try.prog 69 [D a,D b] (.sc (.bool (decide (a < b)))) := by
  have c1 := fun i => at_pure (digs a) i
  have c2 := fun i => at_pure (digs b) i
  simp only [digs_get] at c1 c2
  obtain ⟨n,hn⟩ : ∃ n,n = max (digs a).length (digs b).length := ⟨_,rfl⟩
  have la := digs_lt_pow a
  have lb := digs_lt_pow b
  have za : a / 256 ^ (n + 1) = 0 := Nat.div_eq_of_lt (Nat.lt_of_lt_of_le la (Nat.pow_le_pow_right (by decide) (by omega)))
  have zb : b / 256 ^ (n + 1) = 0 := Nat.div_eq_of_lt (Nat.lt_of_lt_of_le lb (Nat.pow_le_pow_right (by decide) (by omega)))
  have hal := numA_length (digs a)
  have hbl := numA_length (digs b)
  have hmx : (if ((digs a).length : Int) < ((digs b).length : Int) then ((digs b).length : Int) else ((digs a).length : Int)) = (n : Int) := by split <;> omega
  unfold D rowD at *
  generalize hA : digs a = A at *
  generalize hB : digs b = B at *
  refine az (c := ⟨Try.prog,29,[],[],[]⟩) (rs := [ResultVar.tmp 4]) Try.mixed Try.func69 rfl rfl rfl (Nat.le_of_ble_eq_true rfl) (by kernel_rfl) fun H => ?_
  simp (disch := omega) only [↓aI,↓zP,aD,zD,aS0,Nat.reduceBEq,Nat.reduceLT,reduceCtorEq,↓reduceIte,Nat.reduceMul,Nat.reduceAdd,Nat.reduceLeDiff,Nat.reduceEqDiff,Int.reduceToNat,Nat.reduceSub,Nat.reduceMod,Nat.reduceDiv,Int.reducePow,Int.reduceLE,Int.reduceNeg,Int.reduceLT,Int.reduceBEq,Int.reduceBNe,Int.reduceEq,Try.facts]
  refine br (c := ⟨Try.prog,29,[],[],[]⟩) Try.mixed (by kernel_rfl) (fun m σ H' => ∃ z : Int,z = (m : Int) - 1 ∧ m ≤ n + 1 ∧ a / 256 ^ m = b / 256 ^ m ∧ σ 0 = .imm 0 (numA A) A.length ∧ σ 1 = .imm 0 (numA B) B.length ∧ σ 5 = .sc (.int .i64 z) ∧ H' = H) (n + 1) ?_ ?_
  · refine ⟨(n : Int),by omega,by omega,by rw [za,zb],?_⟩
    simp (disch := omega) only [↓aI,↓zP,aD,zD,aS0,Nat.reduceBEq,Nat.reduceLT,reduceCtorEq,↓reduceIte,Nat.reduceMul,Nat.reduceAdd,Nat.reduceLeDiff,Nat.reduceEqDiff,Int.reduceToNat,Nat.reduceSub,Nat.reduceMod,Nat.reduceDiv,Int.reducePow,Int.reduceLE,Int.reduceNeg,Int.reduceLT,Int.reduceBEq,Int.reduceBNe,Int.reduceEq,Try.facts,hmx,hal,hbl]
  · rintro m σ H' ⟨z,hz,hm,he,g0,g1,g5,rfl⟩
    match m with
    | 0 =>
      obtain rfl : z = -1 := by omega
      have hb2 : decide ((0 : Int) ≤ -1) = false := by decide
      have hd : decide (a < b) = false := by
        rw [Nat.pow_zero,Nat.div_one,Nat.div_one] at he
        rw [he]
        simp
      rw [hd]
      simp (disch := omega) only [↓aI,↓zP,aD,zD,aS0,Nat.reduceBEq,Nat.reduceLT,reduceCtorEq,↓reduceIte,Nat.reduceMul,Nat.reduceAdd,Nat.reduceLeDiff,Nat.reduceEqDiff,Int.reduceToNat,Nat.reduceSub,Nat.reduceMod,Nat.reduceDiv,Int.reducePow,Int.reduceLE,Int.reduceNeg,Int.reduceLT,Int.reduceBEq,Int.reduceBNe,Int.reduceEq,Try.facts,g0,g1,g5,hb2]
      first | exact Abs.Sub.refl _ | exact ⟨rfl,Abs.Sub.refl _⟩ | trace_state
    | i + 1 =>
      obtain rfl : z = (i : Int) := by omega
      have hb2 : decide ((0 : Int) ≤ (i : Int)) = true := by simp
      have cA := c1 i
      have cB := c2 i
      have e1 : a / 256 ^ i = 256 * (a / 256 ^ (i + 1)) + a / 256 ^ i % 256 := by rw [Nat.pow_succ,← Nat.div_div_eq_div_mul]; omega
      have e2 : b / 256 ^ i = 256 * (b / 256 ^ (i + 1)) + b / 256 ^ i % 256 := by rw [Nat.pow_succ,← Nat.div_div_eq_div_mul]; omega
      have hpos : 0 < 256 ^ i := Nat.pow_pos (by decide)
      have f1 := Nat.div_add_mod a (256 ^ i)
      have f2 := Nat.div_add_mod b (256 ^ i)
      have m1 := Nat.mod_lt a hpos
      have m2 := Nat.mod_lt b hpos
      by_cases heq : a / 256 ^ i % 256 = b / 256 ^ i % 256
      · have hq : (((a / 256 ^ i % 256 : Nat) : Int) != ((b / 256 ^ i % 256 : Nat) : Int)) = false := nF (by omega)
        have hw : IntKind.i64.wrap ((i : Int) - 1) = (i : Int) - 1 := iw (by omega)
        have he2 : a / 256 ^ i = b / 256 ^ i := by omega
        generalize a / 256 ^ i % 256 = xa at *
        generalize b / 256 ^ i % 256 = xb at *
        simp (disch := omega) only [↓aI,↓zP,aD,zD,aS0,Nat.reduceBEq,Nat.reduceLT,reduceCtorEq,↓reduceIte,Nat.reduceMul,Nat.reduceAdd,Nat.reduceLeDiff,Nat.reduceEqDiff,Int.reduceToNat,Nat.reduceSub,Nat.reduceMod,Nat.reduceDiv,Int.reducePow,Int.reduceLE,Int.reduceNeg,Int.reduceLT,Int.reduceBEq,Int.reduceBNe,Int.reduceEq,Try.facts,g0,g1,g5,hb2]
        first | refine CallK.p (cA) ?_ | refine CallP.i (cA) ?_
        simp (disch := omega) only [↓aI,↓zP,aD,zD,aS0,Nat.reduceBEq,Nat.reduceLT,reduceCtorEq,↓reduceIte,Nat.reduceMul,Nat.reduceAdd,Nat.reduceLeDiff,Nat.reduceEqDiff,Int.reduceToNat,Nat.reduceSub,Nat.reduceMod,Nat.reduceDiv,Int.reducePow,Int.reduceLE,Int.reduceNeg,Int.reduceLT,Int.reduceBEq,Int.reduceBNe,Int.reduceEq,Try.facts,g0,g1,g5]
        first | refine CallK.p (cB) ?_ | refine CallP.i (cB) ?_
        simp (disch := omega) only [↓aI,↓zP,aD,zD,aS0,Nat.reduceBEq,Nat.reduceLT,reduceCtorEq,↓reduceIte,Nat.reduceMul,Nat.reduceAdd,Nat.reduceLeDiff,Nat.reduceEqDiff,Int.reduceToNat,Nat.reduceSub,Nat.reduceMod,Nat.reduceDiv,Int.reducePow,Int.reduceLE,Int.reduceNeg,Int.reduceLT,Int.reduceBEq,Int.reduceBNe,Int.reduceEq,Try.facts,g0,g1,g5,hq,hw]
        exact ⟨i,by omega,(i : Int) - 1,by omega,by omega,he2,rfl⟩
      · have hq : (((a / 256 ^ i % 256 : Nat) : Int) != ((b / 256 ^ i % 256 : Nat) : Int)) = true := nT (by omega)
        have hlt : decide (((a / 256 ^ i % 256 : Nat) : Int) < ((b / 256 ^ i % 256 : Nat) : Int)) = decide (a < b) := by
          by_cases c : a / 256 ^ i % 256 < b / 256 ^ i % 256
          · have h1 : a / 256 ^ i + 1 ≤ b / 256 ^ i := by omega
            have h2 := Nat.mul_le_mul_left (256 ^ i) h1
            rw [Nat.mul_add,Nat.mul_one] at h2
            rw [dT (by omega),decide_eq_true (by omega)]
          · have h1 : b / 256 ^ i + 1 ≤ a / 256 ^ i := by omega
            have h2 := Nat.mul_le_mul_left (256 ^ i) h1
            rw [Nat.mul_add,Nat.mul_one] at h2
            rw [dF (by omega),decide_eq_false (by omega)]
        generalize a / 256 ^ i % 256 = xa at *
        generalize b / 256 ^ i % 256 = xb at *
        generalize decide (a < b) = r at *
        simp (disch := omega) only [↓aI,↓zP,aD,zD,aS0,Nat.reduceBEq,Nat.reduceLT,reduceCtorEq,↓reduceIte,Nat.reduceMul,Nat.reduceAdd,Nat.reduceLeDiff,Nat.reduceEqDiff,Int.reduceToNat,Nat.reduceSub,Nat.reduceMod,Nat.reduceDiv,Int.reducePow,Int.reduceLE,Int.reduceNeg,Int.reduceLT,Int.reduceBEq,Int.reduceBNe,Int.reduceEq,Try.facts,g0,g1,g5,hb2]
        first | refine CallK.p (cA) ?_ | refine CallP.i (cA) ?_
        simp (disch := omega) only [↓aI,↓zP,aD,zD,aS0,Nat.reduceBEq,Nat.reduceLT,reduceCtorEq,↓reduceIte,Nat.reduceMul,Nat.reduceAdd,Nat.reduceLeDiff,Nat.reduceEqDiff,Int.reduceToNat,Nat.reduceSub,Nat.reduceMod,Nat.reduceDiv,Int.reducePow,Int.reduceLE,Int.reduceNeg,Int.reduceLT,Int.reduceBEq,Int.reduceBNe,Int.reduceEq,Try.facts,g0,g1,g5]
        first | refine CallK.p (cB) ?_ | refine CallP.i (cB) ?_
        simp (disch := omega) only [↓aI,↓zP,aD,zD,aS0,Nat.reduceBEq,Nat.reduceLT,reduceCtorEq,↓reduceIte,Nat.reduceMul,Nat.reduceAdd,Nat.reduceLeDiff,Nat.reduceEqDiff,Int.reduceToNat,Nat.reduceSub,Nat.reduceMod,Nat.reduceDiv,Int.reducePow,Int.reduceLE,Int.reduceNeg,Int.reduceLT,Int.reduceBEq,Int.reduceBNe,Int.reduceEq,Try.facts,g0,g1,g5,hq]
        first | refine CallK.p (cA) ?_ | refine CallP.i (cA) ?_
        simp (disch := omega) only [↓aI,↓zP,aD,zD,aS0,Nat.reduceBEq,Nat.reduceLT,reduceCtorEq,↓reduceIte,Nat.reduceMul,Nat.reduceAdd,Nat.reduceLeDiff,Nat.reduceEqDiff,Int.reduceToNat,Nat.reduceSub,Nat.reduceMod,Nat.reduceDiv,Int.reducePow,Int.reduceLE,Int.reduceNeg,Int.reduceLT,Int.reduceBEq,Int.reduceBNe,Int.reduceEq,Try.facts,g0,g1,g5]
        first | refine CallK.p (cB) ?_ | refine CallP.i (cB) ?_
        simp (disch := omega) only [↓aI,↓zP,aD,zD,aS0,Nat.reduceBEq,Nat.reduceLT,reduceCtorEq,↓reduceIte,Nat.reduceMul,Nat.reduceAdd,Nat.reduceLeDiff,Nat.reduceEqDiff,Int.reduceToNat,Nat.reduceSub,Nat.reduceMod,Nat.reduceDiv,Int.reducePow,Int.reduceLE,Int.reduceNeg,Int.reduceLT,Int.reduceBEq,Int.reduceBNe,Int.reduceEq,Try.facts,g0,g1,g5,hlt]
        first | exact Abs.Sub.refl _ | exact ⟨rfl,Abs.Sub.refl _⟩ | trace_state
theorem minus_pure (a b : Nat) (hab : b ≤ a) (ha : (digs a).length ≤ 1000) (hb : (digs b).length ≤ 1000) : APure Try.prog 70 [D a,D b] (D (a - b)) := by
  have c2 := fun i => at_pure (digs b) i
  simp only [digs_get] at c2
  obtain ⟨n,hn⟩ : ∃ n,n = (digs a).length := ⟨_,rfl⟩
  have la := digs_lt_pow a
  rw [← hn] at la
  have lt : a - b < 256 ^ n := by omega
  have htr := trim_pure (fstD n (a - b)) (fstD_ok n _) (by rw [fstD_len]; omega)
  rw [trim_fst lt] at htr
  unfold rowD at htr
  rw [fstD_len] at htr
  have hal := numA_length (digs a)
  have hag : ∀ i,i < n → (numA (digs a))[i]? = some (.sc (.int .i64 (a / 256 ^ i % 256 : Nat))) := fun i hi => by rw [numA_at (by omega),digs_get]
  unfold D rowD at *
  generalize hA : digs a = A at *
  generalize hB : digs b = B at *
  generalize digs (a - b) = R at *
  refine az (c := ⟨Try.prog,36,[(6,[0,0,0,1,0,0,0,0,0,0,0,0])],[],[]⟩) (rs := [ResultVar.tmp 4]) Try.mixed Try.func70 rfl rfl rfl (Nat.le_of_ble_eq_true rfl) (by kernel_rfl) fun H => ?_
  simp (disch := omega) only [↓aI,↓zP,aD,zD,aS0,Nat.reduceBEq,Nat.reduceLT,reduceCtorEq,↓reduceIte,Nat.reduceMul,Nat.reduceAdd,Nat.reduceLeDiff,Nat.reduceEqDiff,Int.reduceToNat,Nat.reduceSub,Nat.reduceMod,Nat.reduceDiv,Int.reducePow,Int.reduceLE,Int.reduceNeg,Int.reduceLT,Int.reduceBEq,Int.reduceBNe,Int.reduceEq,Try.facts]
  refine jn 5 (by simp (disch := omega) only [↓aI,↓zP,aD,zD,aS0,Nat.reduceBEq,Nat.reduceLT,reduceCtorEq,↓reduceIte,Nat.reduceMul,Nat.reduceAdd,Nat.reduceLeDiff,Nat.reduceEqDiff,Int.reduceToNat,Nat.reduceSub,Nat.reduceMod,Nat.reduceDiv,Int.reducePow,Int.reduceLE,Int.reduceNeg,Int.reduceLT,Int.reduceBEq,Int.reduceBNe,Int.reduceEq,Try.facts]) fun k hk0 hk => ?_
  refine br (c := ⟨Try.prog,36,[(6,[0,0,0,1,0,0,0,0,0,0,0,0])],[],[]⟩) Try.mixed (by kernel_rfl) (fun m σ H' => ∃ i k o,i + m = n ∧ σ 0 = .imm 0 (numA A) A.length ∧ σ 1 = .imm 0 (numA B) B.length ∧ σ 6 = .sc (.int .i64 (bor a b (256 ^ i) : Nat)) ∧ σ 7 = .sc (.int .i64 (i : Nat)) ∧ k ≠ 0 ∧ H k = none ∧ H' = H.set k o ∧ cy 3 1 o i ∧ σ 5 = .imm k (numA (fstD i (a - b))) i) n ?_ ?_
  · refine ⟨0,k,.nilt,by omega,?_⟩
    rw [show bor a b (256 ^ 0) = 0 by simp [bor,Nat.mod_one]]
    simp (disch := omega) only [↓aI,↓zP,aD,zD,aS0,Nat.reduceBEq,Nat.reduceLT,reduceCtorEq,↓reduceIte,Nat.reduceMul,Nat.reduceAdd,Nat.reduceLeDiff,Nat.reduceEqDiff,Int.reduceToNat,Nat.reduceSub,Nat.reduceMod,Nat.reduceDiv,Int.reducePow,Int.reduceLE,Int.reduceNeg,Int.reduceLT,Int.reduceBEq,Int.reduceBNe,Int.reduceEq,Try.facts]
    first | exact ⟨hk0,hk,rfl⟩ | exact ⟨hk0,hk⟩ | trace_state
  · clear hk0 hk
    clear k
    rintro m σ H' ⟨i,k,o,hi,g0,g1,g6,g7,hk0,hk,rfl,ho,g5⟩
    have hfl : (numA (fstD i (a - b))).length = i := by rw [numA_length,fstD_len]
    by_cases hlt : i < n
    · have hb2 : decide ((i : Int) < (A.length : Int)) = true := dT (by omega)
      have hpos : 0 < 256 ^ i := Nat.pow_pos (by decide)
      have d1 := sub_digit (B := 256) a b (256 ^ i) hpos (by decide) hab
      have d2 := bor_le a b (256 ^ i)
      have hfs := fstD_snoc i (a - b)
      rw [← Nat.pow_succ] at d1
      have mA := Nat.mod_lt (a / 256 ^ i) (show 0 < 256 by decide)
      have mB := Nat.mod_lt (b / 256 ^ i) (show 0 < 256 by decide)
      have cB := c2 i
      have ag := hag i hlt
      obtain ⟨d1,d3⟩ := d1
      rw [← d1] at hfs
      generalize hcn : bor a b (256 ^ (i + 1)) = cn at *
      generalize bor a b (256 ^ i) = ca at *
      generalize a / 256 ^ i % 256 = xa at *
      generalize b / 256 ^ i % 256 = xb at *
      have w1 : IntKind.i64.wrap (256 + (xa : Int)) = ((256 + xa : Nat) : Int) := by rw [iw (by omega)]; rfl
      have w2 : IntKind.i64.wrap (((256 + xa : Nat) : Int) - (xb : Int)) = ((256 + xa - xb : Nat) : Int) := by rw [iw (by omega)]; omega
      have w3 : IntKind.i64.wrap (((256 + xa - xb : Nat) : Int) - (ca : Int)) = ((256 + xa - xb - ca : Nat) : Int) := by rw [iw (by omega)]; omega
      have w4 : IntKind.i64.wrap (((256 + xa - xb - ca) / 256 : Nat) : Int) = (((256 + xa - xb - ca) / 256 : Nat) : Int) := iw (by omega)
      have w5 : IntKind.i64.wrap (1 - (((256 + xa - xb - ca) / 256 : Nat) : Int)) = (cn : Int) := by rw [iw (by omega)]; omega
      simp (disch := omega) only [↓aI,↓zP,aD,zD,aS0,Nat.reduceBEq,Nat.reduceLT,reduceCtorEq,↓reduceIte,Nat.reduceMul,Nat.reduceAdd,Nat.reduceLeDiff,Nat.reduceEqDiff,Int.reduceToNat,Nat.reduceSub,Nat.reduceMod,Nat.reduceDiv,Int.reducePow,Int.reduceLE,Int.reduceNeg,Int.reduceLT,Int.reduceBEq,Int.reduceBNe,Int.reduceEq,Try.facts,g0,g1,g5,g6,g7,hb2,hal,ag,w1]
      first | refine CallK.p (cB) ?_ | refine CallP.i (cB) ?_
      simp (disch := omega) only [↓aI,↓zP,aD,zD,aS0,Nat.reduceBEq,Nat.reduceLT,reduceCtorEq,↓reduceIte,Nat.reduceMul,Nat.reduceAdd,Nat.reduceLeDiff,Nat.reduceEqDiff,Int.reduceToNat,Nat.reduceSub,Nat.reduceMod,Nat.reduceDiv,Int.reducePow,Int.reduceLE,Int.reduceNeg,Int.reduceLT,Int.reduceBEq,Int.reduceBNe,Int.reduceEq,Try.facts,g0,g1,g5,g6,g7,w1,w2,w3,w4,w5,jd,tdivN,hk0,ho,hfl]
      intro k' o' hk0' hk' ho'
      exact ⟨m - 1,by omega,i + 1,k',o',by omega,by rw [hcn],rfl,hk0',am hk',rfl,by simpa [hfl] using ho',by rw [hfs,← numA_snoc]⟩
    · obtain rfl : i = n := by omega
      have hb2 : decide ((i : Int) < (A.length : Int)) = false := dF (by omega)
      simp (disch := omega) only [↓aI,↓zP,aD,zD,aS0,Nat.reduceBEq,Nat.reduceLT,reduceCtorEq,↓reduceIte,Nat.reduceMul,Nat.reduceAdd,Nat.reduceLeDiff,Nat.reduceEqDiff,Int.reduceToNat,Nat.reduceSub,Nat.reduceMod,Nat.reduceDiv,Int.reducePow,Int.reduceLE,Int.reduceNeg,Int.reduceLT,Int.reduceBEq,Int.reduceBNe,Int.reduceEq,Try.facts,g0,g1,g5,g6,g7,hb2,hal]
      first | refine CallK.p (htr) ?_ | refine CallP.i (htr) ?_
      simp (disch := omega) only [↓aI,↓zP,aD,zD,aS0,Nat.reduceBEq,Nat.reduceLT,reduceCtorEq,↓reduceIte,Nat.reduceMul,Nat.reduceAdd,Nat.reduceLeDiff,Nat.reduceEqDiff,Int.reduceToNat,Nat.reduceSub,Nat.reduceMod,Nat.reduceDiv,Int.reducePow,Int.reduceLE,Int.reduceNeg,Int.reduceLT,Int.reduceBEq,Int.reduceBNe,Int.reduceEq,Try.facts]
      first | exact Sub.set_new hk | trace_state
end Go.Proofs.Ytibipjdngpjndaa
end
section
set_option linter.unusedSimpArgs false
set_option linter.unusedVariables false
set_option maxRecDepth 20000
set_option maxHeartbeats 4000000
namespace Go.Proofs.Ytibipjdngpjndaa
open Go Go.Abs Go.Proofs Go.Box
theorem digs_P : digs P = 251 :: (List.replicate 15 255 ++ [3]) := by
  have h : valD (251 :: (List.replicate 15 255 ++ [3])) = P := by decide
  rw [← h]
  exact digs_of (by decide) (by decide)
theorem prime_pure : APure Try.prog 53 [] (D P) := by
  unfold D rowD
  rw [digs_P]
  refine az (c := ⟨Try.prog,12,[],[2],[]⟩) (rs := [ResultVar.tmp 0]) Try.mixed Try.func53 rfl rfl rfl (Nat.le_of_ble_eq_true rfl) (by kernel_rfl) fun H => ?_
  simp (disch := omega) only [↓aI,↓zP,aD,zD,aS0,Nat.reduceBEq,Nat.reduceLT,reduceCtorEq,↓reduceIte,Nat.reduceMul,Nat.reduceAdd,Nat.reduceLeDiff,Nat.reduceEqDiff,Int.reduceToNat,Nat.reduceSub,Nat.reduceMod,Nat.reduceDiv,Int.reducePow,Int.reduceLE,Int.reduceNeg,Int.reduceLT,Int.reduceBEq,Int.reduceBNe,Int.reduceEq,Try.facts]
  intro k hk0 hk
  refine br (c := ⟨Try.prog,12,[],[2],[]⟩) Try.mixed (by kernel_rfl) (fun m σ H' => ∃ i k o,i + m = 15 ∧ k ≠ 0 ∧ H k = none ∧ H' = H.set k o ∧ cy 3 1 o (1 + i) ∧ σ 1 = .imm k (numA (251 :: List.replicate i 255)) (1 + i)) 15 ?_ ?_
  · refine ⟨0,k,_,by omega,hk0,hk,rfl,?_⟩
    simp (disch := omega) only [↓aI,↓zP,aD,zD,aS0,Nat.reduceBEq,Nat.reduceLT,reduceCtorEq,↓reduceIte,Nat.reduceMul,Nat.reduceAdd,Nat.reduceLeDiff,Nat.reduceEqDiff,Int.reduceToNat,Nat.reduceSub,Nat.reduceMod,Nat.reduceDiv,Int.reducePow,Int.reduceLE,Int.reduceNeg,Int.reduceLT,Int.reduceBEq,Int.reduceBNe,Int.reduceEq,Try.facts]
    rfl
  · clear hk0 hk
    clear k
    rintro m σ H' ⟨i,k,o,hi,hk0,hk,rfl,ho,g1⟩
    have hl : (numA (251 :: List.replicate i 255)).length = 1 + i := by rw [numA_length]; simp; omega
    by_cases hlt : i < 15
    · have hb : decide (((1 + i : Nat) : Int) < 16) = true := dT (by omega)
      simp (disch := omega) only [↓aI,↓zP,aD,zD,aS0,Nat.reduceBEq,Nat.reduceLT,reduceCtorEq,↓reduceIte,Nat.reduceMul,Nat.reduceAdd,Nat.reduceLeDiff,Nat.reduceEqDiff,Int.reduceToNat,Nat.reduceSub,Nat.reduceMod,Nat.reduceDiv,Int.reducePow,Int.reduceLE,Int.reduceNeg,Int.reduceLT,Int.reduceBEq,Int.reduceBNe,Int.reduceEq,Try.facts,g1,hb,hk0,ho,hl]
      intro k' o' hk0' hk' ho'
      exact ⟨m - 1,by omega,i + 1,k',o',by omega,hk0',am hk',rfl,by simpa [hl,Nat.add_assoc] using ho',by
        rw [List.replicate_succ',← List.cons_append,← numA_snoc]
        rfl⟩
    · obtain rfl : i = 15 := by omega
      have hb : decide (((1 + 15 : Nat) : Int) < 16) = false := by decide
      simp (disch := omega) only [↓aI,↓zP,aD,zD,aS0,Nat.reduceBEq,Nat.reduceLT,reduceCtorEq,↓reduceIte,Nat.reduceMul,Nat.reduceAdd,Nat.reduceLeDiff,Nat.reduceEqDiff,Int.reduceToNat,Nat.reduceSub,Nat.reduceMod,Nat.reduceDiv,Int.reducePow,Int.reduceLE,Int.reduceNeg,Int.reduceLT,Int.reduceBEq,Int.reduceBNe,Int.reduceEq,Try.facts,g1,hb,hk0,ho,hl]
      intro k' o' hk0' hk' ho'
      have e : numA (251 :: List.replicate 15 255) ++ [AV.sc (.int .i64 3)] = numA (251 :: (List.replicate 15 255 ++ [3])) := rfl
      rw [e]
      exact ⟨rfl,Sub.set_new (am hk')⟩
theorem bytesN_get : ∀ {k n i : Nat} (h : i < (bytesN k n).length),(bytesN k n)[i] = UInt8.ofNat (n / 256 ^ i % 256)
  | 0,n,i,h => by simp [bytesN] at h
  | k + 1,n,0,h => by
    simp only [bytesN,List.getElem_cons_zero,Nat.pow_zero,Nat.div_one]
    exact UInt8.toNat.inj (by simp)
  | k + 1,n,i + 1,h => by
    have ih := bytesN_get (k := k) (n := n / 256) (i := i) (by simpa [bytesN] using h)
    simp only [bytesN,List.getElem_cons_succ]
    rw [ih,Nat.div_div_eq_div_mul,Nat.pow_succ,Nat.mul_comm 256]
theorem told_pure (n k : Nat) (hk : k ≤ 1000) (hn : (digs n).length ≤ 1000) : APure Try.prog 54 [D n,.sc (.int .i64 k)] (eu (bytesN k n)) := by
  have c1 := fun i => at_pure (digs n) i
  simp only [digs_get] at c1
  have hTs : ∀ i,i < k → (bytesN k n).take (i + 1) = (bytesN k n).take i ++ [UInt8.ofNat (n / 256 ^ i % 256)] := fun i h => by
    rw [List.take_succ_eq_append_getElem (by rw [bytesN_len]; exact h),bytesN_get]
  have hTl := bytesN_len k n
  have hTt : ∀ i,i ≤ k → ((bytesN k n).take i).length = i := fun i h => by rw [List.length_take,hTl]; omega
  unfold D rowD at *
  unfold eu
  generalize bytesN k n = T at *
  generalize digs n = A at *
  refine az (c := ⟨Try.prog,20,[],[],[]⟩) (rs := [ResultVar.tmp 4]) Try.mixed Try.func54 rfl rfl rfl (Nat.le_of_ble_eq_true rfl) (by kernel_rfl) fun H => ?_
  simp (disch := omega) only [↓aI,↓zP,aD,zD,aS0,Nat.reduceBEq,Nat.reduceLT,reduceCtorEq,↓reduceIte,Nat.reduceMul,Nat.reduceAdd,Nat.reduceLeDiff,Nat.reduceEqDiff,Int.reduceToNat,Nat.reduceSub,Nat.reduceMod,Nat.reduceDiv,Int.reducePow,Int.reduceLE,Int.reduceNeg,Int.reduceLT,Int.reduceBEq,Int.reduceBNe,Int.reduceEq,Try.facts]
  refine jn 5 (by simp (disch := omega) only [↓aI,↓zP,aD,zD,aS0,Nat.reduceBEq,Nat.reduceLT,reduceCtorEq,↓reduceIte,Nat.reduceMul,Nat.reduceAdd,Nat.reduceLeDiff,Nat.reduceEqDiff,Int.reduceToNat,Nat.reduceSub,Nat.reduceMod,Nat.reduceDiv,Int.reducePow,Int.reduceLE,Int.reduceNeg,Int.reduceLT,Int.reduceBEq,Int.reduceBNe,Int.reduceEq,Try.facts]) fun kt hk0 hkt => ?_
  refine br (c := ⟨Try.prog,20,[],[],[]⟩) Try.mixed (by kernel_rfl) (fun m σ H' => ∃ i kt o,i + m = k ∧ σ 0 = .imm 0 (numA A) A.length ∧ σ 1 = .sc (.int .i64 k) ∧ σ 6 = .sc (.int .i64 (i : Nat)) ∧ kt ≠ 0 ∧ H kt = none ∧ H' = H.set kt o ∧ cy 5 1 o i ∧ σ 5 = .imm kt (bw (T.take i)) i) k ?_ ?_
  · refine ⟨0,kt,.nilt,by omega,?_⟩
    simp (disch := omega) only [↓aI,↓zP,aD,zD,aS0,Nat.reduceBEq,Nat.reduceLT,reduceCtorEq,↓reduceIte,Nat.reduceMul,Nat.reduceAdd,Nat.reduceLeDiff,Nat.reduceEqDiff,Int.reduceToNat,Nat.reduceSub,Nat.reduceMod,Nat.reduceDiv,Int.reducePow,Int.reduceLE,Int.reduceNeg,Int.reduceLT,Int.reduceBEq,Int.reduceBNe,Int.reduceEq,Try.facts]
    first | exact ⟨hk0,hkt,rfl⟩ | exact ⟨hk0,hkt⟩ | trace_state
  · clear hk0 hkt
    clear kt
    rintro m σ H' ⟨i,kt,o,hi,g0,g1,g6,hk0,hkt,rfl,ho,g5⟩
    have htl := hTt i (by omega)
    by_cases hlt : i < k
    · have hb2 : decide ((i : Int) < (k : Int)) = true := dT (by omega)
      have hts := hTs i hlt
      have cA := c1 i
      generalize n / 256 ^ i % 256 = x at *
      simp (disch := omega) only [↓aI,↓zP,aD,zD,aS0,Nat.reduceBEq,Nat.reduceLT,reduceCtorEq,↓reduceIte,Nat.reduceMul,Nat.reduceAdd,Nat.reduceLeDiff,Nat.reduceEqDiff,Int.reduceToNat,Nat.reduceSub,Nat.reduceMod,Nat.reduceDiv,Int.reducePow,Int.reduceLE,Int.reduceNeg,Int.reduceLT,Int.reduceBEq,Int.reduceBNe,Int.reduceEq,Try.facts,g0,g1,g5,g6,hb2]
      first | refine CallK.p (cA) ?_ | refine CallP.i (cA) ?_
      simp (disch := omega) only [↓aI,↓zP,aD,zD,aS0,Nat.reduceBEq,Nat.reduceLT,reduceCtorEq,↓reduceIte,Nat.reduceMul,Nat.reduceAdd,Nat.reduceLeDiff,Nat.reduceEqDiff,Int.reduceToNat,Nat.reduceSub,Nat.reduceMod,Nat.reduceDiv,Int.reducePow,Int.reduceLE,Int.reduceNeg,Int.reduceLT,Int.reduceBEq,Int.reduceBNe,Int.reduceEq,Try.facts,g0,g1,g5,g6,↓jC,hk0,ho,htl]
      intro k' o' hk0' hk' ho'
      exact ⟨m - 1,by omega,i + 1,k',o',by omega,rfl,hk0',am hk',rfl,ho',by rw [hts]⟩
    · obtain rfl : i = k := by omega
      have hb2 : decide ((i : Int) < (i : Int)) = false := by simp
      rw [List.take_of_length_le (by omega)] at g5
      simp (disch := omega) only [↓aI,↓zP,aD,zD,aS0,Nat.reduceBEq,Nat.reduceLT,reduceCtorEq,↓reduceIte,Nat.reduceMul,Nat.reduceAdd,Nat.reduceLeDiff,Nat.reduceEqDiff,Int.reduceToNat,Nat.reduceSub,Nat.reduceMod,Nat.reduceDiv,Int.reducePow,Int.reduceLE,Int.reduceNeg,Int.reduceLT,Int.reduceBEq,Int.reduceBNe,Int.reduceEq,Try.facts,g0,g1,g5,g6,hb2]
      rw [hTl]
      first | exact Sub.set_new hkt | exact ⟨rfl,Sub.set_new hkt⟩ | trace_state
def cutF (r : List UInt8) (i j : Nat) : List UInt8 := (List.range 16).map fun t => if t % 4 = 3 ∧ t < i then (r.getD t 0) % 16 else if t % 4 = 0 ∧ 0 < t ∧ t < j then r.getD t 0 - (r.getD t 0) % 4 else r.getD t 0
theorem cutF_len (r : List UInt8) (i j : Nat) : (cutF r i j).length = 16 := by simp [cutF]
theorem cutF_end (r : List UInt8) : cutF r 19 16 = cutL r := by
  unfold cutF cutL
  refine List.map_congr_left fun t ht => ?_
  have := List.mem_range.1 ht
  by_cases h3 : t % 4 = 3
  · rw [if_pos ⟨h3,by omega⟩,if_pos h3]
  · rw [if_neg (fun h => h3 h.1),if_neg h3]
    by_cases h0 : t % 4 = 0 ∧ 0 < t
    · rw [if_pos ⟨h0.1,h0.2,by omega⟩,if_pos h0]
    · rw [if_neg (fun h => h0 ⟨h.1,h.2.1⟩),if_neg h0]
theorem cutF_start {r : List UInt8} (h : r.length = 16) : cutF r 3 4 = r := by
  apply List.ext_getElem (by rw [cutF_len,h])
  intro t h1 h2
  simp only [cutF,List.getElem_map,List.getElem_range]
  rw [if_neg (by omega),if_neg (by omega)]
  simp [List.getD,h2]
theorem cutF_get (r : List UInt8) (i j : Nat) {t : Nat} (h : t < 16) : (cutF r i j).getD t 0 = if t % 4 = 3 ∧ t < i then (r.getD t 0) % 16 else if t % 4 = 0 ∧ 0 < t ∧ t < j then r.getD t 0 - (r.getD t 0) % 4 else r.getD t 0 := by
  simp [cutF,List.getD,h]
theorem cutF_3 (r : List UInt8) {i : Nat} (h : i < 16) (h3 : i % 4 = 3) : (cutF r i 4).set i ((cutF r i 4).getD i 0 % 16) = cutF r (i + 4) 4 := by
  rw [cutF_get r i 4 h,if_neg (by omega),if_neg (by omega)]
  apply List.ext_getElem (by rw [List.length_set,cutF_len,cutF_len])
  intro t h1 h2
  rw [cutF_len] at h2
  by_cases e : i = t
  · subst e
    rw [List.getElem_set_self]
    simp only [cutF,List.getElem_map,List.getElem_range]
    rw [if_pos ⟨h3,by omega⟩]
  · rw [List.getElem_set_ne e]
    simp only [cutF,List.getElem_map,List.getElem_range]
    by_cases c : t % 4 = 3 ∧ t < i
    · rw [if_pos c,if_pos ⟨c.1,by omega⟩]
    · rw [if_neg c,if_neg (by omega : ¬ (t % 4 = 3 ∧ t < i + 4))]
theorem cutF_0 (r : List UInt8) {j : Nat} (h : j < 16) (h3 : j % 4 = 0) (h4 : 4 ≤ j) : (cutF r 19 j).set j ((cutF r 19 j).getD j 0 - (cutF r 19 j).getD j 0 % 4) = cutF r 19 (j + 4) := by
  rw [cutF_get r 19 j h,if_neg (by omega),if_neg (by omega)]
  apply List.ext_getElem (by rw [List.length_set,cutF_len,cutF_len])
  intro t h1 h2
  rw [cutF_len] at h2
  by_cases e : j = t
  · subst e
    rw [List.getElem_set_self]
    simp only [cutF,List.getElem_map,List.getElem_range]
    rw [if_neg (by omega),if_pos ⟨h3,by omega,by omega⟩]
  · rw [List.getElem_set_ne e]
    simp only [cutF,List.getElem_map,List.getElem_range]
    by_cases c : t % 4 = 3 ∧ t < 19
    · rw [if_pos c,if_pos c]
    · rw [if_neg c,if_neg c]
      by_cases c : t % 4 = 0 ∧ 0 < t ∧ t < j
      · rw [if_pos c,if_pos ⟨c.1,c.2.1,by omega⟩]
      · rw [if_neg c,if_neg (by omega : ¬ (t % 4 = 0 ∧ 0 < t ∧ t < j + 4))]
theorem dcut_pure (r : List UInt8) (hr : r.length = 16) : APure Try.prog 48 [eu r] (.tup [eu (cutL r),.sc (.int .i64 0)]) := by
  have b1 : ((r.length : Int) != 16) = false := by rw [hr]; rfl
  have hel := gz r
  have hcs := cutF_start hr
  have hce := cutF_end r
  have hcl := cutF_len r
  have hc3 := fun i h h3 => cutF_3 r (i := i) h h3
  have hc0 := fun j h h3 h4 => cutF_0 r (j := j) h h3 h4
  have hl2 := cutL_len r
  generalize cutL r = R at *
  generalize hF : cutF r = F at *
  clear hF
  refine az (c := ⟨Try.prog,43,[(11,[0,0,0,0,0,1,0,0,0,1,0,0,0,2])],[1000010,1000012],[]⟩) (rs := [ResultVar.tmp 2,ResultVar.tmp 3]) Try.mixed Try.func48 rfl rfl rfl (Nat.le_of_ble_eq_true rfl) (by kernel_rfl) fun H => ?_
  simp (disch := omega) only [↓aI,↓zP,aD,zD,aS0,Nat.reduceBEq,Nat.reduceLT,reduceCtorEq,↓reduceIte,Nat.reduceMul,Nat.reduceAdd,Nat.reduceLeDiff,Nat.reduceEqDiff,Int.reduceToNat,Nat.reduceSub,Nat.reduceMod,Nat.reduceDiv,Int.reducePow,Int.reduceLE,Int.reduceNeg,Int.reduceLT,Int.reduceBEq,Int.reduceBNe,Int.reduceEq,Try.facts,b1,hel,hr]
  intro kz hkz0 hkz kw hkw
  have hwn : H kw = none := by
    rcases hkw with rfl | ⟨_,h⟩
    · exact hkz
    · exact am h
  try rw [ef hkz]
  refine br (c := ⟨Try.prog,43,[(11,[0,0,0,0,0,1,0,0,0,1,0,0,0,2])],[1000010,1000012],[]⟩) Try.mixed (by kernel_rfl) (fun m σ H' => ∃ i,i + 4 * m = 19 ∧ i % 4 = 3 ∧ σ 4 = .own kw 0 16 ∧ σ 5 = .sc (.int .i64 (i : Nat)) ∧ H' = H.set kw (.cells (bw (F i 4)) 5 1)) 4 ?_ ?_
  · refine ⟨3,by omega,by omega,?_⟩
    simp (disch := omega) only [↓aI,↓zP,aD,zD,aS0,Nat.reduceBEq,Nat.reduceLT,reduceCtorEq,↓reduceIte,Nat.reduceMul,Nat.reduceAdd,Nat.reduceLeDiff,Nat.reduceEqDiff,Int.reduceToNat,Nat.reduceSub,Nat.reduceMod,Nat.reduceDiv,Int.reducePow,Int.reduceLE,Int.reduceNeg,Int.reduceLT,Int.reduceBEq,Int.reduceBNe,Int.reduceEq,Try.facts]
    rw [hcs]
  · rintro m σ H' ⟨i,hi,hi4,g4,g5,rfl⟩
    have hFl := hcl i 4
    by_cases hlt : i < 16
    · have hb : decide ((i : Int) < 16) = true := dT (by omega)
      have ha := encB_get (l := F i 4) (i := i) (by omega)
      have hn := hc3 i hlt hi4
      have hm : (((F i 4).getD i 0).toNat % 16 : Nat) = ((F i 4).getD i 0 % 16).toNat := by simp
      have hput := put_bytes (l := F i 4) (i := i) (b := (F i 4).getD i 0 % 16) (by omega)
      rw [hn] at hput
      have hl := gz (F i 4)
      have w1 : IntKind.i64.wrap ((i : Int) + 4) = ((i + 4 : Nat) : Int) := by rw [iw (by omega)]; rfl
      have w2 : IntKind.u8.wrap (((F i 4).getD i 0 % 16).toNat : Int) = (((F i 4).getD i 0 % 16).toNat : Int) := wrapU8 (by have := ((F i 4).getD i 0 % 16).toNat_lt; omega)
      generalize F i 4 = X at *
      generalize hY : F (i + 4) 4 = Y at *
      simp (disch := omega) only [↓aI,↓zP,aD,zD,aS0,Nat.reduceBEq,Nat.reduceLT,reduceCtorEq,↓reduceIte,Nat.reduceMul,Nat.reduceAdd,Nat.reduceLeDiff,Nat.reduceEqDiff,Int.reduceToNat,Nat.reduceSub,Nat.reduceMod,Nat.reduceDiv,Int.reducePow,Int.reduceLE,Int.reduceNeg,Int.reduceLT,Int.reduceBEq,Int.reduceBNe,Int.reduceEq,Try.facts,g4,g5,hb,ha,hl,hFl,jd,hm,w1,w2,hput]
      exact ⟨m - 1,by omega,i + 4,by omega,by omega,rfl,by rw [hY]⟩
    · obtain rfl : i = 19 := by omega
      have hb : decide (((19 : Nat) : Int) < 16) = false := by decide
      simp (disch := omega) only [↓aI,↓zP,aD,zD,aS0,Nat.reduceBEq,Nat.reduceLT,reduceCtorEq,↓reduceIte,Nat.reduceMul,Nat.reduceAdd,Nat.reduceLeDiff,Nat.reduceEqDiff,Int.reduceToNat,Nat.reduceSub,Nat.reduceMod,Nat.reduceDiv,Int.reducePow,Int.reduceLE,Int.reduceNeg,Int.reduceLT,Int.reduceBEq,Int.reduceBNe,Int.reduceEq,Try.facts,g4,g5,hb]
      refine br (c := ⟨Try.prog,43,[(11,[0,0,0,0,0,1,0,0,0,1,0,0,0,2])],[1000010,1000012],[]⟩) Try.mixed (by kernel_rfl) (fun m σ H' => ∃ j,j + 4 * m = 16 ∧ j % 4 = 0 ∧ 4 ≤ j ∧ σ 4 = .own kw 0 16 ∧ σ 6 = .sc (.int .i64 (j : Nat)) ∧ H' = H.set kw (.cells (bw (F 19 j)) 5 1)) 3 ?_ ?_
      · refine ⟨4,by omega,by omega,by omega,?_⟩
        simp (disch := omega) only [↓aI,↓zP,aD,zD,aS0,Nat.reduceBEq,Nat.reduceLT,reduceCtorEq,↓reduceIte,Nat.reduceMul,Nat.reduceAdd,Nat.reduceLeDiff,Nat.reduceEqDiff,Int.reduceToNat,Nat.reduceSub,Nat.reduceMod,Nat.reduceDiv,Int.reducePow,Int.reduceLE,Int.reduceNeg,Int.reduceLT,Int.reduceBEq,Int.reduceBNe,Int.reduceEq,Try.facts,g4]
      · clear g4 g5 hFl hb hi hi4 hlt
        clear σ m
        rintro m σ H' ⟨j,hj,hj4,hj0,g4,g6,rfl⟩
        have hFl := hcl 19 j
        by_cases hlt : j < 16
        · have hb : decide ((j : Int) < 16) = true := dT (by omega)
          have ha := encB_get (l := F 19 j) (i := j) (by omega)
          have hn := hc0 j hlt hj4 hj0
          have hm : (((F 19 j).getD j 0).toNat % 4 : Nat) = ((F 19 j).getD j 0 % 4).toNat := by simp
          have hput := put_bytes (l := F 19 j) (i := j) (b := (F 19 j).getD j 0 - (F 19 j).getD j 0 % 4) (by omega)
          rw [hn] at hput
          have hl := gz (F 19 j)
          have w1 : IntKind.i64.wrap ((j : Int) + 4) = ((j + 4 : Nat) : Int) := by rw [iw (by omega)]; rfl
          have w2 : IntKind.u8.wrap (((F 19 j).getD j 0 % 4).toNat : Int) = (((F 19 j).getD j 0 % 4).toNat : Int) := wrapU8 (by have := ((F 19 j).getD j 0 % 4).toNat_lt; omega)
          have w3 : IntKind.u8.wrap ((((F 19 j).getD j 0).toNat : Int) - (((F 19 j).getD j 0 % 4).toNat : Int)) = (((F 19 j).getD j 0 - (F 19 j).getD j 0 % 4).toNat : Int) := by
            have h1 : ((F 19 j).getD j 0 % 4).toNat ≤ ((F 19 j).getD j 0).toNat := by rw [← hm]; exact Nat.mod_le _ _
            have h2 := ((F 19 j).getD j 0).toNat_lt
            rw [wrapU8 (by omega),UInt8.toNat_sub_of_le _ _ h1]
            omega
          generalize F 19 j = X at *
          generalize hY : F 19 (j + 4) = Y at *
          simp (disch := omega) only [↓aI,↓zP,aD,zD,aS0,Nat.reduceBEq,Nat.reduceLT,reduceCtorEq,↓reduceIte,Nat.reduceMul,Nat.reduceAdd,Nat.reduceLeDiff,Nat.reduceEqDiff,Int.reduceToNat,Nat.reduceSub,Nat.reduceMod,Nat.reduceDiv,Int.reducePow,Int.reduceLE,Int.reduceNeg,Int.reduceLT,Int.reduceBEq,Int.reduceBNe,Int.reduceEq,Try.facts,g4,g6,hb,ha,hl,hFl,jd,hm,w1,w2,w3,hput]
          exact ⟨m - 1,by omega,j + 4,by omega,by omega,by omega,rfl,by rw [hY]⟩
        · obtain rfl : j = 16 := by omega
          have hb : decide (((16 : Nat) : Int) < 16) = false := by decide
          simp (disch := omega) only [↓aI,↓zP,aD,zD,aS0,Nat.reduceBEq,Nat.reduceLT,reduceCtorEq,↓reduceIte,Nat.reduceMul,Nat.reduceAdd,Nat.reduceLeDiff,Nat.reduceEqDiff,Int.reduceToNat,Nat.reduceSub,Nat.reduceMod,Nat.reduceDiv,Int.reducePow,Int.reduceLE,Int.reduceNeg,Int.reduceLT,Int.reduceBEq,Int.reduceBNe,Int.reduceEq,Try.facts,g4,g6,hb]
          rw [hce,hwn]
          refine ⟨?_,by omega,Sub.set_new hwn⟩
          show some (AV.tup [AV.imm 0 ((bw R).take (16 * 1)) 16,AV.sc (.int .i64 0)]) = _
          rw [List.take_of_length_le (by rw [gz]; omega)]
          unfold eu
          rw [hl2]
end Go.Proofs.Ytibipjdngpjndaa
end
