/-
  Several texts in one: each says what it proves.
  Conditions: none. Lemmas only.
-/
import Derived.Test.YtibipjdngpjndaaBxG6
set_option linter.all false
section
set_option linter.unusedSimpArgs false
set_option linter.unusedVariables false
set_option maxRecDepth 20000
set_option maxHeartbeats 4000000
namespace Go.Proofs.Ytibipjdngpjndaa
open Go Go.Abs Go.Proofs Go.Box
theorem sturn_pure (x n : Nat) (hx : x < 4294967296) (hn : n ≤ 32) : APure Try.prog 71 [.sc (.int .u32 x),.sc (.int .i64 n)] (.sc (.int .u32 (rlM x n : Nat))) := by
  have e := Go.Sha.rot_or (w := 32) (lt32 hx) (n := 32 - n) (by omega)
  rw [show 32 - (32 - n) = n by omega,Nat.or_comm] at e
  have h1 : x / 2 ^ (32 - n) < 4294967296 := Nat.lt_of_le_of_lt (Nat.div_le_self _ _) hx
  have h2 : x * 2 ^ n % 4294967296 < 4294967296 := Nat.mod_lt _ (by decide)
  have e2 : x * 2 ^ n % 4294967296 ||| x / 2 ^ (32 - n) = rlM x n := e
  have h3 : ((32 : Int) - (n : Int)) = ((32 - n : Nat) : Int) := by omega
  have h4 : IntKind.i64.wrap (((32 - n : Nat) : Int)) = ((32 - n : Nat) : Int) := iw (by omega)
  have b1 : decide ((n : Int) < 0) = false := dF (by omega)
  have b2 : decide (((32 - n : Nat) : Int) < 0) = false := dF (by omega)
  rw [← e2]
  refine az (c := ⟨Try.prog,13,[(1,[0,0,0,0,0,0,0,0,0])],[],[]⟩) (rs := [ResultVar.tmp 4]) Try.mixed Try.func71 rfl rfl rfl (Nat.le_of_ble_eq_true rfl) (by kernel_rfl) fun H => ?_
  simp (disch := omega) only [↓aI,↓zP,aD,zD,aS0,Nat.reduceBEq,Nat.reduceLT,reduceCtorEq,↓reduceIte,Nat.reduceMul,Nat.reduceAdd,Nat.reduceLeDiff,Nat.reduceEqDiff,Int.reduceToNat,Nat.reduceSub,Nat.reduceMod,Nat.reduceDiv,Int.reducePow,Int.reduceLE,Int.reduceNeg,Int.reduceLT,Int.reduceBEq,Int.reduceBNe,Int.reduceEq,Try.facts,bits_u32,minL,shl32,shrN,bits_or32 h2 h1,h3,h4,b1,b2]
  first | exact Abs.Sub.refl _ | trace_state
theorem or_add {a b k : Nat} (h : a < 2 ^ k) : a ||| (b * 2 ^ k) = a + 2 ^ k * b := by
  rw [Nat.or_comm,Nat.mul_comm,← Nat.two_pow_add_eq_or_of_lt h,Nat.add_comm]
theorem sword_pure (b : List UInt8) (hb : 4 ≤ b.length) (hl : b.length ≤ 1000) : APure Try.prog 57 [eu b] (.sc (.int .u32 (leM b 0 : Nat))) := by
  have a0 := encB_get (l := b) (i := 0) (by omega)
  have a1 := encB_get (l := b) (i := 1) (by omega)
  have a2 := encB_get (l := b) (i := 2) (by omega)
  have a3 := encB_get (l := b) (i := 3) (by omega)
  have hel := gz b
  have hle : leM b 0 = (b.getD 0 0).toNat + 256 * (b.getD 1 0).toNat + 65536 * (b.getD 2 0).toNat + 16777216 * (b.getD 3 0).toNat := rfl
  rw [hle]
  have l0 := (b.getD 0 0).toNat_lt
  have l1 := (b.getD 1 0).toNat_lt
  have l2 := (b.getD 2 0).toNat_lt
  have l3 := (b.getD 3 0).toNat_lt
  generalize (b.getD 0 0).toNat = x0 at *
  generalize (b.getD 1 0).toNat = x1 at *
  generalize (b.getD 2 0).toNat = x2 at *
  generalize (b.getD 3 0).toNat = x3 at *
  have w : ∀ x : Nat,x < 256 → IntKind.u32.wrap (x : Int) = (x : Int) := fun x h => by rw [wcast32,Nat.mod_eq_of_lt (by omega)]
  have w0 := w x0 (by omega)
  have w1 := w x1 (by omega)
  have w2 := w x2 (by omega)
  have w3 := w x3 (by omega)
  have s1 : IntKind.u32.wrap ((x1 : Int) * 2 ^ min 8 32) = ((x1 * 2 ^ 8 : Nat) : Int) := by rw [show min 8 32 = 8 from rfl,shl32,Nat.mod_eq_of_lt (by omega)]
  have s2 : IntKind.u32.wrap ((x2 : Int) * 2 ^ min 16 32) = ((x2 * 2 ^ 16 : Nat) : Int) := by rw [show min 16 32 = 16 from rfl,shl32,Nat.mod_eq_of_lt (by omega)]
  have s3 : IntKind.u32.wrap ((x3 : Int) * 2 ^ min 24 32) = ((x3 * 2 ^ 24 : Nat) : Int) := by rw [show min 24 32 = 24 from rfl,shl32,Nat.mod_eq_of_lt (by omega)]
  have o1 : bits .or .u32 (x0 : Int) ((x1 * 2 ^ 8 : Nat) : Int) = ((x0 + 256 * x1 : Nat) : Int) := by rw [bits_or32 (by omega) (by omega),or_add (by omega)]
  have o2 : bits .or .u32 ((x0 + 256 * x1 : Nat) : Int) ((x2 * 2 ^ 16 : Nat) : Int) = ((x0 + 256 * x1 + 65536 * x2 : Nat) : Int) := by rw [bits_or32 (by omega) (by omega),or_add (by omega)]
  have o3 : bits .or .u32 ((x0 + 256 * x1 + 65536 * x2 : Nat) : Int) ((x3 * 2 ^ 24 : Nat) : Int) = ((x0 + 256 * x1 + 65536 * x2 + 16777216 * x3 : Nat) : Int) := by rw [bits_or32 (by omega) (by omega),or_add (by omega)]
  unfold eu
  refine az (c := ⟨Try.prog,25,[(1,[0,0,1,0,0,0,1,0,0,0,0,0,1,0,0,0,0,0,1,0,0,0,0])],[],[]⟩) (rs := [ResultVar.tmp 2]) Try.mixed Try.func57 rfl rfl rfl (Nat.le_of_ble_eq_true rfl) (by kernel_rfl) fun H => ?_
  simp (disch := omega) only [↓aI,↓zP,aD,zD,aS0,Nat.reduceBEq,Nat.reduceLT,reduceCtorEq,↓reduceIte,Nat.reduceMul,Nat.reduceAdd,Nat.reduceLeDiff,Nat.reduceEqDiff,Int.reduceToNat,Nat.reduceSub,Nat.reduceMod,Nat.reduceDiv,Int.reducePow,Int.reduceLE,Int.reduceNeg,Int.reduceLT,Int.reduceBEq,Int.reduceBNe,Int.reduceEq,Try.facts,a0,a1,a2,a3,hel,bits_u32,w0,w1,w2,w3,s1,s2,s3,o1,o2,o3]
  exact Abs.Sub.refl _
def qA (q : Q4) : List AV := [.sc (.int .u32 q.a),.sc (.int .u32 q.b),.sc (.int .u32 q.c),.sc (.int .u32 q.d)]
theorem fD {H : AH} {a b : Nat} {x y : AObj} (h : ¬ a = b) : (H.set b x).set a y = (H.set a y).set b x := by
  funext z
  simp only [AH.set]
  by_cases e1 : z = a
  · subst e1; simp [h]
  · by_cases e2 : z = b
    · subst e2; simp [e1]
    · simp [e1,e2]
def halvesM (q : Q4) : Nat → Q4
  | 0 => q
  | 1 => halfM q 16 12
  | _ => quartM q
theorem squart_pure (q : Q4) (h : OkQ q) : APure Try.prog 58 [.agg (qA q)] (.agg (qA (quartM q))) := by
  refine az (c := ⟨Try.prog,43,[(1000003,[4])],[],[]⟩) (rs := [ResultVar.cell 2 83]) Try.mixed Try.func58 rfl rfl rfl (Nat.le_of_ble_eq_true rfl) (by kernel_rfl) fun H => ?_
  simp (disch := omega) only [↓aI,↓zP,aD,zD,aS0,Nat.reduceBEq,Nat.reduceLT,reduceCtorEq,↓reduceIte,Nat.reduceMul,Nat.reduceAdd,Nat.reduceLeDiff,Nat.reduceEqDiff,Int.reduceToNat,Nat.reduceSub,Nat.reduceMod,Nat.reduceDiv,Int.reducePow,Int.reduceLE,Int.reduceNeg,Int.reduceLT,Int.reduceBEq,Int.reduceBNe,Int.reduceEq,Try.facts,qA]
  intro k hk0 hk k2 hk20 hk2
  have n2 := bK hk2
  have hk2' := am hk2
  obtain ⟨z,hz⟩ : ∃ z : AObj,z = .cells [.sc (.int .u32 0),.sc (.int .u32 0),.sc (.int .u32 0),.sc (.int .u32 0)] 83 4 := ⟨_,rfl⟩
  rw [← hz,fD (fun e => n2 e.symm)]
  obtain ⟨E,hE⟩ : ∃ E,E = H.set k2 z := ⟨_,rfl⟩
  rw [← hE]
  refine br (c := ⟨Try.prog,43,[(1000003,[4])],[],[]⟩) Try.mixed (by kernel_rfl) (fun m σ H' => ∃ i : Nat,i + m = 2 ∧ σ 1 = .ptr k 0 ∧ σ 2 = .ptr k2 0 ∧ σ 7 = .agg [.sc (.int .i64 16),.sc (.int .i64 12),.sc (.int .i64 8),.sc (.int .i64 7)] ∧ σ 8 = .sc (.int .i64 i) ∧ H' = E.set k (.cells (qA (halvesM q i)) 83 4)) 2 ?_ ?_
  · refine ⟨0,by omega,?_⟩
    simp (disch := omega) only [↓aI,↓zP,aD,zD,aS0,Nat.reduceBEq,Nat.reduceLT,reduceCtorEq,↓reduceIte,Nat.reduceMul,Nat.reduceAdd,Nat.reduceLeDiff,Nat.reduceEqDiff,Int.reduceToNat,Nat.reduceSub,Nat.reduceMod,Nat.reduceDiv,Int.reducePow,Int.reduceLE,Int.reduceNeg,Int.reduceLT,Int.reduceBEq,Int.reduceBNe,Int.reduceEq,Try.facts]
    rfl
  · rintro m σ H' ⟨i,hi,g1,g2,g7,g8,rfl⟩
    have hc4 : i = 0 ∨ i = 1 ∨ i = 2 := by omega
    rcases hc4 with rfl | rfl | rfl
    · obtain rfl : m = 2 := by omega
      have hok : OkQ (halvesM q 0) := h
      have hst : halvesM q (0 + 1) = halfM (halvesM q 0) 16 12 := rfl
      generalize halvesM q 0 = Q at *
      obtain ⟨a,b,c,d⟩ := Q
      have hok2 := half_ok hok 16 12
      unfold halfM at hst hok2
      obtain ⟨l1,l2,l3,l4⟩ := hok
      obtain ⟨k1,k2',k3,k4⟩ := hok2
      simp only at l1 l2 l3 l4 k1 k2' k3 k4 hst
      have ha : (a + b) % 4294967296 = eU a b := rfl
      generalize eU a b = A1 at *
      have x1 := x32 l4 k1
      have c1 := sturn_pure (d ^^^ A1) 16 x1 (by omega)
      have b1 := bits_xor32 l4 k1
      generalize rlM (d ^^^ A1) 16 = D1 at *
      have hc : (c + D1) % 4294967296 = eU c D1 := rfl
      generalize eU c D1 = C1 at *
      have x2 := x32 l2 k3
      have c2 := sturn_pure (b ^^^ C1) 12 x2 (by omega)
      have b2 := bits_xor32 l2 k3
      generalize rlM (b ^^^ C1) 12 = B1 at *
      simp (disch := omega) only [↓aI,↓zP,aD,zD,aS0,Nat.reduceBEq,Nat.reduceLT,reduceCtorEq,↓reduceIte,Nat.reduceMul,Nat.reduceAdd,Nat.reduceLeDiff,Nat.reduceEqDiff,Int.reduceToNat,Nat.reduceSub,Nat.reduceMod,Nat.reduceDiv,Int.reducePow,Int.reduceLE,Int.reduceNeg,Int.reduceLT,Int.reduceBEq,Int.reduceBNe,Int.reduceEq,Try.facts,g1,g2,g7,g8,qA]
      intro k3 hk30 hk3
      have n3 := bK hk3
      simp (disch := omega) only [↓aI,↓zP,aD,zD,aS0,Nat.reduceBEq,Nat.reduceLT,reduceCtorEq,↓reduceIte,Nat.reduceMul,Nat.reduceAdd,Nat.reduceLeDiff,Nat.reduceEqDiff,Int.reduceToNat,Nat.reduceSub,Nat.reduceMod,Nat.reduceDiv,Int.reducePow,Int.reduceLE,Int.reduceNeg,Int.reduceLT,Int.reduceBEq,Int.reduceBNe,Int.reduceEq,Try.facts,g1,g2,g7,g8,set_get,aP0 n3,aj hk3,wadd32,ha,ah,set_set,b1]
      first | refine CallK.p (c1) ?_ | refine CallP.i (c1) ?_
      simp (disch := omega) only [↓aI,↓zP,aD,zD,aS0,Nat.reduceBEq,Nat.reduceLT,reduceCtorEq,↓reduceIte,Nat.reduceMul,Nat.reduceAdd,Nat.reduceLeDiff,Nat.reduceEqDiff,Int.reduceToNat,Nat.reduceSub,Nat.reduceMod,Nat.reduceDiv,Int.reducePow,Int.reduceLE,Int.reduceNeg,Int.reduceLT,Int.reduceBEq,Int.reduceBNe,Int.reduceEq,Try.facts,g1,g2,g7,g8,set_get,ah,set_set,wadd32,hc,b2]
      first | refine CallK.p (c2) ?_ | refine CallP.i (c2) ?_
      simp (disch := omega) only [↓aI,↓zP,aD,zD,aS0,Nat.reduceBEq,Nat.reduceLT,reduceCtorEq,↓reduceIte,Nat.reduceMul,Nat.reduceAdd,Nat.reduceLeDiff,Nat.reduceEqDiff,Int.reduceToNat,Nat.reduceSub,Nat.reduceMod,Nat.reduceDiv,Int.reducePow,Int.reduceLE,Int.reduceNeg,Int.reduceLT,Int.reduceBEq,Int.reduceBNe,Int.reduceEq,Try.facts,g1,g2,g7,g8,set_get,ah,set_set]
      exact ⟨1,by omega,1,by omega,rfl,by rw [hst]⟩
    · obtain rfl : m = 1 := by omega
      have hok : OkQ (halvesM q 1) := half_ok h 16 12
      have hst : halvesM q (1 + 1) = halfM (halvesM q 1) 8 7 := rfl
      generalize halvesM q 1 = Q at *
      obtain ⟨a,b,c,d⟩ := Q
      have hok2 := half_ok hok 8 7
      unfold halfM at hst hok2
      obtain ⟨l1,l2,l3,l4⟩ := hok
      obtain ⟨k1,k2',k3,k4⟩ := hok2
      simp only at l1 l2 l3 l4 k1 k2' k3 k4 hst
      have ha : (a + b) % 4294967296 = eU a b := rfl
      generalize eU a b = A1 at *
      have x1 := x32 l4 k1
      have c1 := sturn_pure (d ^^^ A1) 8 x1 (by omega)
      have b1 := bits_xor32 l4 k1
      generalize rlM (d ^^^ A1) 8 = D1 at *
      have hc : (c + D1) % 4294967296 = eU c D1 := rfl
      generalize eU c D1 = C1 at *
      have x2 := x32 l2 k3
      have c2 := sturn_pure (b ^^^ C1) 7 x2 (by omega)
      have b2 := bits_xor32 l2 k3
      generalize rlM (b ^^^ C1) 7 = B1 at *
      simp (disch := omega) only [↓aI,↓zP,aD,zD,aS0,Nat.reduceBEq,Nat.reduceLT,reduceCtorEq,↓reduceIte,Nat.reduceMul,Nat.reduceAdd,Nat.reduceLeDiff,Nat.reduceEqDiff,Int.reduceToNat,Nat.reduceSub,Nat.reduceMod,Nat.reduceDiv,Int.reducePow,Int.reduceLE,Int.reduceNeg,Int.reduceLT,Int.reduceBEq,Int.reduceBNe,Int.reduceEq,Try.facts,g1,g2,g7,g8,qA]
      intro k3 hk30 hk3
      have n3 := bK hk3
      simp (disch := omega) only [↓aI,↓zP,aD,zD,aS0,Nat.reduceBEq,Nat.reduceLT,reduceCtorEq,↓reduceIte,Nat.reduceMul,Nat.reduceAdd,Nat.reduceLeDiff,Nat.reduceEqDiff,Int.reduceToNat,Nat.reduceSub,Nat.reduceMod,Nat.reduceDiv,Int.reducePow,Int.reduceLE,Int.reduceNeg,Int.reduceLT,Int.reduceBEq,Int.reduceBNe,Int.reduceEq,Try.facts,g1,g2,g7,g8,set_get,aP0 n3,aj hk3,wadd32,ha,ah,set_set,b1]
      first | refine CallK.p (c1) ?_ | refine CallP.i (c1) ?_
      simp (disch := omega) only [↓aI,↓zP,aD,zD,aS0,Nat.reduceBEq,Nat.reduceLT,reduceCtorEq,↓reduceIte,Nat.reduceMul,Nat.reduceAdd,Nat.reduceLeDiff,Nat.reduceEqDiff,Int.reduceToNat,Nat.reduceSub,Nat.reduceMod,Nat.reduceDiv,Int.reducePow,Int.reduceLE,Int.reduceNeg,Int.reduceLT,Int.reduceBEq,Int.reduceBNe,Int.reduceEq,Try.facts,g1,g2,g7,g8,set_get,ah,set_set,wadd32,hc,b2]
      first | refine CallK.p (c2) ?_ | refine CallP.i (c2) ?_
      simp (disch := omega) only [↓aI,↓zP,aD,zD,aS0,Nat.reduceBEq,Nat.reduceLT,reduceCtorEq,↓reduceIte,Nat.reduceMul,Nat.reduceAdd,Nat.reduceLeDiff,Nat.reduceEqDiff,Int.reduceToNat,Nat.reduceSub,Nat.reduceMod,Nat.reduceDiv,Int.reducePow,Int.reduceLE,Int.reduceNeg,Int.reduceLT,Int.reduceBEq,Int.reduceBNe,Int.reduceEq,Try.facts,g1,g2,g7,g8,set_get,ah,set_set]
      exact ⟨0,by omega,2,by omega,rfl,by rw [hst]⟩
    · have hq : halvesM q 2 = quartM q := rfl
      rw [hq]
      have v2 : E k2 = some (.cells [.sc (.int .u32 0),.sc (.int .u32 0),.sc (.int .u32 0),.sc (.int .u32 0)] 83 4) := by rw [hE,← hz]; exact set_get
      simp (disch := omega) only [↓aI,↓zP,aD,zD,aS0,Nat.reduceBEq,Nat.reduceLT,reduceCtorEq,↓reduceIte,Nat.reduceMul,Nat.reduceAdd,Nat.reduceLeDiff,Nat.reduceEqDiff,Int.reduceToNat,Nat.reduceSub,Nat.reduceMod,Nat.reduceDiv,Int.reducePow,Int.reduceLE,Int.reduceNeg,Int.reduceLT,Int.reduceBEq,Int.reduceBNe,Int.reduceEq,Try.facts,g1,g2,g7,g8,set_get,qA,v2,aP0 n2,aP0 (fun e => n2 e.symm),ah]
      rw [hE]
      exact ((Sub.set_new hk2').set_free hk).set_free hk2'
end Go.Proofs.Ytibipjdngpjndaa
end
section
set_option linter.unusedSimpArgs false
set_option linter.unusedVariables false
set_option maxRecDepth 20000
set_option maxHeartbeats 4000000
namespace Go.Proofs.Ytibipjdngpjndaa
open Go Go.Abs Go.Proofs Go.Box
theorem u32A_strip (l : List Nat) : (u32A l).map AV.strip0 = u32A l := by simp [u32A,AV.strip0]
def stF (key nonce : List UInt8) (c i j : Nat) : List Nat := [1634760805,857760878,2036477234,1797285236] ++ ((List.range 8).map fun t => if t < i then leM key t else 0) ++ [c] ++ ((List.range 3).map fun t => if t < j then leM nonce t else 0)
theorem stF_len (key nonce : List UInt8) (c i j : Nat) : (stF key nonce c i j).length = 16 := by simp [stF]
theorem stF_end (key nonce : List UInt8) (c : Nat) : stF key nonce c 8 3 = stateM key nonce c := rfl
theorem stF_key (key nonce : List UInt8) (c : Nat) : ∀ i,i < 8 → (stF key nonce c i 0).set (4 + i) (leM key i) = stF key nonce c (i + 1) 0 := fun i h => by
  have : i = 0 ∨ i = 1 ∨ i = 2 ∨ i = 3 ∨ i = 4 ∨ i = 5 ∨ i = 6 ∨ i = 7 := by omega
  rcases this with rfl | rfl | rfl | rfl | rfl | rfl | rfl | rfl <;> rfl
theorem stF_non (key nonce : List UInt8) (c : Nat) : ∀ i,i < 3 → (stF key nonce c 8 i).set (13 + i) (leM nonce i) = stF key nonce c 8 (i + 1) := fun i h => by
  have : i = 0 ∨ i = 1 ∨ i = 2 := by omega
  rcases this with rfl | rfl | rfl <;> rfl
theorem leM_drop (b : List UInt8) (i : Nat) : leM (b.drop (4 * i)) 0 = leM b i := by
  unfold leM
  simp [List.getD,List.getElem?_drop,Nat.add_comm]
theorem sstate_pure (key nonce : List UInt8) (c : Nat) (hk : key.length = 32) (hn : nonce.length = 12) (hc : c < 4294967296) : APure Try.prog 38 [eu key,eu nonce,.sc (.int .u32 c)] (.agg (u32A (stateM key nonce c))) := by
  have hkl := gz key
  have hnl := gz nonce
  have c1 : ∀ i,i < 8 → APure Try.prog 57 [.imm 0 (bw (key.drop (4 * i))) (32 - 4 * i)] (.sc (.int .u32 (leM key i : Nat))) := fun i h => by
    have hl : (key.drop (4 * i)).length = 32 - 4 * i := by rw [List.length_drop,hk]
    have h1 := sword_pure (key.drop (4 * i)) (by omega) (by omega)
    rw [leM_drop] at h1
    unfold eu at h1
    rw [hl] at h1
    exact h1
  have c2 : ∀ i,i < 3 → APure Try.prog 57 [.imm 0 (bw (nonce.drop (4 * i))) (12 - 4 * i)] (.sc (.int .u32 (leM nonce i : Nat))) := fun i h => by
    have hl : (nonce.drop (4 * i)).length = 12 - 4 * i := by rw [List.length_drop,hn]
    have h1 := sword_pure (nonce.drop (4 * i)) (by omega) (by omega)
    rw [leM_drop] at h1
    unfold eu at h1
    rw [hl] at h1
    exact h1
  have f1 := stF_key key nonce c
  have f2 := stF_non key nonce c
  have fe := stF_end key nonce c
  have fl := stF_len key nonce c
  have f0 : u32A (stF key nonce c 0 0) = [.sc (.int .u32 1634760805),.sc (.int .u32 857760878),.sc (.int .u32 2036477234),.sc (.int .u32 1797285236),.sc (.int .u32 0),.sc (.int .u32 0),.sc (.int .u32 0),.sc (.int .u32 0),.sc (.int .u32 0),.sc (.int .u32 0),.sc (.int .u32 0),.sc (.int .u32 0),.sc (.int .u32 c),.sc (.int .u32 0),.sc (.int .u32 0),.sc (.int .u32 0)] := rfl
  rw [← fe]
  generalize stF key nonce c = F at *
  refine az (c := ⟨Try.prog,37,[],[],[]⟩) (rs := [ResultVar.cell 6 62]) Try.mixed Try.func38 rfl rfl rfl (Nat.le_of_ble_eq_true rfl) (by kernel_rfl) fun H => ?_
  simp (disch := omega) only [↓aI,↓zP,aD,zD,aS0,Nat.reduceBEq,Nat.reduceLT,reduceCtorEq,↓reduceIte,Nat.reduceMul,Nat.reduceAdd,Nat.reduceLeDiff,Nat.reduceEqDiff,Int.reduceToNat,Nat.reduceSub,Nat.reduceMod,Nat.reduceDiv,Int.reducePow,Int.reduceLE,Int.reduceNeg,Int.reduceLT,Int.reduceBEq,Int.reduceBNe,Int.reduceEq,Try.facts]
  intro k hk0 hkn
  intro k2 hk20 hk2
  have n2 := bK hk2
  have hk2' := am hk2
  obtain ⟨z,hz⟩ : ∃ z : AObj,z = .cells [.sc (.int .u32 0),.sc (.int .u32 0),.sc (.int .u32 0),.sc (.int .u32 0),.sc (.int .u32 0),.sc (.int .u32 0),.sc (.int .u32 0),.sc (.int .u32 0),.sc (.int .u32 0),.sc (.int .u32 0),.sc (.int .u32 0),.sc (.int .u32 0),.sc (.int .u32 0),.sc (.int .u32 0),.sc (.int .u32 0),.sc (.int .u32 0)] 62 16 := ⟨_,rfl⟩
  rw [← hz]
  rw [← hz] at hk2
  obtain ⟨E,hE⟩ : ∃ E,E = H.set k z := ⟨_,rfl⟩
  rw [← hE]
  refine br (c := ⟨Try.prog,37,[],[],[]⟩) Try.mixed (by kernel_rfl) (fun m σ H' => ∃ i : Nat,i + m = 8 ∧ σ 0 = .imm 0 (bw key) 32 ∧ σ 1 = .imm 0 (bw nonce) 12 ∧ σ 6 = .ptr k 0 ∧ σ 7 = .ptr k2 0 ∧ σ 12 = .sc (.int .i64 i) ∧ H' = E.set k2 (.cells (u32A (F i 0)) 62 16)) 8 ?_ ?_
  · refine ⟨0,by omega,?_⟩
    rw [f0]
    unfold eu
    rw [hk,hn]
    simp (disch := omega) only [↓aI,↓zP,aD,zD,aS0,Nat.reduceBEq,Nat.reduceLT,reduceCtorEq,↓reduceIte,Nat.reduceMul,Nat.reduceAdd,Nat.reduceLeDiff,Nat.reduceEqDiff,Int.reduceToNat,Nat.reduceSub,Nat.reduceMod,Nat.reduceDiv,Int.reducePow,Int.reduceLE,Int.reduceNeg,Int.reduceLT,Int.reduceBEq,Int.reduceBNe,Int.reduceEq,Try.facts]
    first | rfl | exact ⟨rfl,rfl⟩ | trace_state
  · rintro m σ H' ⟨i,hi,g0,g1,g6,g7,g12,rfl⟩
    have hl := fl i 0
    have hfl : (u32A (F i 0)).length = 16 := by rw [u32A_length,hl]
    by_cases hlt : i < 8
    · have hb : decide ((i : Int) < 8) = true := dT (by omega)
      have w1 : (4 + (i : Int)).toNat = 4 + i := by omega
      have w2 : IntKind.i64.wrap (4 * (i : Int)) = ((4 * i : Nat) : Int) := by rw [iw (by omega)]; rfl
      have w3 : IntKind.i64.wrap ((i : Int) + 1) = ((i + 1 : Nat) : Int) := by rw [iw (by omega)]; rfl
      have hput := u32A_put (l := F i 0) (i := 4 + i) (x := leM key i) (by omega)
      rw [f1 i hlt] at hput
      have cw := c1 i hlt
      have htk : (key.drop (4 * i)).take (32 - 4 * i) = key.drop (4 * i) := List.take_of_length_le (by rw [List.length_drop]; omega)
      simp (disch := omega) only [↓aI,↓zP,aD,zD,aS0,Nat.reduceBEq,Nat.reduceLT,reduceCtorEq,↓reduceIte,Nat.reduceMul,Nat.reduceAdd,Nat.reduceLeDiff,Nat.reduceEqDiff,Int.reduceToNat,Nat.reduceSub,Nat.reduceMod,Nat.reduceDiv,Int.reducePow,Int.reduceLE,Int.reduceNeg,Int.reduceLT,Int.reduceBEq,Int.reduceBNe,Int.reduceEq,Try.facts,g0,g1,g6,g7,g12,hb,w1,w2,hkl,hk,encB_drop,encB_take,htk]
      first | refine CallK.p (cw) ?_ | refine CallP.i (cw) ?_
      simp (disch := omega) only [↓aI,↓zP,aD,zD,aS0,Nat.reduceBEq,Nat.reduceLT,reduceCtorEq,↓reduceIte,Nat.reduceMul,Nat.reduceAdd,Nat.reduceLeDiff,Nat.reduceEqDiff,Int.reduceToNat,Nat.reduceSub,Nat.reduceMod,Nat.reduceDiv,Int.reducePow,Int.reduceLE,Int.reduceNeg,Int.reduceLT,Int.reduceBEq,Int.reduceBNe,Int.reduceEq,Try.facts,g0,g1,g6,g7,g12,set_get,set_set,hfl,hput,w1,w3]
      exact ⟨m - 1,by omega,i + 1,by omega,rfl,rfl⟩
    · obtain rfl : i = 8 := by omega
      have hb : decide (((8 : Nat) : Int) < 8) = false := by decide
      simp (disch := omega) only [↓aI,↓zP,aD,zD,aS0,Nat.reduceBEq,Nat.reduceLT,reduceCtorEq,↓reduceIte,Nat.reduceMul,Nat.reduceAdd,Nat.reduceLeDiff,Nat.reduceEqDiff,Int.reduceToNat,Nat.reduceSub,Nat.reduceMod,Nat.reduceDiv,Int.reducePow,Int.reduceLE,Int.reduceNeg,Int.reduceLT,Int.reduceBEq,Int.reduceBNe,Int.reduceEq,Try.facts,g0,g1,g6,g7,g12,hb]
      refine br (c := ⟨Try.prog,37,[],[],[]⟩) Try.mixed (by kernel_rfl) (fun m σ H' => ∃ i : Nat,i + m = 3 ∧ σ 0 = .imm 0 (bw key) 32 ∧ σ 1 = .imm 0 (bw nonce) 12 ∧ σ 6 = .ptr k 0 ∧ σ 7 = .ptr k2 0 ∧ σ 24 = .sc (.int .i64 i) ∧ H' = E.set k2 (.cells (u32A (F 8 i)) 62 16)) 3 ?_ ?_
      · refine ⟨0,by omega,?_⟩
        simp (disch := omega) only [↓aI,↓zP,aD,zD,aS0,Nat.reduceBEq,Nat.reduceLT,reduceCtorEq,↓reduceIte,Nat.reduceMul,Nat.reduceAdd,Nat.reduceLeDiff,Nat.reduceEqDiff,Int.reduceToNat,Nat.reduceSub,Nat.reduceMod,Nat.reduceDiv,Int.reducePow,Int.reduceLE,Int.reduceNeg,Int.reduceLT,Int.reduceBEq,Int.reduceBNe,Int.reduceEq,Try.facts,g0,g1,g6,g7]
        first | rfl | exact ⟨rfl,rfl⟩ | trace_state
      · clear g0 g1 g6 g7 g12 hb hi hlt hfl hl
        clear σ m
        rintro m σ H' ⟨i,hi,g0,g1,g6,g7,g24,rfl⟩
        have hl := fl 8 i
        have hfl : (u32A (F 8 i)).length = 16 := by rw [u32A_length,hl]
        by_cases hlt : i < 3
        · have hb : decide ((i : Int) < 3) = true := dT (by omega)
          have w1 : (13 + (i : Int)).toNat = 13 + i := by omega
          have w2 : IntKind.i64.wrap (4 * (i : Int)) = ((4 * i : Nat) : Int) := by rw [iw (by omega)]; rfl
          have w3 : IntKind.i64.wrap ((i : Int) + 1) = ((i + 1 : Nat) : Int) := by rw [iw (by omega)]; rfl
          have hput := u32A_put (l := F 8 i) (i := 13 + i) (x := leM nonce i) (by omega)
          rw [f2 i hlt] at hput
          have cw := c2 i hlt
          have htk : (nonce.drop (4 * i)).take (12 - 4 * i) = nonce.drop (4 * i) := List.take_of_length_le (by rw [List.length_drop]; omega)
          simp (disch := omega) only [↓aI,↓zP,aD,zD,aS0,Nat.reduceBEq,Nat.reduceLT,reduceCtorEq,↓reduceIte,Nat.reduceMul,Nat.reduceAdd,Nat.reduceLeDiff,Nat.reduceEqDiff,Int.reduceToNat,Nat.reduceSub,Nat.reduceMod,Nat.reduceDiv,Int.reducePow,Int.reduceLE,Int.reduceNeg,Int.reduceLT,Int.reduceBEq,Int.reduceBNe,Int.reduceEq,Try.facts,g0,g1,g6,g7,g24,hb,w1,w2,hnl,hn,encB_drop,encB_take,htk]
          first | refine CallK.p (cw) ?_ | refine CallP.i (cw) ?_
          simp (disch := omega) only [↓aI,↓zP,aD,zD,aS0,Nat.reduceBEq,Nat.reduceLT,reduceCtorEq,↓reduceIte,Nat.reduceMul,Nat.reduceAdd,Nat.reduceLeDiff,Nat.reduceEqDiff,Int.reduceToNat,Nat.reduceSub,Nat.reduceMod,Nat.reduceDiv,Int.reducePow,Int.reduceLE,Int.reduceNeg,Int.reduceLT,Int.reduceBEq,Int.reduceBNe,Int.reduceEq,Try.facts,g0,g1,g6,g7,g24,set_get,set_set,hfl,hput,w1,w3]
          exact ⟨m - 1,by omega,i + 1,by omega,rfl,rfl⟩
        · obtain rfl : i = 3 := by omega
          have hb : decide (((3 : Nat) : Int) < 3) = false := by decide
          have v1 : E k = some z := by rw [hE]; exact set_get
          rw [hz] at v1
          have htk : (u32A (F 8 3)).take 16 = u32A (F 8 3) := List.take_of_length_le (by omega)
          have hdr : (u32A (F 8 3)).drop 16 = [] := List.drop_of_length_le (by omega)
          have hdr0 : (u32A (F 8 3)).drop 0 = u32A (F 8 3) := rfl
          simp (disch := omega) only [↓aI,↓zP,aD,zD,aS0,Nat.reduceBEq,Nat.reduceLT,reduceCtorEq,↓reduceIte,Nat.reduceMul,Nat.reduceAdd,Nat.reduceLeDiff,Nat.reduceEqDiff,Int.reduceToNat,Nat.reduceSub,Nat.reduceMod,Nat.reduceDiv,Int.reducePow,Int.reduceLE,Int.reduceNeg,Int.reduceLT,Int.reduceBEq,Int.reduceBNe,Int.reduceEq,Try.facts,g0,g1,g6,g7,g24,hb,set_get,aP0 n2,aP0 (fun e => n2 e.symm),v1,hfl,htk,hdr0,ah]
          refine ⟨by rw [u32A_strip],?_⟩
          rw [hE]
          exact ((Sub.set_new hkn).set_free hk2').set_free hkn
def tellF (w : List Nat) (i : Nat) : List UInt8 := (List.range 64).map fun t => if t < i then UInt8.ofNat (w.getD (t / 4) 0 / 2 ^ (8 * (t % 4))) else 0
theorem tellF_len (w : List Nat) (i : Nat) : (tellF w i).length = 64 := by simp [tellF]
theorem tellF_end (w : List Nat) : tellF w 64 = tellW w := by
  unfold tellF tellW
  refine List.map_congr_left fun t ht => ?_
  rw [if_pos (List.mem_range.1 ht)]
theorem tellF_zero (w : List Nat) : tellF w 0 = List.replicate 64 0 := by
  rfl
theorem tellF_set (w : List Nat) {i : Nat} (h : i < 64) : (tellF w i).set i (UInt8.ofNat (w.getD (i / 4) 0 / 2 ^ (8 * (i % 4)))) = tellF w (i + 1) := by
  apply List.ext_getElem (by rw [List.length_set,tellF_len,tellF_len])
  intro t h1 h2
  rw [tellF_len] at h2
  by_cases e : i = t
  · subst e
    rw [List.getElem_set_self]
    simp [tellF]
  · rw [List.getElem_set_ne e]
    simp only [tellF,List.getElem_map,List.getElem_range]
    by_cases c : t < i
    · rw [if_pos c,if_pos (by omega)]
    · rw [if_neg c,if_neg (by omega)]
theorem stold_pure (w : List Nat) (hw : OkW w) : APure Try.prog 39 [.agg (u32A w)] (eu (tellW w)) := by
  have hul : (u32A w).length = 16 := by rw [u32A_length,hw.len]
  have t0 := tellF_zero w
  have t1 := tellF_end w
  have tl := tellF_len w
  have ts := fun i h => tellF_set w (i := i) h
  have hll := tellW_len w
  rw [← t1] at hll ⊢
  generalize tellF w = F at *
  refine az (c := ⟨Try.prog,25,[(1000000,[1])],[],[]⟩) (rs := [ResultVar.tmp 2]) Try.mixed Try.func39 rfl rfl rfl (Nat.le_of_ble_eq_true rfl) (by kernel_rfl) fun H => ?_
  simp (disch := omega) only [↓aI,↓zP,aD,zD,aS0,Nat.reduceBEq,Nat.reduceLT,reduceCtorEq,↓reduceIte,Nat.reduceMul,Nat.reduceAdd,Nat.reduceLeDiff,Nat.reduceEqDiff,Int.reduceToNat,Nat.reduceSub,Nat.reduceMod,Nat.reduceDiv,Int.reducePow,Int.reduceLE,Int.reduceNeg,Int.reduceLT,Int.reduceBEq,Int.reduceBNe,Int.reduceEq,Try.facts]
  intro k hk0 hkn
  intro k2 hk20 hk2
  have hk2' : H k2 = none := by rw [ef hkn] at hk2; exact hk2
  try rw [ef hkn]
  refine br (c := ⟨Try.prog,25,[(1000000,[1])],[],[]⟩) Try.mixed (by kernel_rfl) (fun m σ H' => ∃ i : Nat,i + m = 64 ∧ σ 1 = .ip (u32A w) 0 ∧ σ 3 = .own k2 0 64 ∧ σ 7 = .sc (.int .i64 64) ∧ σ 8 = .sc (.int .i64 i) ∧ H' = H.set k2 (.cells (bw (F i)) 5 1)) 64 ?_ ?_
  · refine ⟨0,by omega,?_⟩
    rw [t0]
    simp (disch := omega) only [↓aI,↓zP,aD,zD,aS0,Nat.reduceBEq,Nat.reduceLT,reduceCtorEq,↓reduceIte,Nat.reduceMul,Nat.reduceAdd,Nat.reduceLeDiff,Nat.reduceEqDiff,Int.reduceToNat,Nat.reduceSub,Nat.reduceMod,Nat.reduceDiv,Int.reducePow,Int.reduceLE,Int.reduceNeg,Int.reduceLT,Int.reduceBEq,Int.reduceBNe,Int.reduceEq,Try.facts]
    rfl
  · rintro m σ H' ⟨i,hi,g1,g3,g7,g8,rfl⟩
    have hl := tl i
    by_cases hlt : i < 64
    · have hb : decide ((i : Int) < 64) = true := dT (by omega)
      have ha := u32A_at (l := w) (i := i / 4) (by rw [hw.len]; omega)
      have hput := put_bytes (l := F i) (i := i) (b := UInt8.ofNat (w.getD (i / 4) 0 / 2 ^ (8 * (i % 4)))) (by omega)
      rw [ts i hlt] at hput
      have hfl := gz (F i)
      have w1 : IntKind.i64.wrap ((i / 4 : Nat) : Int) = ((i / 4 : Nat) : Int) := iw (by omega)
      have w2 : IntKind.i64.wrap (8 * ((i % 4 : Nat) : Int)) = ((8 * (i % 4) : Nat) : Int) := by rw [iw (by omega)]; omega
      have b2 : decide (((8 * (i % 4) : Nat) : Int) < 0) = false := dF (by omega)
      have hmin : min (8 * (i % 4)) 32 = 8 * (i % 4) := by omega
      have w3 : IntKind.i64.wrap ((i : Int) + 1) = ((i + 1 : Nat) : Int) := by rw [iw (by omega)]; rfl
      generalize w.getD (i / 4) 0 = x at *
      have hmul : (8 * (((i % 4 : Nat)) : Int)) = ((8 * (i % 4) : Nat) : Int) := by omega
      simp (disch := omega) only [↓aI,↓zP,aD,zD,aS0,Nat.reduceBEq,Nat.reduceLT,reduceCtorEq,↓reduceIte,Nat.reduceMul,Nat.reduceAdd,Nat.reduceLeDiff,Nat.reduceEqDiff,Int.reduceToNat,Nat.reduceSub,Nat.reduceMod,Nat.reduceDiv,Int.reducePow,Int.reduceLE,Int.reduceNeg,Int.reduceLT,Int.reduceBEq,Int.reduceBNe,Int.reduceEq,Try.facts,g1,g3,g7,g8,hb,ha,hul,jd,tdivN,w1,w2,w3,b2,bits_u32,hmin,shrN,hmul,↓jC,hl,hfl,hput]
      exact ⟨m - 1,by omega,i + 1,by omega,rfl,rfl⟩
    · obtain rfl : i = 64 := by omega
      have hb : decide (((64 : Nat) : Int) < 64) = false := by decide
      have hfl := gz (F 64)
      simp (disch := omega) only [↓aI,↓zP,aD,zD,aS0,Nat.reduceBEq,Nat.reduceLT,reduceCtorEq,↓reduceIte,Nat.reduceMul,Nat.reduceAdd,Nat.reduceLeDiff,Nat.reduceEqDiff,Int.reduceToNat,Nat.reduceSub,Nat.reduceMod,Nat.reduceDiv,Int.reducePow,Int.reduceLE,Int.reduceNeg,Int.reduceLT,Int.reduceBEq,Int.reduceBNe,Int.reduceEq,Try.facts,g1,g3,g7,g8,hb,hl]
      rw [hk2']
      refine ⟨?_,Sub.set_new hk2'⟩
      show some (AV.imm 0 ((bw (F 64)).take (64 * 1)) 64) = _
      rw [List.take_of_length_le (by omega)]
      unfold eu
      rw [hl]
end Go.Proofs.Ytibipjdngpjndaa
end
