/-
  Several texts in one: each says what it proves.
  Conditions: none. Lemmas only.
-/
import Derived.Test.YtimonfakmadhpaaPapG5
set_option linter.all false
section
set_option linter.unusedSimpArgs false
set_option linter.unusedVariables false
set_option maxRecDepth 8000
set_option maxHeartbeats 4000000
namespace Go.Proofs.Ytimonfakmadhpaa
open Go Go.Abs Go.Proofs Go.Fug
def vr : Nat → Nat → Nat → List UInt8 → Nat × Nat × Int
  | 0,_,_,_ => (0,0,5)
  | _ + 1,_,_,[] => (0,0,3)
  | f + 1,k,acc,c :: l =>
    if 128 ≤ c.toNat then vr f (k + 1) (acc + c.toNat % 128 * 128 ^ k) l
    else if 0 < k ∧ c.toNat = 0 then (0,0,5)
    else if 1099511627776 < acc + c.toNat % 128 * 128 ^ k then (0,0,6)
    else (acc + c.toNat % 128 * 128 ^ k,k + 1,0)
def vread (l : List UInt8) : Nat × Nat × Int := vr 6 0 0 l
theorem and127b (c : UInt8) : bits .and .u8 (c.toNat : Int) 127 = ((c.toNat % 128 : Nat) : Int) := by
  have h := n8and c 127
  rw [show ((127 : UInt8).toNat : Int) = 127 from rfl] at h
  rw [h]
  have : (c &&& 127).toNat = c.toNat % 128 := by
    rw [UInt8.toNat_and]
    exact Nat.and_two_pow_sub_one_eq_mod c.toNat 7
  rw [this]
theorem shl7 (c k : Nat) (hc : c < 128) (hk : k ≤ 5) : IntKind.i64.wrap ((c : Int) * 2 ^ min (7 * k) IntKind.i64.bits) = ((c * 128 ^ k : Nat) : Int) := by
  have h2 : min (7 * k) IntKind.i64.bits = 7 * k := Nat.min_eq_left (by show 7 * k ≤ 64; omega)
  have h3 : (128 : Nat) ^ k = 2 ^ (7 * k) := by rw [show (128 : Nat) = 2 ^ 7 from rfl,← Nat.pow_mul]
  have h4 : (128 : Nat) ^ k ≤ 128 ^ 5 := Nat.pow_le_pow_right (by omega) hk
  have h5 : c * 128 ^ k ≤ 128 * 128 ^ 5 := Nat.mul_le_mul (by omega) h4
  rw [h2,show ((c : Int) * 2 ^ (7 * k)) = ((c * 128 ^ k : Nat) : Int) by rw [h3,Int.natCast_mul,Int.natCast_pow]; rfl]
  exact wrapI (by omega)
theorem or7 (acc c k : Nat) (ha : acc < 128 ^ k) (hc : c < 128) (hk : k ≤ 5) : bits .or .i64 (acc : Int) ((c * 128 ^ k : Nat) : Int) = ((acc + c * 128 ^ k : Nat) : Int) := by
  have h3 : (128 : Nat) ^ k = 2 ^ (7 * k) := by rw [show (128 : Nat) = 2 ^ 7 from rfl,← Nat.pow_mul]
  have h4 : (128 : Nat) ^ k ≤ 128 ^ 5 := Nat.pow_le_pow_right (by omega) hk
  have h5 : c * 128 ^ k ≤ 128 * 128 ^ 5 := Nat.mul_le_mul (by omega) h4
  rw [bits_orI (by omega) (by omega)]
  congr 1
  rw [h3] at ha ⊢
  rw [Nat.or_comm,Nat.mul_comm c,← Nat.two_pow_add_eq_or_of_lt ha c]; omega
theorem acc_lt (acc c k : Nat) (ha : acc < 128 ^ k) (hc : c < 128) : acc + c * 128 ^ k < 128 ^ (k + 1) := by
  rw [Nat.pow_succ]
  have : c * 128 ^ k ≤ 127 * 128 ^ k := Nat.mul_le_mul (by omega) (Nat.le_refl _)
  omega
theorem getD8 {l : List UInt8} {i : Nat} (h : i < l.length) : (bw l)[i]? = some (.sc (.int .u8 l[i].toNat)) := by
  unfold bw
  rw [List.getElem?_map,List.getElem?_eq_getElem h]; rfl
def triV (x : Nat × Nat × Int) : AV := .tup [.sc (.int .i64 (x.1 : Nat)),.sc (.int .i64 (x.2.1 : Nat)),.sc (.int .i64 x.2.2)]
theorem first_pure (b : List UInt8) (hb : b.length ≤ 2000000) : APure Try.prog 115 [bytesV b] (triV (vread b)) := by
  have hbl := encB_len b
  refine az (c := ⟨Try.prog,47,[],[],[]⟩) (rs := [ResultVar.tmp 2,ResultVar.tmp 3,ResultVar.tmp 4]) Try.mixed Try.func115 rfl rfl rfl (Nat.le_of_ble_eq_true rfl) (by kernel_rfl) fun H => ?_
  simp (disch := omega) only [↓aI,aD,aG,ixA,aX,aV,ag,aT,ae,mkA,ab,bnd,aS,aH,aK,cvO,aJ,aY,↓aO,aW,aE,aF,aM,aA,aC,aB,aN,ad,frz,aR,Nat.reduceBEq,Nat.reduceLT,reduceCtorEq,↓reduceIte,aL,AV.cellsOf,AV.fine,AV.one,aQ,Nat.reduceMul,Nat.reduceAdd,Nat.reduceLeDiff,Nat.reduceEqDiff,Int.reduceToNat,Nat.reduceSub,Nat.reduceMod,Nat.reduceDiv,indexK.aggOf,Int.reducePow,Int.reduceLE,Int.reduceNeg,Int.reduceLT,Int.reduceBEq,Int.reduceBNe,Int.reduceEq,aZ,aU,Try.facts]
  refine br (c := ⟨Try.prog,47,[],[],[]⟩) Try.mixed (by kernel_rfl) (fun mm σ H' => H' = H ∧ ∃ (k acc : Nat),k + mm = 6 ∧ k ≤ b.length ∧ acc < 128 ^ k ∧ vr mm k acc (b.drop k) = vread b ∧ σ 0 = bytesV b ∧ σ 5 = .sc (.int .i64 (acc : Nat)) ∧ σ 6 = .sc (.int .i64 (128 ^ k : Nat)) ∧ σ 7 = .sc (.int .i64 (k : Nat))) 6 ?_ ?_
  · refine ⟨rfl,0,0,rfl,by omega,by omega,rfl,?_⟩
    simp (disch := omega) only [↓aI,aD,aG,ixA,aX,aV,ag,aT,ae,mkA,ab,bnd,aS,aH,aK,cvO,aJ,aY,↓aO,aW,aE,aF,aM,aA,aC,aB,aN,ad,frz,aR,Nat.reduceBEq,Nat.reduceLT,reduceCtorEq,↓reduceIte,aL,AV.cellsOf,AV.fine,AV.one,aQ,Nat.reduceMul,Nat.reduceAdd,Nat.reduceLeDiff,Nat.reduceEqDiff,Int.reduceToNat,Nat.reduceSub,Nat.reduceMod,Nat.reduceDiv,indexK.aggOf,Int.reducePow,Int.reduceLE,Int.reduceNeg,Int.reduceLT,Int.reduceBEq,Int.reduceBNe,Int.reduceEq,aZ,aU,Try.facts]
    rfl
  · rintro mm σ H' ⟨rfl,k,acc,hkm,hkb,hacc,hv,s0,s5,s6,s7⟩
    rw [← hv]
    cases mm with
    | zero =>
      simp (disch := omega) only [↓aI,aD,aG,ixA,aX,aV,ag,aT,ae,mkA,ab,bnd,aS,aH,aK,cvO,aJ,aY,↓aO,aW,aE,aF,aM,aA,aC,aB,aN,ad,frz,aR,Nat.reduceBEq,Nat.reduceLT,reduceCtorEq,↓reduceIte,aL,AV.cellsOf,AV.fine,AV.one,aQ,Nat.reduceMul,Nat.reduceAdd,Nat.reduceLeDiff,Nat.reduceEqDiff,Int.reduceToNat,Nat.reduceSub,Nat.reduceMod,Nat.reduceDiv,indexK.aggOf,Int.reducePow,Int.reduceLE,Int.reduceNeg,Int.reduceLT,Int.reduceBEq,Int.reduceBNe,Int.reduceEq,aZ,aU,Try.facts,s0,s5,s6,s7,dT,dF,qT,qF,nT,nF,Bool.false_and,Bool.and_false,vr,triV]
      exact Abs.Sub.refl _
    | succ f =>
      have hp : 128 ^ k ≤ 128 ^ 5 := Nat.pow_le_pow_right (by omega) (by omega)
      have hps : 128 ^ (k + 1) = 128 ^ k * 128 := Nat.pow_succ ..
      by_cases hlt : k < b.length
      · have hg := getD8 hlt
        have hd : b.drop k = b[k] :: b.drop (k + 1) := List.drop_eq_getElem_cons hlt
        rw [hd] at hv ⊢
        generalize b[k] = c at *
        have hc8 := c.toNat_lt
        have ha2 := acc_lt acc (c.toNat % 128) k hacc (by omega)
        have hcp : c.toNat % 128 * 128 ^ k ≤ 128 * 128 ^ 5 := Nat.mul_le_mul (by omega) hp
        generalize hP : 128 ^ k = P at *
        have e1 : IntKind.i64.wrap ((acc : Int) + IntKind.i64.wrap (((c.toNat % 128 : Nat) : Int) * (P : Int))) = ((acc + c.toNat % 128 * P : Nat) : Int) := by
          rw [← Int.natCast_mul,wrapI (n := ((c.toNat % 128 * P : Nat) : Int)) (by omega),wrapI (by omega)]; omega
        have e2 : IntKind.i64.wrap ((P : Int) * 128) = ((P * 128 : Nat) : Int) := by rw [wrapI (by omega)]; omega
        have hvr : vr (f + 1) k acc (c :: b.drop (k + 1)) = if 128 ≤ c.toNat then vr f (k + 1) (acc + c.toNat % 128 * 128 ^ k) (b.drop (k + 1)) else if 0 < k ∧ c.toNat = 0 then (0,0,5) else if 1099511627776 < acc + c.toNat % 128 * 128 ^ k then (0,0,6) else (acc + c.toNat % 128 * 128 ^ k,k + 1,0) := rfl
        rw [hP] at hvr
        rw [hvr] at hv ⊢
        by_cases h128 : 128 ≤ c.toNat
        · rw [if_pos h128] at hv ⊢
          simp (disch := omega) only [↓aI,aD,aG,ixA,aX,aV,ag,aT,ae,mkA,ab,bnd,aS,aH,aK,cvO,aJ,aY,↓aO,aW,aE,aF,aM,aA,aC,aB,aN,ad,frz,aR,Nat.reduceBEq,Nat.reduceLT,reduceCtorEq,↓reduceIte,aL,AV.cellsOf,AV.fine,AV.one,aQ,Nat.reduceMul,Nat.reduceAdd,Nat.reduceLeDiff,Nat.reduceEqDiff,Int.reduceToNat,Nat.reduceSub,Nat.reduceMod,Nat.reduceDiv,indexK.aggOf,Int.reducePow,Int.reduceLE,Int.reduceNeg,Int.reduceLT,Int.reduceBEq,Int.reduceBNe,Int.reduceEq,aZ,aU,Try.facts,s0,s5,s6,s7,dT,dF,qT,qF,nT,nF,Bool.false_and,Bool.and_false,hg,hbl,↓tmodN,e1,e2]
          exact ⟨f,by omega,k + 1,acc + c.toNat % 128 * P,by omega,by omega,ha2,rfl,rfl,by rw [hps],rfl⟩
        · rw [if_neg h128] at hv ⊢
          by_cases h0 : 0 < k ∧ c.toNat = 0
          · rw [if_pos h0]
            obtain ⟨h01,h02⟩ := h0
            simp (disch := omega) only [↓aI,aD,aG,ixA,aX,aV,ag,aT,ae,mkA,ab,bnd,aS,aH,aK,cvO,aJ,aY,↓aO,aW,aE,aF,aM,aA,aC,aB,aN,ad,frz,aR,Nat.reduceBEq,Nat.reduceLT,reduceCtorEq,↓reduceIte,aL,AV.cellsOf,AV.fine,AV.one,aQ,Nat.reduceMul,Nat.reduceAdd,Nat.reduceLeDiff,Nat.reduceEqDiff,Int.reduceToNat,Nat.reduceSub,Nat.reduceMod,Nat.reduceDiv,indexK.aggOf,Int.reducePow,Int.reduceLE,Int.reduceNeg,Int.reduceLT,Int.reduceBEq,Int.reduceBNe,Int.reduceEq,aZ,aU,Try.facts,s0,s5,s6,s7,dT,dF,qT,qF,nT,nF,Bool.false_and,Bool.and_false,hg,hbl,↓tmodN,e1,e2,h02]
            exact ⟨rfl,Abs.Sub.refl _⟩
          · rw [if_neg h0] at hv ⊢
            by_cases hbig : 1099511627776 < acc + c.toNat % 128 * P
            · rw [if_pos hbig]
              by_cases hk0 : k = 0
              · subst hk0
                exfalso
                omega
              · have hc0 : ¬ c.toNat = 0 := fun e => h0 ⟨by omega,e⟩
                simp (disch := omega) only [↓aI,aD,aG,ixA,aX,aV,ag,aT,ae,mkA,ab,bnd,aS,aH,aK,cvO,aJ,aY,↓aO,aW,aE,aF,aM,aA,aC,aB,aN,ad,frz,aR,Nat.reduceBEq,Nat.reduceLT,reduceCtorEq,↓reduceIte,aL,AV.cellsOf,AV.fine,AV.one,aQ,Nat.reduceMul,Nat.reduceAdd,Nat.reduceLeDiff,Nat.reduceEqDiff,Int.reduceToNat,Nat.reduceSub,Nat.reduceMod,Nat.reduceDiv,indexK.aggOf,Int.reducePow,Int.reduceLE,Int.reduceNeg,Int.reduceLT,Int.reduceBEq,Int.reduceBNe,Int.reduceEq,aZ,aU,Try.facts,s0,s5,s6,s7,dT,dF,qT,qF,nT,nF,Bool.false_and,Bool.and_false,hg,hbl,↓tmodN,e1,e2]
                exact ⟨rfl,Abs.Sub.refl _⟩
            · rw [if_neg hbig]
              by_cases hk0 : k = 0
              · subst hk0
                simp (disch := omega) only [↓aI,aD,aG,ixA,aX,aV,ag,aT,ae,mkA,ab,bnd,aS,aH,aK,cvO,aJ,aY,↓aO,aW,aE,aF,aM,aA,aC,aB,aN,ad,frz,aR,Nat.reduceBEq,Nat.reduceLT,reduceCtorEq,↓reduceIte,aL,AV.cellsOf,AV.fine,AV.one,aQ,Nat.reduceMul,Nat.reduceAdd,Nat.reduceLeDiff,Nat.reduceEqDiff,Int.reduceToNat,Nat.reduceSub,Nat.reduceMod,Nat.reduceDiv,indexK.aggOf,Int.reducePow,Int.reduceLE,Int.reduceNeg,Int.reduceLT,Int.reduceBEq,Int.reduceBNe,Int.reduceEq,aZ,aU,Try.facts,s0,s5,s6,s7,dT,dF,qT,qF,nT,nF,Bool.false_and,Bool.and_false,hg,hbl,↓tmodN,e1,e2]
                exact ⟨rfl,Abs.Sub.refl _⟩
              · have hc0 : ¬ c.toNat = 0 := fun e => h0 ⟨by omega,e⟩
                simp (disch := omega) only [↓aI,aD,aG,ixA,aX,aV,ag,aT,ae,mkA,ab,bnd,aS,aH,aK,cvO,aJ,aY,↓aO,aW,aE,aF,aM,aA,aC,aB,aN,ad,frz,aR,Nat.reduceBEq,Nat.reduceLT,reduceCtorEq,↓reduceIte,aL,AV.cellsOf,AV.fine,AV.one,aQ,Nat.reduceMul,Nat.reduceAdd,Nat.reduceLeDiff,Nat.reduceEqDiff,Int.reduceToNat,Nat.reduceSub,Nat.reduceMod,Nat.reduceDiv,indexK.aggOf,Int.reducePow,Int.reduceLE,Int.reduceNeg,Int.reduceLT,Int.reduceBEq,Int.reduceBNe,Int.reduceEq,aZ,aU,Try.facts,s0,s5,s6,s7,dT,dF,qT,qF,nT,nF,Bool.false_and,Bool.and_false,hg,hbl,↓tmodN,e1,e2]
                exact ⟨rfl,Abs.Sub.refl _⟩
      · obtain rfl : k = b.length := by omega
        rw [List.drop_length] at hv ⊢
        simp (disch := omega) only [↓aI,aD,aG,ixA,aX,aV,ag,aT,ae,mkA,ab,bnd,aS,aH,aK,cvO,aJ,aY,↓aO,aW,aE,aF,aM,aA,aC,aB,aN,ad,frz,aR,Nat.reduceBEq,Nat.reduceLT,reduceCtorEq,↓reduceIte,aL,AV.cellsOf,AV.fine,AV.one,aQ,Nat.reduceMul,Nat.reduceAdd,Nat.reduceLeDiff,Nat.reduceEqDiff,Int.reduceToNat,Nat.reduceSub,Nat.reduceMod,Nat.reduceDiv,indexK.aggOf,Int.reducePow,Int.reduceLE,Int.reduceNeg,Int.reduceLT,Int.reduceBEq,Int.reduceBNe,Int.reduceEq,aZ,aU,Try.facts,s0,s5,s6,s7,dT,dF,qT,qF,nT,nF,Bool.false_and,Bool.and_false,vr,triV]
        exact Abs.Sub.refl _
def rdB (k : Nat) (bs : List UInt8) (p : Nat) (e : Int) : AObj := .cells [.imm k (bw bs) bs.length,.sc (.int .i64 (p : Nat)),.sc (.bool true),.sc (.int .i64 e)] 129 4
theorem read_live (H : AH) (b : List UInt8) (hb : b.length ≤ 2000000) : ACalls Try.prog 32 [bytesV b] H fun v H' => ∃ r k,v = .ptr r 0 ∧ r ≠ 0 ∧ H r = none ∧ H' r = some (rdB k b 0 0) ∧ Abs.Sub H H' := by
  have hbl := encB_len b
  refine ao (c := ⟨Try.prog,9,[],[3],[]⟩) (rs := [ResultVar.tmp 2]) Try.mixed Try.func32 rfl rfl rfl (Nat.le_of_ble_eq_true rfl) (by kernel_rfl) ?_
  simp (disch := omega) only [↓aI,aD,aG,ixA,aX,aV,ag,aT,ae,mkA,ab,bnd,aS,aH,aK,cvO,aJ,aY,↓aO,aW,aE,aF,aM,aA,aC,aB,aN,ad,frz,aR,Nat.reduceBEq,Nat.reduceLT,reduceCtorEq,↓reduceIte,aL,AV.cellsOf,AV.fine,AV.one,aQ,Nat.reduceMul,Nat.reduceAdd,Nat.reduceLeDiff,Nat.reduceEqDiff,Int.reduceToNat,Nat.reduceSub,Nat.reduceMod,Nat.reduceDiv,indexK.aggOf,Int.reducePow,Int.reduceLE,Int.reduceNeg,Int.reduceLT,Int.reduceBEq,Int.reduceBNe,Int.reduceEq,aZ,aU,Try.facts]
  intro k hk0 hk
  try simp (disch := omega) only [↓aI,aD,aG,ixA,aX,aV,ag,aT,ae,mkA,ab,bnd,aS,aH,aK,cvO,aJ,aY,↓aO,aW,aE,aF,aM,aA,aC,aB,aN,ad,frz,aR,Nat.reduceBEq,Nat.reduceLT,reduceCtorEq,↓reduceIte,aL,AV.cellsOf,AV.fine,AV.one,aQ,Nat.reduceMul,Nat.reduceAdd,Nat.reduceLeDiff,Nat.reduceEqDiff,Int.reduceToNat,Nat.reduceSub,Nat.reduceMod,Nat.reduceDiv,indexK.aggOf,Int.reducePow,Int.reduceLE,Int.reduceNeg,Int.reduceLT,Int.reduceBEq,Int.reduceBNe,Int.reduceEq,aZ,aU,Try.facts]
  intro k2 o2 hk20 hk2 ho2
  try simp (disch := omega) only [↓aI,aD,aG,ixA,aX,aV,ag,aT,ae,mkA,ab,bnd,aS,aH,aK,cvO,aJ,aY,↓aO,aW,aE,aF,aM,aA,aC,aB,aN,ad,frz,aR,Nat.reduceBEq,Nat.reduceLT,reduceCtorEq,↓reduceIte,aL,AV.cellsOf,AV.fine,AV.one,aQ,Nat.reduceMul,Nat.reduceAdd,Nat.reduceLeDiff,Nat.reduceEqDiff,Int.reduceToNat,Nat.reduceSub,Nat.reduceMod,Nat.reduceDiv,indexK.aggOf,Int.reducePow,Int.reduceLE,Int.reduceNeg,Int.reduceLT,Int.reduceBEq,Int.reduceBNe,Int.reduceEq,aZ,aU,Try.facts]
  intro r hr0 hr
  try simp (disch := omega) only [↓aI,aD,aG,ixA,aX,aV,ag,aT,ae,mkA,ab,bnd,aS,aH,aK,cvO,aJ,aY,↓aO,aW,aE,aF,aM,aA,aC,aB,aN,ad,frz,aR,Nat.reduceBEq,Nat.reduceLT,reduceCtorEq,↓reduceIte,aL,AV.cellsOf,AV.fine,AV.one,aQ,Nat.reduceMul,Nat.reduceAdd,Nat.reduceLeDiff,Nat.reduceEqDiff,Int.reduceToNat,Nat.reduceSub,Nat.reduceMod,Nat.reduceDiv,indexK.aggOf,Int.reducePow,Int.reduceLE,Int.reduceNeg,Int.reduceLT,Int.reduceBEq,Int.reduceBNe,Int.reduceEq,aZ,aU,Try.facts]
  exact ⟨_,rfl,_,Abs.Sub.refl _,r,k2,rfl,hr0,am hr,set_get,(Sub.set_new (am hk2)).set_free (am hr)⟩
theorem left_live (H : AH) (r k p : Nat) (bs : List UInt8) (e : Int) (hb : bs.length ≤ 2000000) (hp : p ≤ bs.length) (hr : H r = some (rdB k bs p e)) : ACalls Try.prog 85 [.ptr r 0] H fun v H' => v = .sc (.int .i64 ((bs.length - p : Nat))) ∧ H' = H := by
  have hbl := encB_len bs
  unfold rdB at hr
  refine ao (c := ⟨Try.prog,13,[(1,[0,0,0,1,1,0,0,0,1,0,0])],[],[]⟩) (rs := [ResultVar.tmp 2]) Try.mixed Try.func85 rfl rfl rfl (Nat.le_of_ble_eq_true rfl) (by kernel_rfl) ?_
  simp (disch := omega) only [↓aI,aD,aG,ixA,aX,aV,ag,aT,ae,mkA,ab,bnd,aS,aH,aK,cvO,aJ,aY,↓aO,aW,aE,aF,aM,aA,aC,aB,aN,ad,frz,aR,Nat.reduceBEq,Nat.reduceLT,reduceCtorEq,↓reduceIte,aL,AV.cellsOf,AV.fine,AV.one,aQ,Nat.reduceMul,Nat.reduceAdd,Nat.reduceLeDiff,Nat.reduceEqDiff,Int.reduceToNat,Nat.reduceSub,Nat.reduceMod,Nat.reduceDiv,indexK.aggOf,Int.reducePow,Int.reduceLE,Int.reduceNeg,Int.reduceLT,Int.reduceBEq,Int.reduceBNe,Int.reduceEq,aZ,aU,Try.facts,hr]
  exact ⟨_,rfl,_,Abs.Sub.refl _,rfl,rfl⟩
theorem vr_le : ∀ (f k acc : Nat) (l : List UInt8),(vr f k acc l).2.2 = 0 → (vr f k acc l).1 ≤ 1099511627776 ∧ k < (vr f k acc l).2.1 ∧ (vr f k acc l).2.1 ≤ k + l.length ∧ (vr f k acc l).2.1 ≤ k + f
  | 0,k,acc,l,h => by simp [vr] at h
  | f + 1,k,acc,[],h => by simp [vr] at h
  | f + 1,k,acc,c :: l,h => by
    unfold vr at h ⊢
    split
    · rename_i h1
      rw [if_pos h1] at h
      have := vr_le f (k + 1) _ l h
      simp only [List.length_cons]
      omega
    · rename_i h1
      rw [if_neg h1] at h
      split
      · rename_i h2
        rw [if_pos h2] at h
        simp at h
      · rename_i h2
        rw [if_neg h2] at h
        split
        · rename_i h3
          rw [if_pos h3] at h
          simp at h
        · rename_i h3
          simp only [List.length_cons]
          omega
theorem next_live (H : AH) (r k p : Nat) (bs : List UInt8) (e : Int) (hb : bs.length ≤ 2000000) (hp : p ≤ bs.length) (hr : H r = some (rdB k bs p e)) : ACalls Try.prog 110 [.ptr r 0] H fun v H' => v = triV (vread (bs.drop p)) ∧ H' = H := by
  have hbl := encB_len bs
  have hleft := left_live H r k p bs e hb hp hr
  have hr' := hr
  unfold rdB at hr'
  unfold vread
  generalize hT : bs.drop p = T at *
  have hTl : T.length = bs.length - p := by rw [← hT,List.length_drop]
  have hget : ∀ i (h : i < T.length),(bw bs)[p + i]? = some (.sc (.int .u8 T[i].toNat)) := fun i h => by
    subst hT
    rw [List.length_drop] at h
    rw [getD8 (by omega)]
    simp
  refine ao (c := ⟨Try.prog,60,[(4,[0,0,0,0,1,0,0,0,0,1,0,0,0,1,0]),(4000013,[2,3,4]),(4000009,[5,6,55]),(4000008,[0,5,6,7,8,45]),(4000005,[0,5,6,7,8]),(4000004,[0,5,6,7,8]),(4000002,[0,5,6,7,14])],[],[]⟩) (rs := [ResultVar.tmp 2,ResultVar.tmp 3,ResultVar.tmp 4]) Try.mixed Try.func110 rfl rfl rfl (Nat.le_of_ble_eq_true rfl) (by kernel_rfl) ?_
  simp (disch := omega) only [↓aI,aD,aG,ixA,aX,aV,ag,aT,ae,mkA,ab,bnd,aS,aH,aK,cvO,aJ,aY,↓aO,aW,aE,aF,aM,aA,aC,aB,aN,ad,frz,aR,Nat.reduceBEq,Nat.reduceLT,reduceCtorEq,↓reduceIte,aL,AV.cellsOf,AV.fine,AV.one,aQ,Nat.reduceMul,Nat.reduceAdd,Nat.reduceLeDiff,Nat.reduceEqDiff,Int.reduceToNat,Nat.reduceSub,Nat.reduceMod,Nat.reduceDiv,indexK.aggOf,Int.reducePow,Int.reduceLE,Int.reduceNeg,Int.reduceLT,Int.reduceBEq,Int.reduceBNe,Int.reduceEq,aZ,aU,Try.facts]
  refine scope_t Try.mixed 0 (by kernel_rfl) (rest := _) rfl (by kernel_rfl) (fun mm σ H' => H' = H ∧ ∃ (i acc : Nat),i + mm = 6 ∧ 1 ≤ mm ∧ i ≤ T.length ∧ acc < 128 ^ i ∧ vr mm i acc (T.drop i) = vr 6 0 0 T ∧ σ 0 = .ptr r 0 ∧ σ 5 = .sc (.int .i64 (acc : Nat)) ∧ σ 6 = .sc (.int .i64 (i : Nat)) ∧ σ 7 = .sc (.int .i64 ((7 * i : Nat)))) ?_ ?_
  · simp (disch := omega) only [↓aI,aD,aG,ixA,aX,aV,ag,aT,ae,mkA,ab,bnd,aS,aH,aK,cvO,aJ,aY,↓aO,aW,aE,aF,aM,aA,aC,aB,aN,ad,frz,aR,Nat.reduceBEq,Nat.reduceLT,reduceCtorEq,↓reduceIte,aL,AV.cellsOf,AV.fine,AV.one,aQ,Nat.reduceMul,Nat.reduceAdd,Nat.reduceLeDiff,Nat.reduceEqDiff,Int.reduceToNat,Nat.reduceSub,Nat.reduceMod,Nat.reduceDiv,indexK.aggOf,Int.reducePow,Int.reduceLE,Int.reduceNeg,Int.reduceLT,Int.reduceBEq,Int.reduceBNe,Int.reduceEq,aZ,aU,Try.facts]
    refine CallK.i hleft ?_
    rintro v E ⟨rfl,rfl⟩
    cases hT0 : T with
    | nil =>
      rw [hT0] at hTl
      simp only [List.length_nil] at hTl
      simp (disch := omega) only [↓aI,aD,aG,ixA,aX,aV,ag,aT,ae,mkA,ab,bnd,aS,aH,aK,cvO,aJ,aY,↓aO,aW,aE,aF,aM,aA,aC,aB,aN,ad,frz,aR,Nat.reduceBEq,Nat.reduceLT,reduceCtorEq,↓reduceIte,aL,AV.cellsOf,AV.fine,AV.one,aQ,Nat.reduceMul,Nat.reduceAdd,Nat.reduceLeDiff,Nat.reduceEqDiff,Int.reduceToNat,Nat.reduceSub,Nat.reduceMod,Nat.reduceDiv,indexK.aggOf,Int.reducePow,Int.reduceLE,Int.reduceNeg,Int.reduceLT,Int.reduceBEq,Int.reduceBNe,Int.reduceEq,aZ,aU,Try.facts,dT,dF,qT,qF,nT,nF,Bool.false_and,Bool.and_false,triV,vr]
      exact ⟨_,rfl,_,Abs.Sub.refl _,rfl,rfl⟩
    | cons c l =>
      subst hT0
      have hg := hget 0 (by simp)
      rw [List.getElem_cons_zero,Nat.add_zero] at hg
      simp only [List.length_cons] at hTl
      have hc8 := c.toNat_lt
      have h127 := and127b c
      have hor := or7 0 (c.toNat % 128) 0 (by omega) (by omega) (by omega)
      have hvr : vr 6 0 0 (c :: l) = if 128 ≤ c.toNat then vr 5 1 (0 + c.toNat % 128 * 128 ^ 0) l else if 0 < 0 ∧ c.toNat = 0 then (0,0,5) else if 1099511627776 < 0 + c.toNat % 128 * 128 ^ 0 then (0,0,6) else (0 + c.toNat % 128 * 128 ^ 0,0 + 1,0) := rfl
      have hN : 0 + c.toNat % 128 * 128 ^ 0 = c.toNat % 128 := by omega
      have hM : c.toNat % 128 * 128 ^ 0 = c.toNat % 128 := by omega
      rw [hN,hM] at hor
      have hor : bits .or .i64 (0 : Int) ((c.toNat % 128 : Nat) : Int) = ((c.toNat % 128 : Nat) : Int) := hor
      rw [hN] at hvr
      have hsh : IntKind.i64.wrap (((c.toNat % 128 : Nat) : Int) * 2 ^ min 0 IntKind.i64.bits) = ((c.toNat % 128 : Nat) : Int) := by
        have := shl7 (c.toNat % 128) 0 (by omega) (by omega)
        rw [hM] at this
        exact this
      by_cases h128 : 128 ≤ c.toNat
      · rw [if_pos h128] at hvr
        rw [hvr]
        simp (disch := omega) only [↓aI,aD,aG,ixA,aX,aV,ag,aT,ae,mkA,ab,bnd,aS,aH,aK,cvO,aJ,aY,↓aO,aW,aE,aF,aM,aA,aC,aB,aN,ad,frz,aR,Nat.reduceBEq,Nat.reduceLT,reduceCtorEq,↓reduceIte,aL,AV.cellsOf,AV.fine,AV.one,aQ,Nat.reduceMul,Nat.reduceAdd,Nat.reduceLeDiff,Nat.reduceEqDiff,Int.reduceToNat,Nat.reduceSub,Nat.reduceMod,Nat.reduceDiv,indexK.aggOf,Int.reducePow,Int.reduceLE,Int.reduceNeg,Int.reduceLT,Int.reduceBEq,Int.reduceBNe,Int.reduceEq,aZ,aU,Try.facts,dT,dF,qT,qF,nT,nF,Bool.false_and,Bool.and_false,hr',hg,hbl,h127,hsh,hor]
        exact ⟨5,1,c.toNat % 128,rfl,by omega,by omega,by omega,rfl,rfl,rfl,rfl⟩
      · rw [if_neg h128,if_neg (fun h => absurd h.1 (by omega)),if_neg (by omega)] at hvr
        rw [hvr]
        cases hc0 : (c == 0)
        all_goals
          simp (disch := omega) only [↓aI,aD,aG,ixA,aX,aV,ag,aT,ae,mkA,ab,bnd,aS,aH,aK,cvO,aJ,aY,↓aO,aW,aE,aF,aM,aA,aC,aB,aN,ad,frz,aR,Nat.reduceBEq,Nat.reduceLT,reduceCtorEq,↓reduceIte,aL,AV.cellsOf,AV.fine,AV.one,aQ,Nat.reduceMul,Nat.reduceAdd,Nat.reduceLeDiff,Nat.reduceEqDiff,Int.reduceToNat,Nat.reduceSub,Nat.reduceMod,Nat.reduceDiv,indexK.aggOf,Int.reducePow,Int.reduceLE,Int.reduceNeg,Int.reduceLT,Int.reduceBEq,Int.reduceBNe,Int.reduceEq,aZ,aU,Try.facts,dT,dF,qT,qF,nT,nF,Bool.false_and,Bool.and_false,hr',hg,hbl,h127,hsh,hor,triV,hc0]
          exact ⟨_,rfl,_,Abs.Sub.refl _,rfl,rfl⟩
  · rintro mm σ H' ⟨rfl,i,acc,him,hm1,hiT,hacc,hv,s0,s5,s6,s7⟩
    rw [← hv]
    simp (disch := omega) only [↓aI,aD,aG,ixA,aX,aV,ag,aT,ae,mkA,ab,bnd,aS,aH,aK,cvO,aJ,aY,↓aO,aW,aE,aF,aM,aA,aC,aB,aN,ad,frz,aR,Nat.reduceBEq,Nat.reduceLT,reduceCtorEq,↓reduceIte,aL,AV.cellsOf,AV.fine,AV.one,aQ,Nat.reduceMul,Nat.reduceAdd,Nat.reduceLeDiff,Nat.reduceEqDiff,Int.reduceToNat,Nat.reduceSub,Nat.reduceMod,Nat.reduceDiv,indexK.aggOf,Int.reducePow,Int.reduceLE,Int.reduceNeg,Int.reduceLT,Int.reduceBEq,Int.reduceBNe,Int.reduceEq,aZ,aU,Try.facts,s0,s5,s6,s7]
    refine CallK.i hleft ?_
    rintro v E ⟨rfl,rfl⟩
    obtain ⟨f,rfl⟩ : ∃ f,mm = f + 1 := ⟨mm - 1,by omega⟩
    by_cases hlt : i < T.length
    · have hg := hget i hlt
      have hd : T.drop i = T[i] :: T.drop (i + 1) := List.drop_eq_getElem_cons hlt
      rw [hd] at hv ⊢
      generalize T[i] = c at *
      have hc8 := c.toNat_lt
      have ha2 := acc_lt acc (c.toNat % 128) i hacc (by omega)
      have h127 := and127b c
      have hsh := shl7 (c.toNat % 128) i (by omega) (by omega)
      have hor := or7 acc (c.toNat % 128) i hacc (by omega) (by omega)
      have hps : 128 ^ (i + 1) ≤ 128 ^ 6 := Nat.pow_le_pow_right (by omega) (by omega)
      have hvr : vr (f + 1) i acc (c :: T.drop (i + 1)) = if 128 ≤ c.toNat then vr f (i + 1) (acc + c.toNat % 128 * 128 ^ i) (T.drop (i + 1)) else if 0 < i ∧ c.toNat = 0 then (0,0,5) else if 1099511627776 < acc + c.toNat % 128 * 128 ^ i then (0,0,6) else (acc + c.toNat % 128 * 128 ^ i,i + 1,0) := rfl
      rw [hvr] at hv ⊢
      generalize hN : acc + c.toNat % 128 * 128 ^ i = N at *
      by_cases h128 : 128 ≤ c.toNat
      · rw [if_pos h128] at hv ⊢
        by_cases hf0 : f = 0
        · subst hf0
          obtain rfl : i = 5 := by omega
          simp (disch := omega) only [↓aI,aD,aG,ixA,aX,aV,ag,aT,ae,mkA,ab,bnd,aS,aH,aK,cvO,aJ,aY,↓aO,aW,aE,aF,aM,aA,aC,aB,aN,ad,frz,aR,Nat.reduceBEq,Nat.reduceLT,reduceCtorEq,↓reduceIte,aL,AV.cellsOf,AV.fine,AV.one,aQ,Nat.reduceMul,Nat.reduceAdd,Nat.reduceLeDiff,Nat.reduceEqDiff,Int.reduceToNat,Nat.reduceSub,Nat.reduceMod,Nat.reduceDiv,indexK.aggOf,Int.reducePow,Int.reduceLE,Int.reduceNeg,Int.reduceLT,Int.reduceBEq,Int.reduceBNe,Int.reduceEq,aZ,aU,Try.facts,s0,s5,s6,s7,dT,dF,qT,qF,nT,nF,Bool.false_and,Bool.and_false,hr',hg,hbl,h127,hsh,hor,vr,triV]
          exact ⟨_,rfl,_,Abs.Sub.refl _,rfl,rfl⟩
        · simp (disch := omega) only [↓aI,aD,aG,ixA,aX,aV,ag,aT,ae,mkA,ab,bnd,aS,aH,aK,cvO,aJ,aY,↓aO,aW,aE,aF,aM,aA,aC,aB,aN,ad,frz,aR,Nat.reduceBEq,Nat.reduceLT,reduceCtorEq,↓reduceIte,aL,AV.cellsOf,AV.fine,AV.one,aQ,Nat.reduceMul,Nat.reduceAdd,Nat.reduceLeDiff,Nat.reduceEqDiff,Int.reduceToNat,Nat.reduceSub,Nat.reduceMod,Nat.reduceDiv,indexK.aggOf,Int.reducePow,Int.reduceLE,Int.reduceNeg,Int.reduceLT,Int.reduceBEq,Int.reduceBNe,Int.reduceEq,aZ,aU,Try.facts,s0,s5,s6,s7,dT,dF,qT,qF,nT,nF,Bool.false_and,Bool.and_false,hr',hg,hbl,h127,hsh,hor]
          exact ⟨f,by omega,i + 1,N,by omega,by omega,by omega,ha2,rfl,rfl,rfl,by rw [Nat.mul_succ]⟩
      · rw [if_neg h128] at hv ⊢
        by_cases h0 : 0 < i ∧ c.toNat = 0
        · rw [if_pos h0]
          obtain ⟨h01,h02⟩ := h0
          simp (disch := omega) only [↓aI,aD,aG,ixA,aX,aV,ag,aT,ae,mkA,ab,bnd,aS,aH,aK,cvO,aJ,aY,↓aO,aW,aE,aF,aM,aA,aC,aB,aN,ad,frz,aR,Nat.reduceBEq,Nat.reduceLT,reduceCtorEq,↓reduceIte,aL,AV.cellsOf,AV.fine,AV.one,aQ,Nat.reduceMul,Nat.reduceAdd,Nat.reduceLeDiff,Nat.reduceEqDiff,Int.reduceToNat,Nat.reduceSub,Nat.reduceMod,Nat.reduceDiv,indexK.aggOf,Int.reducePow,Int.reduceLE,Int.reduceNeg,Int.reduceLT,Int.reduceBEq,Int.reduceBNe,Int.reduceEq,aZ,aU,Try.facts,s0,s5,s6,s7,dT,dF,qT,qF,nT,nF,Bool.false_and,Bool.and_false,hr',hg,hbl,h127,hsh,hor,triV]
          exact ⟨_,rfl,_,Abs.Sub.refl _,rfl,rfl⟩
        · rw [if_neg h0]
          by_cases hbig : 1099511627776 < N
          · rw [if_pos hbig]
            by_cases hc0 : c.toNat = 0
            · simp (disch := omega) only [↓aI,aD,aG,ixA,aX,aV,ag,aT,ae,mkA,ab,bnd,aS,aH,aK,cvO,aJ,aY,↓aO,aW,aE,aF,aM,aA,aC,aB,aN,ad,frz,aR,Nat.reduceBEq,Nat.reduceLT,reduceCtorEq,↓reduceIte,aL,AV.cellsOf,AV.fine,AV.one,aQ,Nat.reduceMul,Nat.reduceAdd,Nat.reduceLeDiff,Nat.reduceEqDiff,Int.reduceToNat,Nat.reduceSub,Nat.reduceMod,Nat.reduceDiv,indexK.aggOf,Int.reducePow,Int.reduceLE,Int.reduceNeg,Int.reduceLT,Int.reduceBEq,Int.reduceBNe,Int.reduceEq,aZ,aU,Try.facts,s0,s5,s6,s7,dT,dF,qT,qF,nT,nF,Bool.false_and,Bool.and_false,hr',hg,hbl,h127,hsh,hor,triV]
              exact ⟨_,rfl,_,Abs.Sub.refl _,rfl,rfl⟩
            · simp (disch := omega) only [↓aI,aD,aG,ixA,aX,aV,ag,aT,ae,mkA,ab,bnd,aS,aH,aK,cvO,aJ,aY,↓aO,aW,aE,aF,aM,aA,aC,aB,aN,ad,frz,aR,Nat.reduceBEq,Nat.reduceLT,reduceCtorEq,↓reduceIte,aL,AV.cellsOf,AV.fine,AV.one,aQ,Nat.reduceMul,Nat.reduceAdd,Nat.reduceLeDiff,Nat.reduceEqDiff,Int.reduceToNat,Nat.reduceSub,Nat.reduceMod,Nat.reduceDiv,indexK.aggOf,Int.reducePow,Int.reduceLE,Int.reduceNeg,Int.reduceLT,Int.reduceBEq,Int.reduceBNe,Int.reduceEq,aZ,aU,Try.facts,s0,s5,s6,s7,dT,dF,qT,qF,nT,nF,Bool.false_and,Bool.and_false,hr',hg,hbl,h127,hsh,hor,triV]
              exact ⟨_,rfl,_,Abs.Sub.refl _,rfl,rfl⟩
          · rw [if_neg hbig]
            by_cases hc0 : c.toNat = 0
            · simp (disch := omega) only [↓aI,aD,aG,ixA,aX,aV,ag,aT,ae,mkA,ab,bnd,aS,aH,aK,cvO,aJ,aY,↓aO,aW,aE,aF,aM,aA,aC,aB,aN,ad,frz,aR,Nat.reduceBEq,Nat.reduceLT,reduceCtorEq,↓reduceIte,aL,AV.cellsOf,AV.fine,AV.one,aQ,Nat.reduceMul,Nat.reduceAdd,Nat.reduceLeDiff,Nat.reduceEqDiff,Int.reduceToNat,Nat.reduceSub,Nat.reduceMod,Nat.reduceDiv,indexK.aggOf,Int.reducePow,Int.reduceLE,Int.reduceNeg,Int.reduceLT,Int.reduceBEq,Int.reduceBNe,Int.reduceEq,aZ,aU,Try.facts,s0,s5,s6,s7,dT,dF,qT,qF,nT,nF,Bool.false_and,Bool.and_false,hr',hg,hbl,h127,hsh,hor,triV]
              exact ⟨_,rfl,_,Abs.Sub.refl _,rfl,rfl⟩
            · simp (disch := omega) only [↓aI,aD,aG,ixA,aX,aV,ag,aT,ae,mkA,ab,bnd,aS,aH,aK,cvO,aJ,aY,↓aO,aW,aE,aF,aM,aA,aC,aB,aN,ad,frz,aR,Nat.reduceBEq,Nat.reduceLT,reduceCtorEq,↓reduceIte,aL,AV.cellsOf,AV.fine,AV.one,aQ,Nat.reduceMul,Nat.reduceAdd,Nat.reduceLeDiff,Nat.reduceEqDiff,Int.reduceToNat,Nat.reduceSub,Nat.reduceMod,Nat.reduceDiv,indexK.aggOf,Int.reducePow,Int.reduceLE,Int.reduceNeg,Int.reduceLT,Int.reduceBEq,Int.reduceBNe,Int.reduceEq,aZ,aU,Try.facts,s0,s5,s6,s7,dT,dF,qT,qF,nT,nF,Bool.false_and,Bool.and_false,hr',hg,hbl,h127,hsh,hor,triV]
              exact ⟨_,rfl,_,Abs.Sub.refl _,rfl,rfl⟩
    · obtain rfl : i = T.length := by omega
      rw [List.drop_length] at hv ⊢
      simp (disch := omega) only [↓aI,aD,aG,ixA,aX,aV,ag,aT,ae,mkA,ab,bnd,aS,aH,aK,cvO,aJ,aY,↓aO,aW,aE,aF,aM,aA,aC,aB,aN,ad,frz,aR,Nat.reduceBEq,Nat.reduceLT,reduceCtorEq,↓reduceIte,aL,AV.cellsOf,AV.fine,AV.one,aQ,Nat.reduceMul,Nat.reduceAdd,Nat.reduceLeDiff,Nat.reduceEqDiff,Int.reduceToNat,Nat.reduceSub,Nat.reduceMod,Nat.reduceDiv,indexK.aggOf,Int.reducePow,Int.reduceLE,Int.reduceNeg,Int.reduceLT,Int.reduceBEq,Int.reduceBNe,Int.reduceEq,aZ,aU,Try.facts,s0,s5,s6,s7,dT,dF,qT,qF,nT,nF,Bool.false_and,Bool.and_false,vr,triV]
      exact ⟨_,rfl,_,Abs.Sub.refl _,rfl,rfl⟩
end Go.Proofs.Ytimonfakmadhpaa
end
section
set_option linter.unusedSimpArgs false
set_option linter.unusedVariables false
set_option maxRecDepth 8000
set_option maxHeartbeats 4000000
namespace Go.Proofs.Ytimonfakmadhpaa
open Go Go.Abs Go.Proofs Go.Fug
abbrev RS := List UInt8 × Int
def rdNum (s : RS) (lo hi : Int) : RS × Int :=
  if s.2 = 0 then
    if (vread s.1).2.2 = 0 then
      if ((vread s.1).1 : Int) < lo ∨ hi < ((vread s.1).1 : Int) then ((s.1,6),0) else ((s.1.drop (vread s.1).2.1,0),((vread s.1).1 : Int))
    else ((s.1,(vread s.1).2.2),0)
  else (s,0)
def RdS (B H : AH) (r k : Nat) (bs : List UInt8) (s : RS) : Prop :=
  (∃ p,p ≤ bs.length ∧ bs.drop p = s.1 ∧ H r = some (rdB k bs p s.2)) ∧ Abs.Sub B H ∧ B r = none ∧ bs.length ≤ 2000000
theorem RdS.mono {B H H' : AH} {r k : Nat} {bs : List UInt8} {s : RS} (p : RdS B H r k bs s) (h : Abs.Sub H H') : RdS B H' r k bs s := by
  obtain ⟨⟨q,h1,h2,h3⟩,h4,h5⟩ := p
  exact ⟨⟨q,h1,h2,h _ _ h3⟩,h4.trans h,h5⟩
theorem RdS.all {B H : AH} {r k : Nat} {bs : List UInt8} {s : RS} (p : RdS B H r k bs s) : RdS (H.kill r) H r k bs s :=
  ⟨p.1,fun y o h => by
    by_cases e : y = r
    · subst e; rw [kill_same] at h; cases h
    · rwa [bZ e] at h,kill_same,p.2.2.2⟩
theorem RdS.back {B H H' : AH} {r k : Nat} {bs : List UInt8} {s s' : RS} (p : RdS B H r k bs s) (q : RdS (H.kill r) H' r k bs s') : RdS B H' r k bs s' :=
  ⟨q.1,fun y o h => q.2.1 y o (by
    have e : y ≠ r := fun e => by subst e; rw [p.2.2.1] at h; cases h
    rw [bZ e]; exact p.2.1 y o h),p.2.2⟩
theorem RdS.keep {B H H' : AH} {r k b : Nat} {bs : List UInt8} {s s' : RS} {o : AObj} (p : RdS B H r k bs s) (q : RdS (H.kill r) H' r k bs s') (hb : H b = some o) (hn : b ≠ r) : H' b = some o := q.2.1 b o (by rw [bZ hn]; exact hb)
theorem fine_live (B H : AH) (r k : Nat) (bs : List UInt8) (s : RS) (p : RdS B H r k bs s) (hr0 : r ≠ 0) : ACalls Try.prog 109 [.ptr r 0] H fun v H' => v = .sc (.bool (s.2 == 0)) ∧ H' = H := by
  obtain ⟨⟨q,h1,h2,h3⟩,-⟩ := p
  unfold rdB at h3
  obtain ⟨rest,e⟩ := s
  refine ao (c := ⟨Try.prog,20,[],[],[]⟩) (rs := [ResultVar.tmp 2]) Try.mixed Try.func109 rfl rfl rfl (Nat.le_of_ble_eq_true rfl) (by kernel_rfl) ?_
  simp (disch := omega) only [↓aI,aD,aG,ixA,aX,aV,ag,aT,ae,mkA,ab,bnd,aS,aH,aK,cvO,aJ,aY,↓aO,aW,aE,aF,aM,aA,aC,aB,aN,ad,frz,aR,Nat.reduceBEq,Nat.reduceLT,reduceCtorEq,↓reduceIte,aL,AV.cellsOf,AV.fine,AV.one,aQ,Nat.reduceMul,Nat.reduceAdd,Nat.reduceLeDiff,Nat.reduceEqDiff,Int.reduceToNat,Nat.reduceSub,Nat.reduceMod,Nat.reduceDiv,indexK.aggOf,Int.reducePow,Int.reduceLE,Int.reduceNeg,Int.reduceLT,Int.reduceBEq,Int.reduceBNe,Int.reduceEq,aZ,aU,Try.facts,h3]
  exact ⟨_,rfl,_,Abs.Sub.refl _,rfl,rfl⟩
theorem err_live (B H : AH) (r k : Nat) (bs : List UInt8) (s : RS) (p : RdS B H r k bs s) (hr0 : r ≠ 0) : ACalls Try.prog 39 [.ptr r 0] H fun v H' => v = .sc (.int .i64 s.2) ∧ H' = H := by
  obtain ⟨⟨q,h1,h2,h3⟩,-⟩ := p
  unfold rdB at h3
  obtain ⟨rest,e⟩ := s
  refine ao (c := ⟨Try.prog,18,[],[],[]⟩) (rs := [ResultVar.tmp 2]) Try.mixed Try.func39 rfl rfl rfl (Nat.le_of_ble_eq_true rfl) (by kernel_rfl) ?_
  simp (disch := omega) only [↓aI,aD,aG,ixA,aX,aV,ag,aT,ae,mkA,ab,bnd,aS,aH,aK,cvO,aJ,aY,↓aO,aW,aE,aF,aM,aA,aC,aB,aN,ad,frz,aR,Nat.reduceBEq,Nat.reduceLT,reduceCtorEq,↓reduceIte,aL,AV.cellsOf,AV.fine,AV.one,aQ,Nat.reduceMul,Nat.reduceAdd,Nat.reduceLeDiff,Nat.reduceEqDiff,Int.reduceToNat,Nat.reduceSub,Nat.reduceMod,Nat.reduceDiv,indexK.aggOf,Int.reducePow,Int.reduceLE,Int.reduceNeg,Int.reduceLT,Int.reduceBEq,Int.reduceBNe,Int.reduceEq,aZ,aU,Try.facts,h3]
  exact ⟨_,rfl,_,Abs.Sub.refl _,rfl,rfl⟩
theorem rleft_live (B H : AH) (r k : Nat) (bs : List UInt8) (s : RS) (p : RdS B H r k bs s) (hr0 : r ≠ 0) : ACalls Try.prog 40 [.ptr r 0] H fun v H' => v = .sc (.int .i64 (s.1.length : Nat)) ∧ H' = H := by
  obtain ⟨⟨q,h1,h2,h3⟩,h4,h5,h6⟩ := p
  have hl := left_live H r k q bs s.2 h6 h1 h3
  have hlen : bs.length - q = s.1.length := by rw [← h2,List.length_drop]
  rw [hlen] at hl
  refine ao (c := ⟨Try.prog,9,[],[],[]⟩) (rs := [ResultVar.tmp 2]) Try.mixed Try.func40 rfl rfl rfl (Nat.le_of_ble_eq_true rfl) (by kernel_rfl) ?_
  simp (disch := omega) only [↓aI,aD,aG,ixA,aX,aV,ag,aT,ae,mkA,ab,bnd,aS,aH,aK,cvO,aJ,aY,↓aO,aW,aE,aF,aM,aA,aC,aB,aN,ad,frz,aR,Nat.reduceBEq,Nat.reduceLT,reduceCtorEq,↓reduceIte,aL,AV.cellsOf,AV.fine,AV.one,aQ,Nat.reduceMul,Nat.reduceAdd,Nat.reduceLeDiff,Nat.reduceEqDiff,Int.reduceToNat,Nat.reduceSub,Nat.reduceMod,Nat.reduceDiv,indexK.aggOf,Int.reducePow,Int.reduceLE,Int.reduceNeg,Int.reduceLT,Int.reduceBEq,Int.reduceBNe,Int.reduceEq,aZ,aU,Try.facts,h3]
  refine CallK.i hl ?_
  rintro v E ⟨rfl,rfl⟩
  simp (disch := omega) only [↓aI,aD,aG,ixA,aX,aV,ag,aT,ae,mkA,ab,bnd,aS,aH,aK,cvO,aJ,aY,↓aO,aW,aE,aF,aM,aA,aC,aB,aN,ad,frz,aR,Nat.reduceBEq,Nat.reduceLT,reduceCtorEq,↓reduceIte,aL,AV.cellsOf,AV.fine,AV.one,aQ,Nat.reduceMul,Nat.reduceAdd,Nat.reduceLeDiff,Nat.reduceEqDiff,Int.reduceToNat,Nat.reduceSub,Nat.reduceMod,Nat.reduceDiv,indexK.aggOf,Int.reducePow,Int.reduceLE,Int.reduceNeg,Int.reduceLT,Int.reduceBEq,Int.reduceBNe,Int.reduceEq,aZ,aU,Try.facts]
  exact ⟨_,rfl,_,Abs.Sub.refl _,rfl,rfl⟩
theorem number_live (B H : AH) (r k : Nat) (bs : List UInt8) (s : RS) (lo hi : Int) (p : RdS B H r k bs s) (hr0 : r ≠ 0) : ACalls Try.prog 73 [.ptr r 0,.sc (.int .i64 lo),.sc (.int .i64 hi)] H fun v H' => v = .sc (.int .i64 (rdNum s lo hi).2) ∧ RdS B H' r k bs (rdNum s lo hi).1 := by
  have hf := fine_live B H r k bs s p hr0
  have p0 := p
  obtain ⟨⟨q,h1,h2,h3⟩,h4,h5,h6⟩ := p
  have hn := next_live H r k q bs s.2 h6 h1 h3
  rw [h2] at hn
  have hR : rdNum s lo hi = if s.2 = 0 then (if (vread s.1).2.2 = 0 then (if ((vread s.1).1 : Int) < lo ∨ hi < ((vread s.1).1 : Int) then ((s.1,6),0) else ((s.1.drop (vread s.1).2.1,0),((vread s.1).1 : Int))) else ((s.1,(vread s.1).2.2),0)) else (s,0) := rfl
  generalize rdNum s lo hi = R at *
  have hle := vr_le 6 0 0 s.1
  have hset : ∀ (p' : Nat) (e' : Int) (t : List UInt8),p' ≤ bs.length → bs.drop p' = t → RdS B (H.set r (rdB k bs p' e')) r k bs (t,e') := fun p' e' t hp ht => ⟨⟨p',hp,ht,set_get⟩,h4.set_free h5,h5,h6⟩
  have hsl : s.1.length = bs.length - q := by rw [← h2,List.length_drop]
  rw [show vr 6 0 0 s.1 = vread s.1 from rfl] at hle
  generalize vread s.1 = V at *
  obtain ⟨n,w,ev⟩ := V
  simp only [triV] at hn hle hR
  obtain ⟨rest,e⟩ := s
  simp only at h2 hR hsl hf p0 h3 hle
  have h3' := h3
  unfold rdB at h3'
  refine ao (c := ⟨Try.prog,49,[],[],[]⟩) (rs := [ResultVar.tmp 6]) Try.mixed Try.func73 rfl rfl rfl (Nat.le_of_ble_eq_true rfl) (by kernel_rfl) ?_
  simp (disch := omega) only [↓aI,aD,aG,ixA,aX,aV,ag,aT,ae,mkA,ab,bnd,aS,aH,aK,cvO,aJ,aY,↓aO,aW,aE,aF,aM,aA,aC,aB,aN,ad,frz,aR,Nat.reduceBEq,Nat.reduceLT,reduceCtorEq,↓reduceIte,aL,AV.cellsOf,AV.fine,AV.one,aQ,Nat.reduceMul,Nat.reduceAdd,Nat.reduceLeDiff,Nat.reduceEqDiff,Int.reduceToNat,Nat.reduceSub,Nat.reduceMod,Nat.reduceDiv,indexK.aggOf,Int.reducePow,Int.reduceLE,Int.reduceNeg,Int.reduceLT,Int.reduceBEq,Int.reduceBNe,Int.reduceEq,aZ,aU,Try.facts]
  refine CallK.i hf ?_
  rintro v E ⟨rfl,rfl⟩
  by_cases c1 : e = 0
  · subst c1
    rw [if_pos rfl] at hR
    simp (disch := omega) only [↓aI,aD,aG,ixA,aX,aV,ag,aT,ae,mkA,ab,bnd,aS,aH,aK,cvO,aJ,aY,↓aO,aW,aE,aF,aM,aA,aC,aB,aN,ad,frz,aR,Nat.reduceBEq,Nat.reduceLT,reduceCtorEq,↓reduceIte,aL,AV.cellsOf,AV.fine,AV.one,aQ,Nat.reduceMul,Nat.reduceAdd,Nat.reduceLeDiff,Nat.reduceEqDiff,Int.reduceToNat,Nat.reduceSub,Nat.reduceMod,Nat.reduceDiv,indexK.aggOf,Int.reducePow,Int.reduceLE,Int.reduceNeg,Int.reduceLT,Int.reduceBEq,Int.reduceBNe,Int.reduceEq,aZ,aU,Try.facts,dT,dF,qT,qF,nT,nF,Bool.false_and,Bool.and_false]
    refine CallK.i hn ?_
    rintro v E ⟨rfl,rfl⟩
    by_cases c2 : ev = 0
    · subst c2
      rw [if_pos rfl] at hR
      by_cases c3 : (n : Int) < lo ∨ hi < (n : Int)
      · rw [if_pos c3] at hR
        subst hR
        by_cases c4 : (n : Int) < lo
        · simp (disch := omega) only [↓aI,aD,aG,ixA,aX,aV,ag,aT,ae,mkA,ab,bnd,aS,aH,aK,cvO,aJ,aY,↓aO,aW,aE,aF,aM,aA,aC,aB,aN,ad,frz,aR,Nat.reduceBEq,Nat.reduceLT,reduceCtorEq,↓reduceIte,aL,AV.cellsOf,AV.fine,AV.one,aQ,Nat.reduceMul,Nat.reduceAdd,Nat.reduceLeDiff,Nat.reduceEqDiff,Int.reduceToNat,Nat.reduceSub,Nat.reduceMod,Nat.reduceDiv,indexK.aggOf,Int.reducePow,Int.reduceLE,Int.reduceNeg,Int.reduceLT,Int.reduceBEq,Int.reduceBNe,Int.reduceEq,aZ,aU,Try.facts,dT,dF,qT,qF,nT,nF,Bool.false_and,Bool.and_false,h3',ah]
          exact ⟨_,rfl,_,Abs.Sub.refl _,rfl,hset q 6 rest h1 h2⟩
        · have c5 : hi < (n : Int) := c3.resolve_left c4
          simp (disch := omega) only [↓aI,aD,aG,ixA,aX,aV,ag,aT,ae,mkA,ab,bnd,aS,aH,aK,cvO,aJ,aY,↓aO,aW,aE,aF,aM,aA,aC,aB,aN,ad,frz,aR,Nat.reduceBEq,Nat.reduceLT,reduceCtorEq,↓reduceIte,aL,AV.cellsOf,AV.fine,AV.one,aQ,Nat.reduceMul,Nat.reduceAdd,Nat.reduceLeDiff,Nat.reduceEqDiff,Int.reduceToNat,Nat.reduceSub,Nat.reduceMod,Nat.reduceDiv,indexK.aggOf,Int.reducePow,Int.reduceLE,Int.reduceNeg,Int.reduceLT,Int.reduceBEq,Int.reduceBNe,Int.reduceEq,aZ,aU,Try.facts,dT,dF,qT,qF,nT,nF,Bool.false_and,Bool.and_false,h3',ah]
          exact ⟨_,rfl,_,Abs.Sub.refl _,rfl,hset q 6 rest h1 h2⟩
      · rw [if_neg c3] at hR
        subst hR
        simp (disch := omega) only [↓aI,aD,aG,ixA,aX,aV,ag,aT,ae,mkA,ab,bnd,aS,aH,aK,cvO,aJ,aY,↓aO,aW,aE,aF,aM,aA,aC,aB,aN,ad,frz,aR,Nat.reduceBEq,Nat.reduceLT,reduceCtorEq,↓reduceIte,aL,AV.cellsOf,AV.fine,AV.one,aQ,Nat.reduceMul,Nat.reduceAdd,Nat.reduceLeDiff,Nat.reduceEqDiff,Int.reduceToNat,Nat.reduceSub,Nat.reduceMod,Nat.reduceDiv,indexK.aggOf,Int.reducePow,Int.reduceLE,Int.reduceNeg,Int.reduceLT,Int.reduceBEq,Int.reduceBNe,Int.reduceEq,aZ,aU,Try.facts,dT,dF,qT,qF,nT,nF,Bool.false_and,Bool.and_false,h3',ah]
        exact ⟨_,rfl,_,Abs.Sub.refl _,rfl,hset (q + w) 0 _ (by omega) (by rw [← h2,List.drop_drop])⟩
    · rw [if_neg c2] at hR
      subst hR
      simp (disch := omega) only [↓aI,aD,aG,ixA,aX,aV,ag,aT,ae,mkA,ab,bnd,aS,aH,aK,cvO,aJ,aY,↓aO,aW,aE,aF,aM,aA,aC,aB,aN,ad,frz,aR,Nat.reduceBEq,Nat.reduceLT,reduceCtorEq,↓reduceIte,aL,AV.cellsOf,AV.fine,AV.one,aQ,Nat.reduceMul,Nat.reduceAdd,Nat.reduceLeDiff,Nat.reduceEqDiff,Int.reduceToNat,Nat.reduceSub,Nat.reduceMod,Nat.reduceDiv,indexK.aggOf,Int.reducePow,Int.reduceLE,Int.reduceNeg,Int.reduceLT,Int.reduceBEq,Int.reduceBNe,Int.reduceEq,aZ,aU,Try.facts,dT,dF,qT,qF,nT,nF,Bool.false_and,Bool.and_false,h3',ah]
      exact ⟨_,rfl,_,Abs.Sub.refl _,rfl,hset q ev rest h1 h2⟩
  · rw [if_neg c1] at hR
    subst hR
    simp (disch := omega) only [↓aI,aD,aG,ixA,aX,aV,ag,aT,ae,mkA,ab,bnd,aS,aH,aK,cvO,aJ,aY,↓aO,aW,aE,aF,aM,aA,aC,aB,aN,ad,frz,aR,Nat.reduceBEq,Nat.reduceLT,reduceCtorEq,↓reduceIte,aL,AV.cellsOf,AV.fine,AV.one,aQ,Nat.reduceMul,Nat.reduceAdd,Nat.reduceLeDiff,Nat.reduceEqDiff,Int.reduceToNat,Nat.reduceSub,Nat.reduceMod,Nat.reduceDiv,indexK.aggOf,Int.reducePow,Int.reduceLE,Int.reduceNeg,Int.reduceLT,Int.reduceBEq,Int.reduceBNe,Int.reduceEq,aZ,aU,Try.facts,dT,dF,qT,qF,nT,nF,Bool.false_and,Bool.and_false]
    exact ⟨_,rfl,_,Abs.Sub.refl _,rfl,p0⟩
theorem fail_live (B H : AH) (r k : Nat) (bs : List UInt8) (s : RS) (e : Int) (p : RdS B H r k bs s) (hr0 : r ≠ 0) : ACalls Try.prog 114 [.ptr r 0,.sc (.int .i64 e)] H fun v H' => RdS B H' r k bs (s.1,if s.2 = 0 then e else s.2) := by
  have hf := fine_live B H r k bs s p hr0
  have p0 := p
  obtain ⟨⟨q,h1,h2,h3⟩,h4,h5,h6⟩ := p
  obtain ⟨rest,e0⟩ := s
  simp only at h2 h3 hf ⊢
  have h3' := h3
  unfold rdB at h3'
  refine ao (c := ⟨Try.prog,11,[],[],[]⟩) (rs := []) Try.mixed Try.func114 rfl rfl rfl (Nat.le_of_ble_eq_true rfl) (by kernel_rfl) ?_
  simp (disch := omega) only [↓aI,aD,aG,ixA,aX,aV,ag,aT,ae,mkA,ab,bnd,aS,aH,aK,cvO,aJ,aY,↓aO,aW,aE,aF,aM,aA,aC,aB,aN,ad,frz,aR,Nat.reduceBEq,Nat.reduceLT,reduceCtorEq,↓reduceIte,aL,AV.cellsOf,AV.fine,AV.one,aQ,Nat.reduceMul,Nat.reduceAdd,Nat.reduceLeDiff,Nat.reduceEqDiff,Int.reduceToNat,Nat.reduceSub,Nat.reduceMod,Nat.reduceDiv,indexK.aggOf,Int.reducePow,Int.reduceLE,Int.reduceNeg,Int.reduceLT,Int.reduceBEq,Int.reduceBNe,Int.reduceEq,aZ,aU,Try.facts]
  refine CallK.i hf ?_
  rintro v E ⟨rfl,rfl⟩
  by_cases c1 : e0 = 0
  · subst c1
    rw [if_pos rfl]
    simp (disch := omega) only [↓aI,aD,aG,ixA,aX,aV,ag,aT,ae,mkA,ab,bnd,aS,aH,aK,cvO,aJ,aY,↓aO,aW,aE,aF,aM,aA,aC,aB,aN,ad,frz,aR,Nat.reduceBEq,Nat.reduceLT,reduceCtorEq,↓reduceIte,aL,AV.cellsOf,AV.fine,AV.one,aQ,Nat.reduceMul,Nat.reduceAdd,Nat.reduceLeDiff,Nat.reduceEqDiff,Int.reduceToNat,Nat.reduceSub,Nat.reduceMod,Nat.reduceDiv,indexK.aggOf,Int.reducePow,Int.reduceLE,Int.reduceNeg,Int.reduceLT,Int.reduceBEq,Int.reduceBNe,Int.reduceEq,aZ,aU,Try.facts,dT,dF,qT,qF,nT,nF,Bool.false_and,Bool.and_false,h3',ah]
    exact ⟨_,rfl,_,Abs.Sub.refl _,⟨q,h1,h2,set_get⟩,h4.set_free h5,h5,h6⟩
  · rw [if_neg c1]
    simp (disch := omega) only [↓aI,aD,aG,ixA,aX,aV,ag,aT,ae,mkA,ab,bnd,aS,aH,aK,cvO,aJ,aY,↓aO,aW,aE,aF,aM,aA,aC,aB,aN,ad,frz,aR,Nat.reduceBEq,Nat.reduceLT,reduceCtorEq,↓reduceIte,aL,AV.cellsOf,AV.fine,AV.one,aQ,Nat.reduceMul,Nat.reduceAdd,Nat.reduceLeDiff,Nat.reduceEqDiff,Int.reduceToNat,Nat.reduceSub,Nat.reduceMod,Nat.reduceDiv,indexK.aggOf,Int.reducePow,Int.reduceLE,Int.reduceNeg,Int.reduceLT,Int.reduceBEq,Int.reduceBNe,Int.reduceEq,aZ,aU,Try.facts,dT,dF,qT,qF,nT,nF,Bool.false_and,Bool.and_false]
    exact ⟨_,rfl,_,Abs.Sub.refl _,p0⟩
def rdID (s : RS) : RS × EId := ((rdNum (rdNum s 0 4).1 0 1099511627776).1,((rdNum s 0 4).2,(rdNum (rdNum s 0 4).1 0 1099511627776).2))
def rdFl (s : RS) : RS × Bool := ((rdNum s 0 1).1,(rdNum s 0 1).2 == 1)
def rdAn (s : RS) : RS × (EId × Bool) := ((rdFl (rdID s).1).1,((rdID s).2,(rdFl (rdID s).1).2))
theorem RdS.ne {B H : AH} {r k b : Nat} {bs : List UInt8} {s : RS} (p : RdS B H r k bs s) (hb : H b = none) : ¬ b = r := fun e => by
  obtain ⟨⟨q,-,-,h3⟩,-⟩ := p
  subst e; rw [hb] at h3; cases h3
theorem RdS.free {B H : AH} {r k b : Nat} {bs : List UInt8} {s : RS} (p : RdS B H r k bs s) (hb : H b = none) : B b = none := p.2.1.free hb
theorem RdS.put {B H : AH} {r k b : Nat} {bs : List UInt8} {s : RS} {o : AObj} (p : RdS B H r k bs s) (hb : B b = none) (hn : ¬ b = r) : RdS B (H.set b o) r k bs s := by
  obtain ⟨⟨q,h1,h2,h3⟩,h4,h5⟩ := p
  exact ⟨⟨q,h1,h2,by rw [aP (fun e => hn e.symm)]; exact h3⟩,h4.set_free hb,h5⟩
theorem RdS.kill {B H : AH} {r k b : Nat} {bs : List UInt8} {s : RS} (p : RdS B H r k bs s) (hb : B b = none) (hn : ¬ b = r) : RdS B (H.kill b) r k bs s := by
  obtain ⟨⟨q,h1,h2,h3⟩,h4,h5⟩ := p
  exact ⟨⟨q,h1,h2,by rw [bZ (fun e => hn e.symm)]; exact h3⟩,h4.kill_free hb,h5⟩
theorem getID_live (B H : AH) (r k : Nat) (bs : List UInt8) (s : RS) (p : RdS B H r k bs s) (hr0 : r ≠ 0) : ACalls Try.prog 111 [.ptr r 0] H fun v H' => v = idV (rdID s).2 ∧ RdS B H' r k bs (rdID s).1 := by
  have h1 := fun B H p => number_live B H r k bs s 0 4 p hr0
  have h2 := fun B H p => number_live B H r k bs (rdNum s 0 4).1 0 1099511627776 p hr0
  unfold rdID
  generalize rdNum s 0 4 = R at *
  obtain ⟨s1,a⟩ := R
  simp only at h1 h2 ⊢
  generalize rdNum s1 0 1099511627776 = R at *
  obtain ⟨s2,c⟩ := R
  simp only at h1 h2 ⊢
  refine ao (c := ⟨Try.prog,10,[],[],[]⟩) (rs := [ResultVar.cell 2 76]) Try.mixed Try.func111 rfl rfl rfl (Nat.le_of_ble_eq_true rfl) (by kernel_rfl) ?_
  simp (disch := omega) only [↓aI,aD,aG,ixA,aX,aV,ag,aT,ae,mkA,ab,bnd,aS,aH,aK,cvO,aJ,aY,↓aO,aW,aE,aF,aM,aA,aC,aB,aN,ad,frz,aR,Nat.reduceBEq,Nat.reduceLT,reduceCtorEq,↓reduceIte,aL,AV.cellsOf,AV.fine,AV.one,aQ,Nat.reduceMul,Nat.reduceAdd,Nat.reduceLeDiff,Nat.reduceEqDiff,Int.reduceToNat,Nat.reduceSub,Nat.reduceMod,Nat.reduceDiv,indexK.aggOf,Int.reducePow,Int.reduceLE,Int.reduceNeg,Int.reduceLT,Int.reduceBEq,Int.reduceBNe,Int.reduceEq,aZ,aU,Try.facts]
  intro b2 hb20 hb2
  have n2 := p.ne hb2
  have f2 := p.free hb2
  have p1 := p.put (o := .cells [.sc (.int .i64 0),.sc (.int .i64 0)] 76 2) f2 n2
  have v2 : (H.set b2 (.cells [.sc (.int .i64 0),.sc (.int .i64 0)] 76 2)) b2 = some (.cells [.sc (.int .i64 0),.sc (.int .i64 0)] 76 2) := set_get
  refine CallK.i (h1 _ _ p1.all) ?_
  rintro v H1 ⟨rfl,q⟩
  have v2 := p1.keep q v2 n2
  have p1 := p1.back q
  simp (disch := omega) only [↓aI,aD,aG,ixA,aX,aV,ag,aT,ae,mkA,ab,bnd,aS,aH,aK,cvO,aJ,aY,↓aO,aW,aE,aF,aM,aA,aC,aB,aN,ad,frz,aR,Nat.reduceBEq,Nat.reduceLT,reduceCtorEq,↓reduceIte,aL,AV.cellsOf,AV.fine,AV.one,aQ,Nat.reduceMul,Nat.reduceAdd,Nat.reduceLeDiff,Nat.reduceEqDiff,Int.reduceToNat,Nat.reduceSub,Nat.reduceMod,Nat.reduceDiv,indexK.aggOf,Int.reducePow,Int.reduceLE,Int.reduceNeg,Int.reduceLT,Int.reduceBEq,Int.reduceBNe,Int.reduceEq,aZ,aU,Try.facts]
  refine CallK.i (h2 _ _ p1.all) ?_
  rintro v H2 ⟨rfl,q⟩
  have v2 := p1.keep q v2 n2
  have p1 := p1.back q
  simp (disch := omega) only [↓aI,aD,aG,ixA,aX,aV,ag,aT,ae,mkA,ab,bnd,aS,aH,aK,cvO,aJ,aY,↓aO,aW,aE,aF,aM,aA,aC,aB,aN,ad,frz,aR,Nat.reduceBEq,Nat.reduceLT,reduceCtorEq,↓reduceIte,aL,AV.cellsOf,AV.fine,AV.one,aQ,Nat.reduceMul,Nat.reduceAdd,Nat.reduceLeDiff,Nat.reduceEqDiff,Int.reduceToNat,Nat.reduceSub,Nat.reduceMod,Nat.reduceDiv,indexK.aggOf,Int.reducePow,Int.reduceLE,Int.reduceNeg,Int.reduceLT,Int.reduceBEq,Int.reduceBNe,Int.reduceEq,aZ,aU,Try.facts,v2,ah]
  exact ⟨_,rfl,_,Abs.Sub.refl _,rfl,p1.put f2 n2⟩
theorem flag_live (B H : AH) (r k : Nat) (bs : List UInt8) (s : RS) (p : RdS B H r k bs s) (hr0 : r ≠ 0) : ACalls Try.prog 112 [.ptr r 0] H fun v H' => v = .sc (.bool (rdFl s).2) ∧ RdS B H' r k bs (rdFl s).1 := by
  have h1 := number_live B H r k bs s 0 1 p hr0
  unfold rdFl
  generalize rdNum s 0 1 = R at *
  obtain ⟨s1,a⟩ := R
  simp only at h1 ⊢
  refine ao (c := ⟨Try.prog,6,[],[],[]⟩) (rs := [ResultVar.tmp 2]) Try.mixed Try.func112 rfl rfl rfl (Nat.le_of_ble_eq_true rfl) (by kernel_rfl) ?_
  simp (disch := omega) only [↓aI,aD,aG,ixA,aX,aV,ag,aT,ae,mkA,ab,bnd,aS,aH,aK,cvO,aJ,aY,↓aO,aW,aE,aF,aM,aA,aC,aB,aN,ad,frz,aR,Nat.reduceBEq,Nat.reduceLT,reduceCtorEq,↓reduceIte,aL,AV.cellsOf,AV.fine,AV.one,aQ,Nat.reduceMul,Nat.reduceAdd,Nat.reduceLeDiff,Nat.reduceEqDiff,Int.reduceToNat,Nat.reduceSub,Nat.reduceMod,Nat.reduceDiv,indexK.aggOf,Int.reducePow,Int.reduceLE,Int.reduceNeg,Int.reduceLT,Int.reduceBEq,Int.reduceBNe,Int.reduceEq,aZ,aU,Try.facts]
  refine CallK.i h1 ?_
  rintro v H1 ⟨rfl,q⟩
  simp (disch := omega) only [↓aI,aD,aG,ixA,aX,aV,ag,aT,ae,mkA,ab,bnd,aS,aH,aK,cvO,aJ,aY,↓aO,aW,aE,aF,aM,aA,aC,aB,aN,ad,frz,aR,Nat.reduceBEq,Nat.reduceLT,reduceCtorEq,↓reduceIte,aL,AV.cellsOf,AV.fine,AV.one,aQ,Nat.reduceMul,Nat.reduceAdd,Nat.reduceLeDiff,Nat.reduceEqDiff,Int.reduceToNat,Nat.reduceSub,Nat.reduceMod,Nat.reduceDiv,indexK.aggOf,Int.reducePow,Int.reduceLE,Int.reduceNeg,Int.reduceLT,Int.reduceBEq,Int.reduceBNe,Int.reduceEq,aZ,aU,Try.facts]
  exact ⟨_,rfl,_,Abs.Sub.refl _,rfl,q⟩
theorem getAnchor_live (B H : AH) (r k : Nat) (bs : List UInt8) (s : RS) (p : RdS B H r k bs s) (hr0 : r ≠ 0) : ACalls Try.prog 113 [.ptr r 0] H fun v H' => v = ancV (rdAn s).2.1 (rdAn s).2.2 ∧ RdS B H' r k bs (rdAn s).1 := by
  have h1 := fun B H p => getID_live B H r k bs s p hr0
  have h2 := fun B H p => flag_live B H r k bs (rdID s).1 p hr0
  unfold rdAn
  generalize rdID s = R at *
  obtain ⟨s1,⟨a,c⟩⟩ := R
  simp only at h1 h2 ⊢
  generalize rdFl s1 = R at *
  obtain ⟨s2,y⟩ := R
  simp only at h1 h2 ⊢
  refine ao (c := ⟨Try.prog,10,[(2,[0,0,2,0,2]),(1000001,[3])],[],[]⟩) (rs := [ResultVar.cell 2 80]) Try.mixed Try.func113 rfl rfl rfl (Nat.le_of_ble_eq_true rfl) (by kernel_rfl) ?_
  simp (disch := omega) only [↓aI,aD,aG,ixA,aX,aV,ag,aT,ae,mkA,ab,bnd,aS,aH,aK,cvO,aJ,aY,↓aO,aW,aE,aF,aM,aA,aC,aB,aN,ad,frz,aR,Nat.reduceBEq,Nat.reduceLT,reduceCtorEq,↓reduceIte,aL,AV.cellsOf,AV.fine,AV.one,aQ,Nat.reduceMul,Nat.reduceAdd,Nat.reduceLeDiff,Nat.reduceEqDiff,Int.reduceToNat,Nat.reduceSub,Nat.reduceMod,Nat.reduceDiv,indexK.aggOf,Int.reducePow,Int.reduceLE,Int.reduceNeg,Int.reduceLT,Int.reduceBEq,Int.reduceBNe,Int.reduceEq,aZ,aU,Try.facts]
  intro b2 hb20 hb2
  have n2 := p.ne hb2
  have f2 := p.free hb2
  have p1 := p.put (o := .cells [.sc (.int .i64 0),.sc (.int .i64 0),.sc (.bool false)] 80 3) f2 n2
  have v2 : (H.set b2 (.cells [.sc (.int .i64 0),.sc (.int .i64 0),.sc (.bool false)] 80 3)) b2 = some (.cells [.sc (.int .i64 0),.sc (.int .i64 0),.sc (.bool false)] 80 3) := set_get
  refine CallK.i (h1 _ _ p1.all) ?_
  rintro v H1 ⟨rfl,q⟩
  have v2 := p1.keep q v2 n2
  have p1 := p1.back q
  simp (disch := omega) only [↓aI,aD,aG,ixA,aX,aV,ag,aT,ae,mkA,ab,bnd,aS,aH,aK,cvO,aJ,aY,↓aO,aW,aE,aF,aM,aA,aC,aB,aN,ad,frz,aR,Nat.reduceBEq,Nat.reduceLT,reduceCtorEq,↓reduceIte,aL,AV.cellsOf,AV.fine,AV.one,aQ,Nat.reduceMul,Nat.reduceAdd,Nat.reduceLeDiff,Nat.reduceEqDiff,Int.reduceToNat,Nat.reduceSub,Nat.reduceMod,Nat.reduceDiv,indexK.aggOf,Int.reducePow,Int.reduceLE,Int.reduceNeg,Int.reduceLT,Int.reduceBEq,Int.reduceBNe,Int.reduceEq,aZ,aU,Try.facts]
  intro b3 hb30 hb3
  simp (disch := omega) only [↓aI,aD,aG,ixA,aX,aV,ag,aT,ae,mkA,ab,bnd,aS,aH,aK,cvO,aJ,aY,↓aO,aW,aE,aF,aM,aA,aC,aB,aN,ad,frz,aR,Nat.reduceBEq,Nat.reduceLT,reduceCtorEq,↓reduceIte,aL,AV.cellsOf,AV.fine,AV.one,aQ,Nat.reduceMul,Nat.reduceAdd,Nat.reduceLeDiff,Nat.reduceEqDiff,Int.reduceToNat,Nat.reduceSub,Nat.reduceMod,Nat.reduceDiv,indexK.aggOf,Int.reducePow,Int.reduceLE,Int.reduceNeg,Int.reduceLT,Int.reduceBEq,Int.reduceBNe,Int.reduceEq,aZ,aU,Try.facts,ah,aj hb3]
  refine CallK.i (h2 _ _ p1.all) ?_
  rintro v H2 ⟨rfl,q⟩
  have v2 := p1.keep q v2 n2
  have p1 := p1.back q
  simp (disch := omega) only [↓aI,aD,aG,ixA,aX,aV,ag,aT,ae,mkA,ab,bnd,aS,aH,aK,cvO,aJ,aY,↓aO,aW,aE,aF,aM,aA,aC,aB,aN,ad,frz,aR,Nat.reduceBEq,Nat.reduceLT,reduceCtorEq,↓reduceIte,aL,AV.cellsOf,AV.fine,AV.one,aQ,Nat.reduceMul,Nat.reduceAdd,Nat.reduceLeDiff,Nat.reduceEqDiff,Int.reduceToNat,Nat.reduceSub,Nat.reduceMod,Nat.reduceDiv,indexK.aggOf,Int.reducePow,Int.reduceLE,Int.reduceNeg,Int.reduceLT,Int.reduceBEq,Int.reduceBNe,Int.reduceEq,aZ,aU,Try.facts,v2,ah]
  exact ⟨_,rfl,_,Abs.Sub.refl _,rfl,p1.put f2 n2⟩
end Go.Proofs.Ytimonfakmadhpaa
end
section
set_option linter.unusedSimpArgs false
set_option linter.unusedVariables false
set_option maxRecDepth 8000
set_option maxHeartbeats 4000000
namespace Go.Proofs.Ytimonfakmadhpaa
open Go Go.Abs Go.Proofs Go.Fug
def rdIns (s : RS) : RS × Ins :=
  ((rdNum (rdFl (rdID (rdID s).1).1).1 0 1114111).1,⟨(rdID s).2,(rdID (rdID s).1).2,(rdFl (rdID (rdID s).1).1).2,(rdNum (rdFl (rdID (rdID s).1).1).1 0 1114111).2⟩)
def rdMar (s : RS) : RS × Mk :=
  let c := rdNum s 0 1099511627776
  let a := rdNum c.1 0 4
  let f := rdAn a.1
  let t := rdAn f.1
  let n := rdNum t.1 0 1099511627776
  let v := rdNum n.1 0 1099511627776
  (v.1,⟨c.2,a.2,f.2.1,f.2.2,t.2.1,t.2.2,n.2,v.2⟩)
def rdBody (s : RS) (kd : Int) : RS × Opn :=
  if kd = 1 then ((rdIns s).1,⟨kd,(rdIns s).2,(0,0),cF⟩)
  else if kd = 2 then ((rdID s).1,⟨kd,cj,(rdID s).2,cF⟩)
  else if kd = 3 then ((rdMar s).1,⟨kd,cj,(0,0),(rdMar s).2⟩)
  else (s,⟨kd,cj,(0,0),cF⟩)
def fixOp (b : RS × Opn) : RS × Opn := if opR b.2 = false then ((b.1.1,if b.1.2 = 0 then 5 else b.1.2),b.2) else b
def rdOp (s : RS) : RS × Opn := fixOp (rdBody (rdNum s 1 3).1 (rdNum s 1 3).2)
theorem rdNum_rng (s : RS) (lo hi : Int) : (rdNum s lo hi).2 = 0 ∨ (lo ≤ (rdNum s lo hi).2 ∧ (rdNum s lo hi).2 ≤ hi) := by
  unfold rdNum
  split
  · split
    · split
      · exact .inl rfl
      · rename_i h
        right
        simp only
        omega
    · exact .inl rfl
  · exact .inl rfl
theorem RdS.step {B H H' : AH} {r k b : Nat} {bs : List UInt8} {s s' : RS} {o : AObj} (p : RdS B H r k bs s) (f : B b = none) (n : ¬ b = r) (q : RdS ((H.set b o).kill r) H' r k bs s') : RdS B H' r k bs s' ∧ H' b = some o ∧ ∀ y x,¬ y = r → ¬ y = b → H y = some x → H' y = some x := by
  have p1 := p.put (o := o) f n
  exact ⟨p1.back q,p1.keep q set_get n,fun y x h1 h2 h3 => p1.keep q (by rw [aP h2]; exact h3) h1⟩
def zC : List AV := opC ⟨0,cj,(0,0),cF⟩
theorem get_live (B H : AH) (r k : Nat) (bs : List UInt8) (s : RS) (p : RdS B H r k bs s) (hr0 : r ≠ 0) : ACalls Try.prog 74 [.ptr r 0] H fun v H' => v = .agg (opC (rdOp s).2) ∧ RdS B H' r k bs (rdOp s).1 := by
  have hnum := fun lo hi s B H p => number_live B H r k bs s lo hi p hr0
  have hid := fun s B H p => getID_live B H r k bs s p hr0
  have hfl := fun s B H p => flag_live B H r k bs s p hr0
  have han := fun s B H p => getAnchor_live B H r k bs s p hr0
  have hfail := fun s B H p => fail_live B H r k bs s 5 p hr0
  have h1 := hnum 1 3 s
  have hR : rdOp s = fixOp (rdBody (rdNum s 1 3).1 (rdNum s 1 3).2) := rfl
  generalize rdOp s = R at *
  generalize rdNum s 1 3 = K at *
  obtain ⟨s1,kd⟩ := K
  simp only at h1 hR
  by_cases k1 : kd = 1
  · subst k1
    unfold rdBody at hR
    rw [if_pos rfl] at hR
    unfold rdIns at hR
    have h2 := hid s1
    generalize rdID s1 = A at *
    obtain ⟨s2,⟨a,c⟩⟩ := A
    simp only at h2 hR
    have h3 := hid s2
    generalize rdID s2 = A at *
    obtain ⟨s3,⟨pa,pc⟩⟩ := A
    simp only at h3 hR
    have h4 := hfl s3
    generalize rdFl s3 = A at *
    obtain ⟨s4,y⟩ := A
    simp only at h4 hR
    have h5 := hnum 0 1114111 s4
    have hrg := rdNum_rng s4 0 1114111
    generalize rdNum s4 0 1114111 = A at *
    obtain ⟨s5,n⟩ := A
    simp only at h5 hR hrg
    have hw : IntKind.i32.wrap n = n := by rw [IntKind.wrap_i32]; omega
    refine ao (c := ⟨Try.prog,65,[(4000007,[0,2,3]),(4000006,[0,2,3]),(4000005,[0,2,3]),(4000004,[0,2,3]),(4000016,[0,2,3]),(4000015,[0,2,3]),(4000014,[0,2,3]),(4000013,[0,2,3]),(4000012,[0,2,3]),(4000011,[0,2,3]),(4000001,[0,2,3])],[],[]⟩) (rs := [ResultVar.cell 2 84]) Try.mixed Try.func74 rfl rfl rfl (Nat.le_of_ble_eq_true rfl) (by kernel_rfl) ?_
    simp (disch := omega) only [↓aI,aD,aG,ixA,aX,aV,ag,aT,ae,mkA,ab,bnd,aS,aH,aK,cvO,aJ,aY,↓aO,aW,aE,aF,aM,aA,aC,aB,aN,ad,frz,aR,Nat.reduceBEq,Nat.reduceLT,reduceCtorEq,↓reduceIte,aL,AV.cellsOf,AV.fine,AV.one,aQ,Nat.reduceMul,Nat.reduceAdd,Nat.reduceLeDiff,Nat.reduceEqDiff,Int.reduceToNat,Nat.reduceSub,Nat.reduceMod,Nat.reduceDiv,indexK.aggOf,Int.reducePow,Int.reduceLE,Int.reduceNeg,Int.reduceLT,Int.reduceBEq,Int.reduceBNe,Int.reduceEq,aZ,aU,Try.facts]
    intro b2 hb20 hb2
    have n2 := p.ne hb2
    have f2 := p.free hb2
    have v2 : (H.set b2 (.cells zC 84 19)) b2 = some (.cells zC 84 19) := set_get
    have p1 := p.put (o := .cells zC 84 19) f2 n2
    simp only [zC,opC,cj,cF] at v2 p1
    refine CallK.i (h1 _ _ p1.all) ?_
    rintro v H1 ⟨rfl,q⟩
    have v2 := p1.keep q v2 n2
    have p1 := p1.back q
    simp (disch := omega) only [↓aI,aD,aG,ixA,aX,aV,ag,aT,ae,mkA,ab,bnd,aS,aH,aK,cvO,aJ,aY,↓aO,aW,aE,aF,aM,aA,aC,aB,aN,ad,frz,aR,Nat.reduceBEq,Nat.reduceLT,reduceCtorEq,↓reduceIte,aL,AV.cellsOf,AV.fine,AV.one,aQ,Nat.reduceMul,Nat.reduceAdd,Nat.reduceLeDiff,Nat.reduceEqDiff,Int.reduceToNat,Nat.reduceSub,Nat.reduceMod,Nat.reduceDiv,indexK.aggOf,Int.reducePow,Int.reduceLE,Int.reduceNeg,Int.reduceLT,Int.reduceBEq,Int.reduceBNe,Int.reduceEq,aZ,aU,Try.facts]
    intro b3 hb30 hb3
    have n3 := p1.ne hb3
    have f3 := p1.free hb3
    have n23 := bA v2 hb3
    simp (disch := omega) only [↓aI,aD,aG,ixA,aX,aV,ag,aT,ae,mkA,ab,bnd,aS,aH,aK,cvO,aJ,aY,↓aO,aW,aE,aF,aM,aA,aC,aB,aN,ad,frz,aR,Nat.reduceBEq,Nat.reduceLT,reduceCtorEq,↓reduceIte,aL,AV.cellsOf,AV.fine,AV.one,aQ,Nat.reduceMul,Nat.reduceAdd,Nat.reduceLeDiff,Nat.reduceEqDiff,Int.reduceToNat,Nat.reduceSub,Nat.reduceMod,Nat.reduceDiv,indexK.aggOf,Int.reducePow,Int.reduceLE,Int.reduceNeg,Int.reduceLT,Int.reduceBEq,Int.reduceBNe,Int.reduceEq,aZ,aU,Try.facts,dT,dF,qT,qF,nT,nF,Bool.false_and,Bool.and_false,ah]
    refine CallK.i (h2 _ _ (p1.put f3 n3).all) ?_
    rintro v H2 ⟨rfl,q⟩
    obtain ⟨p1,v3,fr⟩ := p1.step f3 n3 q
    have v2 := fr _ _ n2 n23 v2
    simp (disch := omega) only [↓aI,aD,aG,ixA,aX,aV,ag,aT,ae,mkA,ab,bnd,aS,aH,aK,cvO,aJ,aY,↓aO,aW,aE,aF,aM,aA,aC,aB,aN,ad,frz,aR,Nat.reduceBEq,Nat.reduceLT,reduceCtorEq,↓reduceIte,aL,AV.cellsOf,AV.fine,AV.one,aQ,Nat.reduceMul,Nat.reduceAdd,Nat.reduceLeDiff,Nat.reduceEqDiff,Int.reduceToNat,Nat.reduceSub,Nat.reduceMod,Nat.reduceDiv,indexK.aggOf,Int.reducePow,Int.reduceLE,Int.reduceNeg,Int.reduceLT,Int.reduceBEq,Int.reduceBNe,Int.reduceEq,aZ,aU,Try.facts,v2,v3,ah]
    refine CallK.i (h3 _ _ (p1.put f3 n3).all) ?_
    rintro v H3 ⟨rfl,q⟩
    obtain ⟨p1,v3,fr⟩ := p1.step f3 n3 q
    have v2 := fr _ _ n2 n23 v2
    simp (disch := omega) only [↓aI,aD,aG,ixA,aX,aV,ag,aT,ae,mkA,ab,bnd,aS,aH,aK,cvO,aJ,aY,↓aO,aW,aE,aF,aM,aA,aC,aB,aN,ad,frz,aR,Nat.reduceBEq,Nat.reduceLT,reduceCtorEq,↓reduceIte,aL,AV.cellsOf,AV.fine,AV.one,aQ,Nat.reduceMul,Nat.reduceAdd,Nat.reduceLeDiff,Nat.reduceEqDiff,Int.reduceToNat,Nat.reduceSub,Nat.reduceMod,Nat.reduceDiv,indexK.aggOf,Int.reducePow,Int.reduceLE,Int.reduceNeg,Int.reduceLT,Int.reduceBEq,Int.reduceBNe,Int.reduceEq,aZ,aU,Try.facts,v2,v3,ah]
    refine CallK.i (h4 _ _ (p1.put f3 n3).all) ?_
    rintro v H4 ⟨rfl,q⟩
    obtain ⟨p1,v3,fr⟩ := p1.step f3 n3 q
    have v2 := fr _ _ n2 n23 v2
    simp (disch := omega) only [↓aI,aD,aG,ixA,aX,aV,ag,aT,ae,mkA,ab,bnd,aS,aH,aK,cvO,aJ,aY,↓aO,aW,aE,aF,aM,aA,aC,aB,aN,ad,frz,aR,Nat.reduceBEq,Nat.reduceLT,reduceCtorEq,↓reduceIte,aL,AV.cellsOf,AV.fine,AV.one,aQ,Nat.reduceMul,Nat.reduceAdd,Nat.reduceLeDiff,Nat.reduceEqDiff,Int.reduceToNat,Nat.reduceSub,Nat.reduceMod,Nat.reduceDiv,indexK.aggOf,Int.reducePow,Int.reduceLE,Int.reduceNeg,Int.reduceLT,Int.reduceBEq,Int.reduceBNe,Int.reduceEq,aZ,aU,Try.facts,v2,v3,ah]
    refine CallK.i (h5 _ _ (p1.put f3 n3).all) ?_
    rintro v H5 ⟨rfl,q⟩
    obtain ⟨p1,v3,fr⟩ := p1.step f3 n3 q
    have v2 := fr _ _ n2 n23 v2
    simp (disch := omega) only [↓aI,aD,aG,ixA,aX,aV,ag,aT,ae,mkA,ab,bnd,aS,aH,aK,cvO,aJ,aY,↓aO,aW,aE,aF,aM,aA,aC,aB,aN,ad,frz,aR,Nat.reduceBEq,Nat.reduceLT,reduceCtorEq,↓reduceIte,aL,AV.cellsOf,AV.fine,AV.one,aQ,Nat.reduceMul,Nat.reduceAdd,Nat.reduceLeDiff,Nat.reduceEqDiff,Int.reduceToNat,Nat.reduceSub,Nat.reduceMod,Nat.reduceDiv,indexK.aggOf,Int.reducePow,Int.reduceLE,Int.reduceNeg,Int.reduceLT,Int.reduceBEq,Int.reduceBNe,Int.reduceEq,aZ,aU,Try.facts,v2,v3,ah,hw]
    have hpr := pright_pure ⟨1,⟨(a,c),(pa,pc),y,n⟩,(0,0),cF⟩
    unfold fixOp at hR
    dsimp only at hR
    generalize opR ⟨1,⟨(a,c),(pa,pc),y,n⟩,(0,0),cF⟩ = ob at hpr hR
    simp only [opC,cj,cF] at hpr
    cases ob with
    | true =>
      rw [if_neg (by simp)] at hR
      subst hR
      first | refine CallK.p (hpr) ?_ | refine CallP.i (hpr) ?_
      simp (disch := omega) only [↓aI,aD,aG,ixA,aX,aV,ag,aT,ae,mkA,ab,bnd,aS,aH,aK,cvO,aJ,aY,↓aO,aW,aE,aF,aM,aA,aC,aB,aN,ad,frz,aR,Nat.reduceBEq,Nat.reduceLT,reduceCtorEq,↓reduceIte,aL,AV.cellsOf,AV.fine,AV.one,aQ,Nat.reduceMul,Nat.reduceAdd,Nat.reduceLeDiff,Nat.reduceEqDiff,Int.reduceToNat,Nat.reduceSub,Nat.reduceMod,Nat.reduceDiv,indexK.aggOf,Int.reducePow,Int.reduceLE,Int.reduceNeg,Int.reduceLT,Int.reduceBEq,Int.reduceBNe,Int.reduceEq,aZ,aU,Try.facts,v2,v3,ah,aP,n23]
      exact ⟨_,rfl,_,Abs.Sub.refl _,rfl,(p1.put f3 n3).put f2 n2⟩
    | false =>
      rw [if_pos rfl] at hR
      subst hR
      first | refine CallK.p (hpr) ?_ | refine CallP.i (hpr) ?_
      simp (disch := omega) only [↓aI,aD,aG,ixA,aX,aV,ag,aT,ae,mkA,ab,bnd,aS,aH,aK,cvO,aJ,aY,↓aO,aW,aE,aF,aM,aA,aC,aB,aN,ad,frz,aR,Nat.reduceBEq,Nat.reduceLT,reduceCtorEq,↓reduceIte,aL,AV.cellsOf,AV.fine,AV.one,aQ,Nat.reduceMul,Nat.reduceAdd,Nat.reduceLeDiff,Nat.reduceEqDiff,Int.reduceToNat,Nat.reduceSub,Nat.reduceMod,Nat.reduceDiv,indexK.aggOf,Int.reducePow,Int.reduceLE,Int.reduceNeg,Int.reduceLT,Int.reduceBEq,Int.reduceBNe,Int.reduceEq,aZ,aU,Try.facts,v2,v3,ah]
      refine CallK.i (hfail _ _ _ (p1.put f3 n3).all) ?_
      rintro v HL q
      obtain ⟨p1,v3,fr⟩ := p1.step f3 n3 q
      have v2 := fr _ _ n2 n23 v2
      simp (disch := omega) only [↓aI,aD,aG,ixA,aX,aV,ag,aT,ae,mkA,ab,bnd,aS,aH,aK,cvO,aJ,aY,↓aO,aW,aE,aF,aM,aA,aC,aB,aN,ad,frz,aR,Nat.reduceBEq,Nat.reduceLT,reduceCtorEq,↓reduceIte,aL,AV.cellsOf,AV.fine,AV.one,aQ,Nat.reduceMul,Nat.reduceAdd,Nat.reduceLeDiff,Nat.reduceEqDiff,Int.reduceToNat,Nat.reduceSub,Nat.reduceMod,Nat.reduceDiv,indexK.aggOf,Int.reducePow,Int.reduceLE,Int.reduceNeg,Int.reduceLT,Int.reduceBEq,Int.reduceBNe,Int.reduceEq,aZ,aU,Try.facts,v2,v3,ah]
      exact ⟨_,rfl,_,Abs.Sub.refl _,rfl,p1.put f2 n2⟩
  · by_cases k2 : kd = 2
    · subst k2
      unfold rdBody at hR
      rw [if_neg k1,if_pos rfl] at hR
      have h2 := hid s1
      generalize rdID s1 = A at *
      obtain ⟨s2,⟨a,c⟩⟩ := A
      simp only at h2 hR
      refine ao (c := ⟨Try.prog,65,[(4000007,[0,2,3]),(4000006,[0,2,3]),(4000005,[0,2,3]),(4000004,[0,2,3]),(4000016,[0,2,3]),(4000015,[0,2,3]),(4000014,[0,2,3]),(4000013,[0,2,3]),(4000012,[0,2,3]),(4000011,[0,2,3]),(4000001,[0,2,3])],[],[]⟩) (rs := [ResultVar.cell 2 84]) Try.mixed Try.func74 rfl rfl rfl (Nat.le_of_ble_eq_true rfl) (by kernel_rfl) ?_
      simp (disch := omega) only [↓aI,aD,aG,ixA,aX,aV,ag,aT,ae,mkA,ab,bnd,aS,aH,aK,cvO,aJ,aY,↓aO,aW,aE,aF,aM,aA,aC,aB,aN,ad,frz,aR,Nat.reduceBEq,Nat.reduceLT,reduceCtorEq,↓reduceIte,aL,AV.cellsOf,AV.fine,AV.one,aQ,Nat.reduceMul,Nat.reduceAdd,Nat.reduceLeDiff,Nat.reduceEqDiff,Int.reduceToNat,Nat.reduceSub,Nat.reduceMod,Nat.reduceDiv,indexK.aggOf,Int.reducePow,Int.reduceLE,Int.reduceNeg,Int.reduceLT,Int.reduceBEq,Int.reduceBNe,Int.reduceEq,aZ,aU,Try.facts]
      intro b2 hb20 hb2
      have n2 := p.ne hb2
      have f2 := p.free hb2
      have v2 : (H.set b2 (.cells zC 84 19)) b2 = some (.cells zC 84 19) := set_get
      have p1 := p.put (o := .cells zC 84 19) f2 n2
      simp only [zC,opC,cj,cF] at v2 p1
      refine CallK.i (h1 _ _ p1.all) ?_
      rintro v H1 ⟨rfl,q⟩
      have v2 := p1.keep q v2 n2
      have p1 := p1.back q
      simp (disch := omega) only [↓aI,aD,aG,ixA,aX,aV,ag,aT,ae,mkA,ab,bnd,aS,aH,aK,cvO,aJ,aY,↓aO,aW,aE,aF,aM,aA,aC,aB,aN,ad,frz,aR,Nat.reduceBEq,Nat.reduceLT,reduceCtorEq,↓reduceIte,aL,AV.cellsOf,AV.fine,AV.one,aQ,Nat.reduceMul,Nat.reduceAdd,Nat.reduceLeDiff,Nat.reduceEqDiff,Int.reduceToNat,Nat.reduceSub,Nat.reduceMod,Nat.reduceDiv,indexK.aggOf,Int.reducePow,Int.reduceLE,Int.reduceNeg,Int.reduceLT,Int.reduceBEq,Int.reduceBNe,Int.reduceEq,aZ,aU,Try.facts]
      intro b3 hb30 hb3
      have n3 := p1.ne hb3
      have f3 := p1.free hb3
      have n23 := bA v2 hb3
      simp (disch := omega) only [↓aI,aD,aG,ixA,aX,aV,ag,aT,ae,mkA,ab,bnd,aS,aH,aK,cvO,aJ,aY,↓aO,aW,aE,aF,aM,aA,aC,aB,aN,ad,frz,aR,Nat.reduceBEq,Nat.reduceLT,reduceCtorEq,↓reduceIte,aL,AV.cellsOf,AV.fine,AV.one,aQ,Nat.reduceMul,Nat.reduceAdd,Nat.reduceLeDiff,Nat.reduceEqDiff,Int.reduceToNat,Nat.reduceSub,Nat.reduceMod,Nat.reduceDiv,indexK.aggOf,Int.reducePow,Int.reduceLE,Int.reduceNeg,Int.reduceLT,Int.reduceBEq,Int.reduceBNe,Int.reduceEq,aZ,aU,Try.facts,dT,dF,qT,qF,nT,nF,Bool.false_and,Bool.and_false,ah]
      refine CallK.i (h2 _ _ (p1.put f3 n3).all) ?_
      rintro v H2 ⟨rfl,q⟩
      obtain ⟨p1,v3,fr⟩ := p1.step f3 n3 q
      have v2 := fr _ _ n2 n23 v2
      simp (disch := omega) only [↓aI,aD,aG,ixA,aX,aV,ag,aT,ae,mkA,ab,bnd,aS,aH,aK,cvO,aJ,aY,↓aO,aW,aE,aF,aM,aA,aC,aB,aN,ad,frz,aR,Nat.reduceBEq,Nat.reduceLT,reduceCtorEq,↓reduceIte,aL,AV.cellsOf,AV.fine,AV.one,aQ,Nat.reduceMul,Nat.reduceAdd,Nat.reduceLeDiff,Nat.reduceEqDiff,Int.reduceToNat,Nat.reduceSub,Nat.reduceMod,Nat.reduceDiv,indexK.aggOf,Int.reducePow,Int.reduceLE,Int.reduceNeg,Int.reduceLT,Int.reduceBEq,Int.reduceBNe,Int.reduceEq,aZ,aU,Try.facts,v2,v3,ah]
      have hpr := pright_pure ⟨2,cj,(a,c),cF⟩
      unfold fixOp at hR
      dsimp only at hR
      generalize opR ⟨2,cj,(a,c),cF⟩ = ob at hpr hR
      simp only [opC,cj,cF] at hpr
      cases ob with
      | true =>
        rw [if_neg (by simp)] at hR
        subst hR
        first | refine CallK.p (hpr) ?_ | refine CallP.i (hpr) ?_
        simp (disch := omega) only [↓aI,aD,aG,ixA,aX,aV,ag,aT,ae,mkA,ab,bnd,aS,aH,aK,cvO,aJ,aY,↓aO,aW,aE,aF,aM,aA,aC,aB,aN,ad,frz,aR,Nat.reduceBEq,Nat.reduceLT,reduceCtorEq,↓reduceIte,aL,AV.cellsOf,AV.fine,AV.one,aQ,Nat.reduceMul,Nat.reduceAdd,Nat.reduceLeDiff,Nat.reduceEqDiff,Int.reduceToNat,Nat.reduceSub,Nat.reduceMod,Nat.reduceDiv,indexK.aggOf,Int.reducePow,Int.reduceLE,Int.reduceNeg,Int.reduceLT,Int.reduceBEq,Int.reduceBNe,Int.reduceEq,aZ,aU,Try.facts,v2,v3,ah,aP,n23]
        exact ⟨_,rfl,_,Abs.Sub.refl _,rfl,(p1.put f3 n3).put f2 n2⟩
      | false =>
        rw [if_pos rfl] at hR
        subst hR
        first | refine CallK.p (hpr) ?_ | refine CallP.i (hpr) ?_
        simp (disch := omega) only [↓aI,aD,aG,ixA,aX,aV,ag,aT,ae,mkA,ab,bnd,aS,aH,aK,cvO,aJ,aY,↓aO,aW,aE,aF,aM,aA,aC,aB,aN,ad,frz,aR,Nat.reduceBEq,Nat.reduceLT,reduceCtorEq,↓reduceIte,aL,AV.cellsOf,AV.fine,AV.one,aQ,Nat.reduceMul,Nat.reduceAdd,Nat.reduceLeDiff,Nat.reduceEqDiff,Int.reduceToNat,Nat.reduceSub,Nat.reduceMod,Nat.reduceDiv,indexK.aggOf,Int.reducePow,Int.reduceLE,Int.reduceNeg,Int.reduceLT,Int.reduceBEq,Int.reduceBNe,Int.reduceEq,aZ,aU,Try.facts,v2,v3,ah]
        refine CallK.i (hfail _ _ _ (p1.put f3 n3).all) ?_
        rintro v HL q
        obtain ⟨p1,v3,fr⟩ := p1.step f3 n3 q
        have v2 := fr _ _ n2 n23 v2
        simp (disch := omega) only [↓aI,aD,aG,ixA,aX,aV,ag,aT,ae,mkA,ab,bnd,aS,aH,aK,cvO,aJ,aY,↓aO,aW,aE,aF,aM,aA,aC,aB,aN,ad,frz,aR,Nat.reduceBEq,Nat.reduceLT,reduceCtorEq,↓reduceIte,aL,AV.cellsOf,AV.fine,AV.one,aQ,Nat.reduceMul,Nat.reduceAdd,Nat.reduceLeDiff,Nat.reduceEqDiff,Int.reduceToNat,Nat.reduceSub,Nat.reduceMod,Nat.reduceDiv,indexK.aggOf,Int.reducePow,Int.reduceLE,Int.reduceNeg,Int.reduceLT,Int.reduceBEq,Int.reduceBNe,Int.reduceEq,aZ,aU,Try.facts,v2,v3,ah]
        exact ⟨_,rfl,_,Abs.Sub.refl _,rfl,p1.put f2 n2⟩
    · by_cases k3 : kd = 3
      · subst k3
        unfold rdBody at hR
        rw [if_neg k1,if_neg k2,if_pos rfl] at hR
        unfold rdMar at hR
        have h2 := hnum 0 1099511627776 s1
        generalize rdNum s1 0 1099511627776 = A at *
        obtain ⟨s2,mc⟩ := A
        simp only at h2 hR
        have h3 := hnum 0 4 s2
        generalize rdNum s2 0 4 = A at *
        obtain ⟨s3,ma⟩ := A
        simp only at h3 hR
        have h4 := han s3
        generalize rdAn s3 = A at *
        obtain ⟨s4,⟨⟨g1,g2⟩,fb⟩⟩ := A
        simp only at h4 hR
        have h5 := han s4
        generalize rdAn s4 = A at *
        obtain ⟨s5,⟨⟨t1,t2⟩,tb⟩⟩ := A
        simp only at h5 hR
        have h6 := hnum 0 1099511627776 s5
        generalize rdNum s5 0 1099511627776 = A at *
        obtain ⟨s6,nm⟩ := A
        simp only at h6 hR
        have h7 := hnum 0 1099511627776 s6
        generalize rdNum s6 0 1099511627776 = A at *
        obtain ⟨s7,vl⟩ := A
        simp only at h7 hR
        refine ao (c := ⟨Try.prog,65,[(4000007,[0,2,3]),(4000006,[0,2,3]),(4000005,[0,2,3]),(4000004,[0,2,3]),(4000016,[0,2,3]),(4000015,[0,2,3]),(4000014,[0,2,3]),(4000013,[0,2,3]),(4000012,[0,2,3]),(4000011,[0,2,3]),(4000001,[0,2,3])],[],[]⟩) (rs := [ResultVar.cell 2 84]) Try.mixed Try.func74 rfl rfl rfl (Nat.le_of_ble_eq_true rfl) (by kernel_rfl) ?_
        simp (disch := omega) only [↓aI,aD,aG,ixA,aX,aV,ag,aT,ae,mkA,ab,bnd,aS,aH,aK,cvO,aJ,aY,↓aO,aW,aE,aF,aM,aA,aC,aB,aN,ad,frz,aR,Nat.reduceBEq,Nat.reduceLT,reduceCtorEq,↓reduceIte,aL,AV.cellsOf,AV.fine,AV.one,aQ,Nat.reduceMul,Nat.reduceAdd,Nat.reduceLeDiff,Nat.reduceEqDiff,Int.reduceToNat,Nat.reduceSub,Nat.reduceMod,Nat.reduceDiv,indexK.aggOf,Int.reducePow,Int.reduceLE,Int.reduceNeg,Int.reduceLT,Int.reduceBEq,Int.reduceBNe,Int.reduceEq,aZ,aU,Try.facts]
        intro b2 hb20 hb2
        have n2 := p.ne hb2
        have f2 := p.free hb2
        have v2 : (H.set b2 (.cells zC 84 19)) b2 = some (.cells zC 84 19) := set_get
        have p1 := p.put (o := .cells zC 84 19) f2 n2
        simp only [zC,opC,cj,cF] at v2 p1
        refine CallK.i (h1 _ _ p1.all) ?_
        rintro v H1 ⟨rfl,q⟩
        have v2 := p1.keep q v2 n2
        have p1 := p1.back q
        simp (disch := omega) only [↓aI,aD,aG,ixA,aX,aV,ag,aT,ae,mkA,ab,bnd,aS,aH,aK,cvO,aJ,aY,↓aO,aW,aE,aF,aM,aA,aC,aB,aN,ad,frz,aR,Nat.reduceBEq,Nat.reduceLT,reduceCtorEq,↓reduceIte,aL,AV.cellsOf,AV.fine,AV.one,aQ,Nat.reduceMul,Nat.reduceAdd,Nat.reduceLeDiff,Nat.reduceEqDiff,Int.reduceToNat,Nat.reduceSub,Nat.reduceMod,Nat.reduceDiv,indexK.aggOf,Int.reducePow,Int.reduceLE,Int.reduceNeg,Int.reduceLT,Int.reduceBEq,Int.reduceBNe,Int.reduceEq,aZ,aU,Try.facts]
        intro b3 hb30 hb3
        have n3 := p1.ne hb3
        have f3 := p1.free hb3
        have n23 := bA v2 hb3
        simp (disch := omega) only [↓aI,aD,aG,ixA,aX,aV,ag,aT,ae,mkA,ab,bnd,aS,aH,aK,cvO,aJ,aY,↓aO,aW,aE,aF,aM,aA,aC,aB,aN,ad,frz,aR,Nat.reduceBEq,Nat.reduceLT,reduceCtorEq,↓reduceIte,aL,AV.cellsOf,AV.fine,AV.one,aQ,Nat.reduceMul,Nat.reduceAdd,Nat.reduceLeDiff,Nat.reduceEqDiff,Int.reduceToNat,Nat.reduceSub,Nat.reduceMod,Nat.reduceDiv,indexK.aggOf,Int.reducePow,Int.reduceLE,Int.reduceNeg,Int.reduceLT,Int.reduceBEq,Int.reduceBNe,Int.reduceEq,aZ,aU,Try.facts,dT,dF,qT,qF,nT,nF,Bool.false_and,Bool.and_false,ah]
        refine CallK.i (h2 _ _ (p1.put f3 n3).all) ?_
        rintro v H2 ⟨rfl,q⟩
        obtain ⟨p1,v3,fr⟩ := p1.step f3 n3 q
        have v2 := fr _ _ n2 n23 v2
        simp (disch := omega) only [↓aI,aD,aG,ixA,aX,aV,ag,aT,ae,mkA,ab,bnd,aS,aH,aK,cvO,aJ,aY,↓aO,aW,aE,aF,aM,aA,aC,aB,aN,ad,frz,aR,Nat.reduceBEq,Nat.reduceLT,reduceCtorEq,↓reduceIte,aL,AV.cellsOf,AV.fine,AV.one,aQ,Nat.reduceMul,Nat.reduceAdd,Nat.reduceLeDiff,Nat.reduceEqDiff,Int.reduceToNat,Nat.reduceSub,Nat.reduceMod,Nat.reduceDiv,indexK.aggOf,Int.reducePow,Int.reduceLE,Int.reduceNeg,Int.reduceLT,Int.reduceBEq,Int.reduceBNe,Int.reduceEq,aZ,aU,Try.facts,v2,v3,ah]
        refine CallK.i (h3 _ _ (p1.put f3 n3).all) ?_
        rintro v H3 ⟨rfl,q⟩
        obtain ⟨p1,v3,fr⟩ := p1.step f3 n3 q
        have v2 := fr _ _ n2 n23 v2
        simp (disch := omega) only [↓aI,aD,aG,ixA,aX,aV,ag,aT,ae,mkA,ab,bnd,aS,aH,aK,cvO,aJ,aY,↓aO,aW,aE,aF,aM,aA,aC,aB,aN,ad,frz,aR,Nat.reduceBEq,Nat.reduceLT,reduceCtorEq,↓reduceIte,aL,AV.cellsOf,AV.fine,AV.one,aQ,Nat.reduceMul,Nat.reduceAdd,Nat.reduceLeDiff,Nat.reduceEqDiff,Int.reduceToNat,Nat.reduceSub,Nat.reduceMod,Nat.reduceDiv,indexK.aggOf,Int.reducePow,Int.reduceLE,Int.reduceNeg,Int.reduceLT,Int.reduceBEq,Int.reduceBNe,Int.reduceEq,aZ,aU,Try.facts,v2,v3,ah]
        refine CallK.i (h4 _ _ (p1.put f3 n3).all) ?_
        rintro v H4 ⟨rfl,q⟩
        obtain ⟨p1,v3,fr⟩ := p1.step f3 n3 q
        have v2 := fr _ _ n2 n23 v2
        simp (disch := omega) only [↓aI,aD,aG,ixA,aX,aV,ag,aT,ae,mkA,ab,bnd,aS,aH,aK,cvO,aJ,aY,↓aO,aW,aE,aF,aM,aA,aC,aB,aN,ad,frz,aR,Nat.reduceBEq,Nat.reduceLT,reduceCtorEq,↓reduceIte,aL,AV.cellsOf,AV.fine,AV.one,aQ,Nat.reduceMul,Nat.reduceAdd,Nat.reduceLeDiff,Nat.reduceEqDiff,Int.reduceToNat,Nat.reduceSub,Nat.reduceMod,Nat.reduceDiv,indexK.aggOf,Int.reducePow,Int.reduceLE,Int.reduceNeg,Int.reduceLT,Int.reduceBEq,Int.reduceBNe,Int.reduceEq,aZ,aU,Try.facts,v2,v3,ah]
        refine CallK.i (h5 _ _ (p1.put f3 n3).all) ?_
        rintro v H5 ⟨rfl,q⟩
        obtain ⟨p1,v3,fr⟩ := p1.step f3 n3 q
        have v2 := fr _ _ n2 n23 v2
        simp (disch := omega) only [↓aI,aD,aG,ixA,aX,aV,ag,aT,ae,mkA,ab,bnd,aS,aH,aK,cvO,aJ,aY,↓aO,aW,aE,aF,aM,aA,aC,aB,aN,ad,frz,aR,Nat.reduceBEq,Nat.reduceLT,reduceCtorEq,↓reduceIte,aL,AV.cellsOf,AV.fine,AV.one,aQ,Nat.reduceMul,Nat.reduceAdd,Nat.reduceLeDiff,Nat.reduceEqDiff,Int.reduceToNat,Nat.reduceSub,Nat.reduceMod,Nat.reduceDiv,indexK.aggOf,Int.reducePow,Int.reduceLE,Int.reduceNeg,Int.reduceLT,Int.reduceBEq,Int.reduceBNe,Int.reduceEq,aZ,aU,Try.facts,v2,v3,ah]
        refine CallK.i (h6 _ _ (p1.put f3 n3).all) ?_
        rintro v H6 ⟨rfl,q⟩
        obtain ⟨p1,v3,fr⟩ := p1.step f3 n3 q
        have v2 := fr _ _ n2 n23 v2
        simp (disch := omega) only [↓aI,aD,aG,ixA,aX,aV,ag,aT,ae,mkA,ab,bnd,aS,aH,aK,cvO,aJ,aY,↓aO,aW,aE,aF,aM,aA,aC,aB,aN,ad,frz,aR,Nat.reduceBEq,Nat.reduceLT,reduceCtorEq,↓reduceIte,aL,AV.cellsOf,AV.fine,AV.one,aQ,Nat.reduceMul,Nat.reduceAdd,Nat.reduceLeDiff,Nat.reduceEqDiff,Int.reduceToNat,Nat.reduceSub,Nat.reduceMod,Nat.reduceDiv,indexK.aggOf,Int.reducePow,Int.reduceLE,Int.reduceNeg,Int.reduceLT,Int.reduceBEq,Int.reduceBNe,Int.reduceEq,aZ,aU,Try.facts,v2,v3,ah]
        refine CallK.i (h7 _ _ (p1.put f3 n3).all) ?_
        rintro v H7 ⟨rfl,q⟩
        obtain ⟨p1,v3,fr⟩ := p1.step f3 n3 q
        have v2 := fr _ _ n2 n23 v2
        simp (disch := omega) only [↓aI,aD,aG,ixA,aX,aV,ag,aT,ae,mkA,ab,bnd,aS,aH,aK,cvO,aJ,aY,↓aO,aW,aE,aF,aM,aA,aC,aB,aN,ad,frz,aR,Nat.reduceBEq,Nat.reduceLT,reduceCtorEq,↓reduceIte,aL,AV.cellsOf,AV.fine,AV.one,aQ,Nat.reduceMul,Nat.reduceAdd,Nat.reduceLeDiff,Nat.reduceEqDiff,Int.reduceToNat,Nat.reduceSub,Nat.reduceMod,Nat.reduceDiv,indexK.aggOf,Int.reducePow,Int.reduceLE,Int.reduceNeg,Int.reduceLT,Int.reduceBEq,Int.reduceBNe,Int.reduceEq,aZ,aU,Try.facts,v2,v3,ah]
        have hpr := pright_pure ⟨3,cj,(0,0),⟨mc,ma,(g1,g2),fb,(t1,t2),tb,nm,vl⟩⟩
        unfold fixOp at hR
        dsimp only at hR
        generalize opR ⟨3,cj,(0,0),⟨mc,ma,(g1,g2),fb,(t1,t2),tb,nm,vl⟩⟩ = ob at hpr hR
        simp only [opC,cj,cF] at hpr
        cases ob with
        | true =>
          rw [if_neg (by simp)] at hR
          subst hR
          first | refine CallK.p (hpr) ?_ | refine CallP.i (hpr) ?_
          simp (disch := omega) only [↓aI,aD,aG,ixA,aX,aV,ag,aT,ae,mkA,ab,bnd,aS,aH,aK,cvO,aJ,aY,↓aO,aW,aE,aF,aM,aA,aC,aB,aN,ad,frz,aR,Nat.reduceBEq,Nat.reduceLT,reduceCtorEq,↓reduceIte,aL,AV.cellsOf,AV.fine,AV.one,aQ,Nat.reduceMul,Nat.reduceAdd,Nat.reduceLeDiff,Nat.reduceEqDiff,Int.reduceToNat,Nat.reduceSub,Nat.reduceMod,Nat.reduceDiv,indexK.aggOf,Int.reducePow,Int.reduceLE,Int.reduceNeg,Int.reduceLT,Int.reduceBEq,Int.reduceBNe,Int.reduceEq,aZ,aU,Try.facts,v2,v3,ah,aP,n23]
          exact ⟨_,rfl,_,Abs.Sub.refl _,rfl,(p1.put f3 n3).put f2 n2⟩
        | false =>
          rw [if_pos rfl] at hR
          subst hR
          first | refine CallK.p (hpr) ?_ | refine CallP.i (hpr) ?_
          simp (disch := omega) only [↓aI,aD,aG,ixA,aX,aV,ag,aT,ae,mkA,ab,bnd,aS,aH,aK,cvO,aJ,aY,↓aO,aW,aE,aF,aM,aA,aC,aB,aN,ad,frz,aR,Nat.reduceBEq,Nat.reduceLT,reduceCtorEq,↓reduceIte,aL,AV.cellsOf,AV.fine,AV.one,aQ,Nat.reduceMul,Nat.reduceAdd,Nat.reduceLeDiff,Nat.reduceEqDiff,Int.reduceToNat,Nat.reduceSub,Nat.reduceMod,Nat.reduceDiv,indexK.aggOf,Int.reducePow,Int.reduceLE,Int.reduceNeg,Int.reduceLT,Int.reduceBEq,Int.reduceBNe,Int.reduceEq,aZ,aU,Try.facts,v2,v3,ah]
          refine CallK.i (hfail _ _ _ (p1.put f3 n3).all) ?_
          rintro v HL q
          obtain ⟨p1,v3,fr⟩ := p1.step f3 n3 q
          have v2 := fr _ _ n2 n23 v2
          simp (disch := omega) only [↓aI,aD,aG,ixA,aX,aV,ag,aT,ae,mkA,ab,bnd,aS,aH,aK,cvO,aJ,aY,↓aO,aW,aE,aF,aM,aA,aC,aB,aN,ad,frz,aR,Nat.reduceBEq,Nat.reduceLT,reduceCtorEq,↓reduceIte,aL,AV.cellsOf,AV.fine,AV.one,aQ,Nat.reduceMul,Nat.reduceAdd,Nat.reduceLeDiff,Nat.reduceEqDiff,Int.reduceToNat,Nat.reduceSub,Nat.reduceMod,Nat.reduceDiv,indexK.aggOf,Int.reducePow,Int.reduceLE,Int.reduceNeg,Int.reduceLT,Int.reduceBEq,Int.reduceBNe,Int.reduceEq,aZ,aU,Try.facts,v2,v3,ah]
          exact ⟨_,rfl,_,Abs.Sub.refl _,rfl,p1.put f2 n2⟩
      · unfold rdBody at hR
        rw [if_neg k1,if_neg k2,if_neg k3] at hR
        refine ao (c := ⟨Try.prog,65,[(4000007,[0,2,3]),(4000006,[0,2,3]),(4000005,[0,2,3]),(4000004,[0,2,3]),(4000016,[0,2,3]),(4000015,[0,2,3]),(4000014,[0,2,3]),(4000013,[0,2,3]),(4000012,[0,2,3]),(4000011,[0,2,3]),(4000001,[0,2,3])],[],[]⟩) (rs := [ResultVar.cell 2 84]) Try.mixed Try.func74 rfl rfl rfl (Nat.le_of_ble_eq_true rfl) (by kernel_rfl) ?_
        simp (disch := omega) only [↓aI,aD,aG,ixA,aX,aV,ag,aT,ae,mkA,ab,bnd,aS,aH,aK,cvO,aJ,aY,↓aO,aW,aE,aF,aM,aA,aC,aB,aN,ad,frz,aR,Nat.reduceBEq,Nat.reduceLT,reduceCtorEq,↓reduceIte,aL,AV.cellsOf,AV.fine,AV.one,aQ,Nat.reduceMul,Nat.reduceAdd,Nat.reduceLeDiff,Nat.reduceEqDiff,Int.reduceToNat,Nat.reduceSub,Nat.reduceMod,Nat.reduceDiv,indexK.aggOf,Int.reducePow,Int.reduceLE,Int.reduceNeg,Int.reduceLT,Int.reduceBEq,Int.reduceBNe,Int.reduceEq,aZ,aU,Try.facts]
        intro b2 hb20 hb2
        have n2 := p.ne hb2
        have f2 := p.free hb2
        have v2 : (H.set b2 (.cells zC 84 19)) b2 = some (.cells zC 84 19) := set_get
        have p1 := p.put (o := .cells zC 84 19) f2 n2
        simp only [zC,opC,cj,cF] at v2 p1
        refine CallK.i (h1 _ _ p1.all) ?_
        rintro v H1 ⟨rfl,q⟩
        have v2 := p1.keep q v2 n2
        have p1 := p1.back q
        simp (disch := omega) only [↓aI,aD,aG,ixA,aX,aV,ag,aT,ae,mkA,ab,bnd,aS,aH,aK,cvO,aJ,aY,↓aO,aW,aE,aF,aM,aA,aC,aB,aN,ad,frz,aR,Nat.reduceBEq,Nat.reduceLT,reduceCtorEq,↓reduceIte,aL,AV.cellsOf,AV.fine,AV.one,aQ,Nat.reduceMul,Nat.reduceAdd,Nat.reduceLeDiff,Nat.reduceEqDiff,Int.reduceToNat,Nat.reduceSub,Nat.reduceMod,Nat.reduceDiv,indexK.aggOf,Int.reducePow,Int.reduceLE,Int.reduceNeg,Int.reduceLT,Int.reduceBEq,Int.reduceBNe,Int.reduceEq,aZ,aU,Try.facts]
        intro b3 hb30 hb3
        have n3 := p1.ne hb3
        have f3 := p1.free hb3
        have n23 := bA v2 hb3
        simp (disch := omega) only [↓aI,aD,aG,ixA,aX,aV,ag,aT,ae,mkA,ab,bnd,aS,aH,aK,cvO,aJ,aY,↓aO,aW,aE,aF,aM,aA,aC,aB,aN,ad,frz,aR,Nat.reduceBEq,Nat.reduceLT,reduceCtorEq,↓reduceIte,aL,AV.cellsOf,AV.fine,AV.one,aQ,Nat.reduceMul,Nat.reduceAdd,Nat.reduceLeDiff,Nat.reduceEqDiff,Int.reduceToNat,Nat.reduceSub,Nat.reduceMod,Nat.reduceDiv,indexK.aggOf,Int.reducePow,Int.reduceLE,Int.reduceNeg,Int.reduceLT,Int.reduceBEq,Int.reduceBNe,Int.reduceEq,aZ,aU,Try.facts,dT,dF,qT,qF,nT,nF,Bool.false_and,Bool.and_false,ah]
        have v3 := v2
        have hpr := pright_pure ⟨kd,cj,(0,0),cF⟩
        unfold fixOp at hR
        dsimp only at hR
        generalize opR ⟨kd,cj,(0,0),cF⟩ = ob at hpr hR
        simp only [opC,cj,cF] at hpr
        cases ob with
        | true =>
          rw [if_neg (by simp)] at hR
          subst hR
          first | refine CallK.p (hpr) ?_ | refine CallP.i (hpr) ?_
          simp (disch := omega) only [↓aI,aD,aG,ixA,aX,aV,ag,aT,ae,mkA,ab,bnd,aS,aH,aK,cvO,aJ,aY,↓aO,aW,aE,aF,aM,aA,aC,aB,aN,ad,frz,aR,Nat.reduceBEq,Nat.reduceLT,reduceCtorEq,↓reduceIte,aL,AV.cellsOf,AV.fine,AV.one,aQ,Nat.reduceMul,Nat.reduceAdd,Nat.reduceLeDiff,Nat.reduceEqDiff,Int.reduceToNat,Nat.reduceSub,Nat.reduceMod,Nat.reduceDiv,indexK.aggOf,Int.reducePow,Int.reduceLE,Int.reduceNeg,Int.reduceLT,Int.reduceBEq,Int.reduceBNe,Int.reduceEq,aZ,aU,Try.facts,v2,v3,ah,aP,n23]
          exact ⟨_,rfl,_,Abs.Sub.refl _,rfl,(p1.put f3 n3).put f2 n2⟩
        | false =>
          rw [if_pos rfl] at hR
          subst hR
          first | refine CallK.p (hpr) ?_ | refine CallP.i (hpr) ?_
          simp (disch := omega) only [↓aI,aD,aG,ixA,aX,aV,ag,aT,ae,mkA,ab,bnd,aS,aH,aK,cvO,aJ,aY,↓aO,aW,aE,aF,aM,aA,aC,aB,aN,ad,frz,aR,Nat.reduceBEq,Nat.reduceLT,reduceCtorEq,↓reduceIte,aL,AV.cellsOf,AV.fine,AV.one,aQ,Nat.reduceMul,Nat.reduceAdd,Nat.reduceLeDiff,Nat.reduceEqDiff,Int.reduceToNat,Nat.reduceSub,Nat.reduceMod,Nat.reduceDiv,indexK.aggOf,Int.reducePow,Int.reduceLE,Int.reduceNeg,Int.reduceLT,Int.reduceBEq,Int.reduceBNe,Int.reduceEq,aZ,aU,Try.facts,v2,v3,ah]
          refine CallK.i (hfail _ _ _ (p1.put f3 n3).all) ?_
          rintro v HL q
          obtain ⟨p1,v3,fr⟩ := p1.step f3 n3 q
          have v2 := fr _ _ n2 n23 v2
          simp (disch := omega) only [↓aI,aD,aG,ixA,aX,aV,ag,aT,ae,mkA,ab,bnd,aS,aH,aK,cvO,aJ,aY,↓aO,aW,aE,aF,aM,aA,aC,aB,aN,ad,frz,aR,Nat.reduceBEq,Nat.reduceLT,reduceCtorEq,↓reduceIte,aL,AV.cellsOf,AV.fine,AV.one,aQ,Nat.reduceMul,Nat.reduceAdd,Nat.reduceLeDiff,Nat.reduceEqDiff,Int.reduceToNat,Nat.reduceSub,Nat.reduceMod,Nat.reduceDiv,indexK.aggOf,Int.reducePow,Int.reduceLE,Int.reduceNeg,Int.reduceLT,Int.reduceBEq,Int.reduceBNe,Int.reduceEq,aZ,aU,Try.facts,v2,v3,ah]
          exact ⟨_,rfl,_,Abs.Sub.refl _,rfl,p1.put f2 n2⟩
end Go.Proofs.Ytimonfakmadhpaa
end
section
set_option linter.unusedSimpArgs false
set_option linter.unusedVariables false
set_option maxRecDepth 8000
set_option maxHeartbeats 4000000
namespace Go.Proofs.Ytimonfakmadhpaa
open Go Go.Abs Go.Proofs Go.Fug
structure Sh (s t : RS) : Prop where
  le : t.1.length ≤ s.1.length
  lt : t.2 = 0 → s.2 = 0 ∧ t.1.length < s.1.length
structure Sw (s t : RS) : Prop where
  le : t.1.length ≤ s.1.length
  ok : t.2 = 0 → s.2 = 0
theorem Sh.w {s t : RS} (h : Sh s t) : Sw s t := ⟨h.le,fun e => (h.lt e).1⟩
theorem Sw.rfl' {s : RS} : Sw s s := ⟨Nat.le_refl _,fun e => e⟩
theorem Sh.trans {s t u : RS} (h : Sh s t) (g : Sw t u) : Sh s u := ⟨Nat.le_trans g.le h.le,fun e => ⟨(h.lt (g.ok e)).1,Nat.lt_of_le_of_lt g.le (h.lt (g.ok e)).2⟩⟩
theorem Sw.trans {s t u : RS} (h : Sw s t) (g : Sw t u) : Sw s u := ⟨Nat.le_trans g.le h.le,fun e => h.ok (g.ok e)⟩
theorem rdNum_sh (s : RS) (lo hi : Int) : Sh s (rdNum s lo hi).1 := by
  have hle := vr_le 6 0 0 s.1
  rw [show vr 6 0 0 s.1 = vread s.1 from rfl] at hle
  unfold rdNum
  split
  · rename_i h0
    split
    · rename_i h1
      have := hle h1
      split
      · exact ⟨Nat.le_refl _,fun e => by simp at e⟩
      · refine ⟨?_,fun _ => ⟨h0,?_⟩⟩
        · simp only [List.length_drop]; omega
        · simp only [List.length_drop]; omega
    · rename_i h1
      exact ⟨Nat.le_refl _,fun e => absurd e h1⟩
  · rename_i h0
    exact ⟨Nat.le_refl _,fun e => absurd e h0⟩
theorem rdID_sh (s : RS) : Sh s (rdID s).1 := (rdNum_sh s _ _).trans (rdNum_sh _ _ _).w
theorem rdFl_sh (s : RS) : Sh s (rdFl s).1 := rdNum_sh s _ _
theorem rdAn_sh (s : RS) : Sh s (rdAn s).1 := (rdID_sh s).trans (rdFl_sh _).w
theorem rdIns_sh (s : RS) : Sh s (rdIns s).1 := (((rdID_sh s).trans (rdID_sh _).w).trans (rdFl_sh _).w).trans (rdNum_sh _ _ _).w
theorem rdMar_sh (s : RS) : Sh s (rdMar s).1 := (((((rdNum_sh s _ _).trans (rdNum_sh _ _ _).w).trans (rdAn_sh _).w).trans (rdAn_sh _).w).trans (rdNum_sh _ _ _).w).trans (rdNum_sh _ _ _).w
theorem rdBody_sw (s : RS) (kd : Int) : Sw s (rdBody s kd).1 := by
  unfold rdBody
  split
  · exact (rdIns_sh s).w
  · split
    · exact (rdID_sh s).w
    · split
      · exact (rdMar_sh s).w
      · exact Sw.rfl'
theorem fixOp_sw (b : RS × Opn) : Sw b.1 (fixOp b).1 := by
  unfold fixOp
  split
  · refine ⟨Nat.le_refl _,fun e => ?_⟩
    simp only at e
    split at e
    · cases e
    · assumption
  · exact Sw.rfl'
theorem rdOp_sh (s : RS) : Sh s (rdOp s).1 := ((rdNum_sh s 1 3).trans (rdBody_sw _ _)).trans (fixOp_sw _)
def rdL : Nat → RS → RS × List Opn
  | 0,s => (s,[])
  | n + 1,s => if (rdOp s).1.2 = 0 then ((rdL n (rdOp s).1).1,if (rdL n (rdOp s).1).1.2 = 0 then (rdOp s).2 :: (rdL n (rdOp s).1).2 else []) else ((rdOp s).1,[])
def rdGet (s : RS) (most : Int) : RS × List Opn := rdL (rdNum s 0 most).2.toNat (rdNum s 0 most).1
theorem rdL_err : ∀ (n : Nat) (s : RS),(rdL n s).1.2 ≠ 0 → (rdL n s).2 = []
  | 0,s,_ => rfl
  | n + 1,s,h => by
    unfold rdL at h ⊢
    split
    · rename_i h1
      rw [if_pos h1] at h
      simp only at h ⊢
      rw [if_neg h]
    · rfl
theorem Get_live (B H : AH) (r k : Nat) (bs : List UInt8) (s : RS) (most : Int) (p : RdS B H r k bs s) (hr0 : r ≠ 0) : ACalls Try.prog 33 [.ptr r 0,.sc (.int .i64 most)] H fun v H' => v = opsV (rdGet s most).2 ∧ RdS B H' r k bs (rdGet s most).1 := by
  have h1 := fun B H p => number_live B H r k bs s 0 most p hr0
  have hg := fun s B H p => get_live B H r k bs s p hr0
  have he := fun s B H p => err_live B H r k bs s p hr0
  have hrg := rdNum_rng s 0 most
  have hb := p.2.2.2
  unfold rdGet
  have hn0 : (rdNum s 0 most).2 ≤ 1099511627776 := by
    unfold rdNum
    split
    · split
      · split
        · simp
        · rename_i h _
          exact Int.ofNat_le.2 (vr_le 6 0 0 s.1 h).1
      · simp
    · simp
  generalize rdNum s 0 most = A at *
  obtain ⟨s1,z⟩ := A
  simp only at h1 hrg hn0 ⊢
  obtain ⟨n,rfl⟩ : ∃ n : Nat,z = n := ⟨z.toNat,by omega⟩
  rw [show ((n : Int)).toNat = n by omega]
  generalize hR : rdL n s1 = R at *
  refine ao (c := ⟨Try.prog,21,[],[],[]⟩) (rs := [ResultVar.tmp 4]) Try.mixed Try.func33 rfl rfl rfl (Nat.le_of_ble_eq_true rfl) (by kernel_rfl) ?_
  simp (disch := omega) only [↓aI,aD,aG,ixA,aX,aV,ag,aT,ae,mkA,ab,bnd,aS,aH,aK,cvO,aJ,aY,↓aO,aW,aE,aF,aM,aA,aC,aB,aN,ad,frz,aR,Nat.reduceBEq,Nat.reduceLT,reduceCtorEq,↓reduceIte,aL,AV.cellsOf,AV.fine,AV.one,aQ,Nat.reduceMul,Nat.reduceAdd,Nat.reduceLeDiff,Nat.reduceEqDiff,Int.reduceToNat,Nat.reduceSub,Nat.reduceMod,Nat.reduceDiv,indexK.aggOf,Int.reducePow,Int.reduceLE,Int.reduceNeg,Int.reduceLT,Int.reduceBEq,Int.reduceBNe,Int.reduceEq,aZ,aU,Try.facts]
  refine CallK.i (h1 _ _ p) ?_
  rintro v H1 ⟨rfl,p1⟩
  simp (disch := omega) only [↓aI,aD,aG,ixA,aX,aV,ag,aT,ae,mkA,ab,bnd,aS,aH,aK,cvO,aJ,aY,↓aO,aW,aE,aF,aM,aA,aC,aB,aN,ad,frz,aR,Nat.reduceBEq,Nat.reduceLT,reduceCtorEq,↓reduceIte,aL,AV.cellsOf,AV.fine,AV.one,aQ,Nat.reduceMul,Nat.reduceAdd,Nat.reduceLeDiff,Nat.reduceEqDiff,Int.reduceToNat,Nat.reduceSub,Nat.reduceMod,Nat.reduceDiv,indexK.aggOf,Int.reducePow,Int.reduceLE,Int.reduceNeg,Int.reduceLT,Int.reduceBEq,Int.reduceBNe,Int.reduceEq,aZ,aU,Try.facts]
  refine tok_t 5 (by simp (disch := omega) only [↓aI,aD,aG,ixA,aX,aV,ag,aT,ae,mkA,ab,bnd,aS,aH,aK,cvO,aJ,aY,↓aO,aW,aE,aF,aM,aA,aC,aB,aN,ad,frz,aR,Nat.reduceBEq,Nat.reduceLT,reduceCtorEq,↓reduceIte,aL,AV.cellsOf,AV.fine,AV.one,aQ,Nat.reduceMul,Nat.reduceAdd,Nat.reduceLeDiff,Nat.reduceEqDiff,Int.reduceToNat,Nat.reduceSub,Nat.reduceMod,Nat.reduceDiv,indexK.aggOf,Int.reducePow,Int.reduceLE,Int.reduceNeg,Int.reduceLT,Int.reduceBEq,Int.reduceBNe,Int.reduceEq,aZ,aU,Try.facts]) fun kf hkf0 hkf => ?_
  refine br (c := ⟨Try.prog,21,[],[],[]⟩) Try.mixed (by kernel_rfl) (fun mm σ H' => ∃ (i : Nat) (sc : RS) (O : List Opn) (kf : Nat) (o : AObj),i + mm = n ∧ O.length = i ∧ O.length + sc.1.length ≤ bs.length ∧ R.1 = (rdL mm sc).1 ∧ R.2 = (if (rdL mm sc).1.2 = 0 then O ++ (rdL mm sc).2 else []) ∧ (0 < i → sc.2 = 0) ∧ kf ≠ 0 ∧ B kf = none ∧ ¬ kf = r ∧ H' kf = some o ∧ cy 84 19 o (O.length * 19) ∧ RdS B H' r k bs sc ∧
    σ 0 = .ptr r 0 ∧ σ 5 = .imm kf (dL O) O.length ∧ σ 8 = .sc (.int .i64 (n : Nat)) ∧ σ 9 = .sc (.int .i64 (i : Nat))) n ?_ ?_
  · have hl := p1.1
    refine ⟨0,s1,[],kf,.nilt,by omega,rfl,?_,by rw [hR],?_,by omega,hkf0,p1.free hkf,p1.ne hkf,set_get,.inr ⟨rfl,rfl⟩,p1.put (p1.free hkf) (p1.ne hkf),?_⟩
    · obtain ⟨q,hq1,hq2,-⟩ := hl
      rw [← hq2,List.length_drop]; simp
    · rw [hR]
      have := rdL_err n s1
      rw [hR] at this
      split
      · rw [List.nil_append]
      · rename_i h; exact this h
    · simp (disch := omega) only [↓aI,aD,aG,ixA,aX,aV,ag,aT,ae,mkA,ab,bnd,aS,aH,aK,cvO,aJ,aY,↓aO,aW,aE,aF,aM,aA,aC,aB,aN,ad,frz,aR,Nat.reduceBEq,Nat.reduceLT,reduceCtorEq,↓reduceIte,aL,AV.cellsOf,AV.fine,AV.one,aQ,Nat.reduceMul,Nat.reduceAdd,Nat.reduceLeDiff,Nat.reduceEqDiff,Int.reduceToNat,Nat.reduceSub,Nat.reduceMod,Nat.reduceDiv,indexK.aggOf,Int.reducePow,Int.reduceLE,Int.reduceNeg,Int.reduceLT,Int.reduceBEq,Int.reduceBNe,Int.reduceEq,aZ,aU,Try.facts]
      rfl
  · clear hkf hkf0 kf p1 h1
    rintro mm σ H' ⟨i,sc,O,kf,o,him,hOi,hOl,hR1,hR2,hsc,hkf0,hkf,nkf,vkf,ho,p1,s0,s5,s8,s9⟩
    have hOc := cq O
    cases mm with
    | zero =>
      obtain rfl : i = n := by omega
      simp only [rdL] at hR1 hR2
      have hRO : R = (sc,O) := by
        refine Prod.ext hR1 ?_
        rw [hR2]
        show (if sc.2 = 0 then O ++ [] else []) = O
        by_cases h : sc.2 = 0
        · rw [if_pos h,List.append_nil]
        · rw [if_neg h]
          have : O.length = 0 := by
            by_cases h0 : 0 < i
            · exact absurd (hsc h0) h
            · omega
          exact (List.eq_nil_of_length_eq_zero this).symm
      subst hRO
      simp (disch := omega) only [↓aI,aD,aG,ixA,aX,aV,ag,aT,ae,mkA,ab,bnd,aS,aH,aK,cvO,aJ,aY,↓aO,aW,aE,aF,aM,aA,aC,aB,aN,ad,frz,aR,Nat.reduceBEq,Nat.reduceLT,reduceCtorEq,↓reduceIte,aL,AV.cellsOf,AV.fine,AV.one,aQ,Nat.reduceMul,Nat.reduceAdd,Nat.reduceLeDiff,Nat.reduceEqDiff,Int.reduceToNat,Nat.reduceSub,Nat.reduceMod,Nat.reduceDiv,indexK.aggOf,Int.reducePow,Int.reduceLE,Int.reduceNeg,Int.reduceLT,Int.reduceBEq,Int.reduceBNe,Int.reduceEq,aZ,aU,Try.facts,s0,s5,s8,s9,dT,dF,qT,qF,nT,nF,Bool.false_and,Bool.and_false]
      exact ⟨_,rfl,_,Abs.Sub.refl _,rfl,p1⟩
    | succ m =>
      have hg1 := hg sc
      have hsh := rdOp_sh sc
      have hrl : rdL (m + 1) sc = if (rdOp sc).1.2 = 0 then ((rdL m (rdOp sc).1).1,if (rdL m (rdOp sc).1).1.2 = 0 then (rdOp sc).2 :: (rdL m (rdOp sc).1).2 else []) else ((rdOp sc).1,[]) := rfl
      rw [hrl] at hR1 hR2
      generalize rdOp sc = X at *
      obtain ⟨s2,q⟩ := X
      simp only at hg1 hsh hR1 hR2
      have he1 := he s2
      have hsn := opsC_snoc O q
      have hO1 : (O ++ [q]).length = O.length + 1 := by simp
      have hsl := cq (O ++ [q])
      generalize hO2 : O ++ [q] = O2 at *
      obtain ⟨kd,⟨⟨a,c⟩,⟨pa,pc⟩,ri,ru⟩,⟨x,y⟩,⟨mc,ma,⟨g1,g2⟩,fb,⟨t1,t2⟩,tb,nm,vl⟩⟩ := q
      simp only [opC] at hg1 hsn
      simp (disch := omega) only [↓aI,aD,aG,ixA,aX,aV,ag,aT,ae,mkA,ab,bnd,aS,aH,aK,cvO,aJ,aY,↓aO,aW,aE,aF,aM,aA,aC,aB,aN,ad,frz,aR,Nat.reduceBEq,Nat.reduceLT,reduceCtorEq,↓reduceIte,aL,AV.cellsOf,AV.fine,AV.one,aQ,Nat.reduceMul,Nat.reduceAdd,Nat.reduceLeDiff,Nat.reduceEqDiff,Int.reduceToNat,Nat.reduceSub,Nat.reduceMod,Nat.reduceDiv,indexK.aggOf,Int.reducePow,Int.reduceLE,Int.reduceNeg,Int.reduceLT,Int.reduceBEq,Int.reduceBNe,Int.reduceEq,aZ,aU,Try.facts,s0,s5,s8,s9,dT,dF,qT,qF,nT,nF,Bool.false_and,Bool.and_false]
      refine CallK.i (hg1 _ _ p1.all) ?_
      rintro v H2 ⟨rfl,q2⟩
      have vkf := p1.keep q2 vkf nkf
      have p1 := p1.back q2
      simp (disch := omega) only [↓aI,aD,aG,ixA,aX,aV,ag,aT,ae,mkA,ab,bnd,aS,aH,aK,cvO,aJ,aY,↓aO,aW,aE,aF,aM,aA,aC,aB,aN,ad,frz,aR,Nat.reduceBEq,Nat.reduceLT,reduceCtorEq,↓reduceIte,aL,AV.cellsOf,AV.fine,AV.one,aQ,Nat.reduceMul,Nat.reduceAdd,Nat.reduceLeDiff,Nat.reduceEqDiff,Int.reduceToNat,Nat.reduceSub,Nat.reduceMod,Nat.reduceDiv,indexK.aggOf,Int.reducePow,Int.reduceLE,Int.reduceNeg,Int.reduceLT,Int.reduceBEq,Int.reduceBNe,Int.reduceEq,aZ,aU,Try.facts,s0,s5,s8,s9,dT,dF,qT,qF,nT,nF,Bool.false_and,Bool.and_false,vkf,ho,hOc,hsn,ah]
      intro k3 o3 hk30 hk3 ho3
      have f3 := p1.free hk3
      have n3 := p1.ne hk3
      have p2 := (p1.kill hkf nkf).put (o := o3) f3 n3
      refine CallK.i (he1 _ _ p2) ?_
      rintro v H3 ⟨rfl,hE⟩
      by_cases e0 : s2.2 = 0
      · rw [if_pos e0] at hR1 hR2
        simp only at hR1 hR2
        simp (disch := omega) only [↓aI,aD,aG,ixA,aX,aV,ag,aT,ae,mkA,ab,bnd,aS,aH,aK,cvO,aJ,aY,↓aO,aW,aE,aF,aM,aA,aC,aB,aN,ad,frz,aR,Nat.reduceBEq,Nat.reduceLT,reduceCtorEq,↓reduceIte,aL,AV.cellsOf,AV.fine,AV.one,aQ,Nat.reduceMul,Nat.reduceAdd,Nat.reduceLeDiff,Nat.reduceEqDiff,Int.reduceToNat,Nat.reduceSub,Nat.reduceMod,Nat.reduceDiv,indexK.aggOf,Int.reducePow,Int.reduceLE,Int.reduceNeg,Int.reduceLT,Int.reduceBEq,Int.reduceBNe,Int.reduceEq,aZ,aU,Try.facts,s0,s5,s8,s9,dT,dF,qT,qF,nT,nF,Bool.false_and,Bool.and_false]
        subst hE
        rw [hsl,hO1] at ho3
        refine ⟨m,by omega,i + 1,s2,O2,k3,o3,by omega,by omega,by have := (hsh.lt e0).2; omega,hR1,?_,fun _ => e0,hk30,f3,n3,set_get,by rw [hO1]; exact ho3,p2,by rw [hO1],rfl⟩
        rw [hR2]
        by_cases h : (rdL m s2).1.2 = 0
        · rw [if_pos h,if_pos h,if_pos h,← hO2,List.append_assoc]
          rfl
        · rw [if_neg h,if_neg h]
      · rw [if_neg e0] at hR1 hR2
        rw [if_neg e0] at hR2
        have hRO : R = (s2,[]) := Prod.ext hR1 hR2
        subst hRO
        simp (disch := omega) only [↓aI,aD,aG,ixA,aX,aV,ag,aT,ae,mkA,ab,bnd,aS,aH,aK,cvO,aJ,aY,↓aO,aW,aE,aF,aM,aA,aC,aB,aN,ad,frz,aR,Nat.reduceBEq,Nat.reduceLT,reduceCtorEq,↓reduceIte,aL,AV.cellsOf,AV.fine,AV.one,aQ,Nat.reduceMul,Nat.reduceAdd,Nat.reduceLeDiff,Nat.reduceEqDiff,Int.reduceToNat,Nat.reduceSub,Nat.reduceMod,Nat.reduceDiv,indexK.aggOf,Int.reducePow,Int.reduceLE,Int.reduceNeg,Int.reduceLT,Int.reduceBEq,Int.reduceBNe,Int.reduceEq,aZ,aU,Try.facts,s0,s5,s8,s9,dT,dF,qT,qF,nT,nF,Bool.false_and,Bool.and_false]
        subst hE
        exact ⟨_,rfl,_,Abs.Sub.refl _,rfl,p2⟩
end Go.Proofs.Ytimonfakmadhpaa
end
