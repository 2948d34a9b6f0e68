/-
  The program's hash as it is written to.
  Conditions: none. Lemmas only.
-/
import Derived.Test.YtejncnmdjkhiaaaDoorShaG1
import Derived.Test.YtejncnmdjkhiaaaDoorShbB
import Derived.Test.YtejncnmdjkhiaaaDoorShaG5
import Derived.Test.YtejncnmdjkhiaaaDoorAbsG5
set_option linter.all false
set_option linter.unusedSimpArgs false
set_option linter.unusedVariables false
set_option maxRecDepth 20000
set_option maxHeartbeats 4000000
namespace Go.Proofs.YtejncnmdjkhiaaaDoor
open Go Go.Abs Go.Proofs Go.Sha
theorem first256_pure : APure Tryd.prog 41 [] (.agg (w32A (stL firstS))) := by
  refine az (c := ⟨Tryd.prog,2,[],[],[]⟩) (rs := [ResultVar.cell 0 65]) Tryd.mixed Tryd.func41 rfl rfl rfl (Nat.le_of_ble_eq_true rfl) (by kernel_rfl) fun H => ?_
  simp (disch := omega) only [↓aI,↓zP,aD,zD,aS,Nat.reduceBEq,Nat.reduceLT,reduceCtorEq,↓reduceIte,Nat.reduceMul,Nat.reduceAdd,Nat.reduceLeDiff,Nat.reduceEqDiff,Int.reduceToNat,Nat.reduceSub,Nat.reduceMod,Nat.reduceDiv,Int.reducePow,Int.reduceLE,Int.reduceNeg,Int.reduceLT,Int.reduceBEq,Int.reduceBNe,Int.reduceEq,Tryd.facts]
  intro k hk0 hk
  simp (disch := omega) only [↓aI,↓zP,aD,zD,aS,Nat.reduceBEq,Nat.reduceLT,reduceCtorEq,↓reduceIte,Nat.reduceMul,Nat.reduceAdd,Nat.reduceLeDiff,Nat.reduceEqDiff,Int.reduceToNat,Nat.reduceSub,Nat.reduceMod,Nat.reduceDiv,Int.reducePow,Int.reduceLE,Int.reduceNeg,Int.reduceLT,Int.reduceBEq,Int.reduceBNe,Int.reduceEq,Tryd.facts,ah]
  exact ⟨rfl,Sub.set_new hk⟩
def hashC (S : St) (rv : AV) (all : Nat) : List AV := w32A (stL S) ++ [rv,.sc (.int .i64 all)]
theorem hashC_length (S : St) (rv : AV) (n : Nat) : (hashC S rv n).length = 10 := rfl
theorem hashC_8 (S : St) (rv : AV) (n : Nat) : (hashC S rv n)[8]? = some rv := rfl
theorem hashC_9 (S : St) (rv : AV) (n : Nat) : (hashC S rv n)[9]? = some (.sc (.int .i64 n)) := rfl
theorem hashC_take (S : St) (rv : AV) (n : Nat) : (hashC S rv n).take 8 = w32A (stL S) := rfl
theorem hashC_put9 (S : St) (rv : AV) (n m : Nat) : bG (hashC S rv n) 9 [.sc (.int .i64 m)] = hashC S rv m := rfl
theorem hashC_put8 (S : St) (rv x : AV) (n : Nat) : bG (hashC S rv n) 8 [x] = hashC S x n := rfl
structure SHg (H0 H : AH) (h k : Nat) (o : AObj) (S : St) (r : List UInt8) (n : Nat) : Prop where
  box : H h = some (.cells (hashC S (.imm k (bw r) r.length) n) 68 10)
  tok : H k = some o
  fit : cy 5 1 o r.length
  k0 : k ≠ 0
  h0 : h ≠ 0
  kh : k ≠ h
  fh : H0 h = none
  fk : H0 k = none
  sub : Abs.Sub H0 H
def SH (H0 H : AH) (h : Nat) (w : List UInt8) : Prop := ∃ k o,SHg H0 H h k o (writeM w).1 (writeM w).2 w.length
theorem SHg.app {H0 H : AH} {h k : Nat} {o : AObj} {S : St} {r : List UInt8} {n : Nat} (g : SHg H0 H h k o S r n) {c1 o' : AObj} {k' : Nat} {S' : St} {r' : List UInt8} {n' : Nat} (hk' : (H.set h c1) k' = none) (h0 : k' ≠ 0) (ht : cy 5 1 o' r'.length) :
    SHg H0 ((((H.set h c1).kill k).set k' o').set h (.cells (hashC S' (.imm k' (bw r') r'.length) n') 68 10)) h k' o' S' r' n' := by
  have n1 := bK hk'
  have hk2 := am hk'
  have f1 : H0 k' = none := by
    cases e : H0 k' with
    | none => rfl
    | some x => rw [g.sub _ _ e] at hk2; cases hk2
  refine ⟨by simp [AH.set],by simp [AH.set,Ne.symm n1],ht,h0,g.h0,Ne.symm n1,g.fh,f1,?_⟩
  intro x y hx
  have e1 : x ≠ h := fun e => by rw [e,g.fh] at hx; cases hx
  have e2 : x ≠ k := fun e => by rw [e,g.fk] at hx; cases hx
  have e3 : x ≠ k' := fun e => by rw [e,f1] at hx; cases hx
  simp [AH.set,AH.kill,e1,e2,e3,g.sub _ _ hx]
theorem new_sh (H : AH) : ACalls Tryd.prog 30 [] H fun v H' => ∃ h,v = .ptr h 0 ∧ SH H H' h [] := by
  have h1 : ACalls Tryd.prog 30 [] H fun v H' => ∃ h,v = .ptr h 0 ∧ h ≠ 0 ∧ H h = none ∧ H' h = some (.cells (hashC firstS (.sc (.slice none 0 0)) 0) 68 10) ∧ Abs.Sub H H' := by
    have hf := first256_pure
    have hfl : (w32A (stL firstS)).length = 8 := rfl
    unfold hashC
    generalize w32A (stL firstS) = fs at *
    refine ao (c := ⟨Tryd.prog,4,[],[],[]⟩) (rs := [ResultVar.tmp 0]) Tryd.mixed Tryd.func30 rfl rfl rfl (Nat.le_of_ble_eq_true rfl) (by kernel_rfl) ?_
    simp (disch := omega) only [↓aI,↓zP,aD,zD,aS,Nat.reduceBEq,Nat.reduceLT,reduceCtorEq,↓reduceIte,Nat.reduceMul,Nat.reduceAdd,Nat.reduceLeDiff,Nat.reduceEqDiff,Int.reduceToNat,Nat.reduceSub,Nat.reduceMod,Nat.reduceDiv,Int.reducePow,Int.reduceLE,Int.reduceNeg,Int.reduceLT,Int.reduceBEq,Int.reduceBNe,Int.reduceEq,Tryd.facts]
    first | refine CallK.p (hf) ?_ | refine CallP.i (hf) ?_
    simp (disch := omega) only [↓aI,↓zP,aD,zD,aS,Nat.reduceBEq,Nat.reduceLT,reduceCtorEq,↓reduceIte,Nat.reduceMul,Nat.reduceAdd,Nat.reduceLeDiff,Nat.reduceEqDiff,Int.reduceToNat,Nat.reduceSub,Nat.reduceMod,Nat.reduceDiv,Int.reducePow,Int.reduceLE,Int.reduceNeg,Int.reduceLT,Int.reduceBEq,Int.reduceBNe,Int.reduceEq,Tryd.facts,hfl]
    intro k hk0 hk
    exact ⟨_,rfl,_,Abs.Sub.refl _,k,rfl,hk0,hk,set_get,Sub.set_new hk⟩
  refine h1.tokCell ?_
  rintro v H' ⟨h,rfl,hh0,hf,hv,hs⟩
  refine ⟨h,_,_,8,_,hv,rfl,fun k hk0 hk => ?_⟩
  have hkh : k ≠ h := fun e => by rw [e,hv] at hk; cases hk
  exact ⟨h,rfl,k,.nilt,⟨set_get,by simp [AH.set,hkh],.inr ⟨rfl,rfl⟩,hk0,hh0,hkh,hf,hs.free hk,(hs.set_free (hs.free hk)).set_free hf⟩⟩
theorem write_sh {H0 H : AH} {h : Nat} {w : List UInt8} (g : SH H0 H h w) (b : List UInt8) (hw : w.length ≤ 90000000) (hb : b.length ≤ 10000000) : ACalls Tryd.prog 31 [.ptr h 0,eu b] H fun v H' => v = .tup [] ∧ SH H0 H' h (w ++ b) := by
  obtain ⟨k,o,g⟩ := g
  have hrl := write_rest_len w
  have hso := write_ok w
  have hws := write_step w b
  generalize (writeM w).1 = S at *
  generalize (writeM w).2 = r at *
  have hh := g.box
  have ht := g.tok
  have hfit := g.fit
  have hk0 := g.k0
  have hkh := g.kh
  have hel := gz b
  have her := gz r
  unfold eu
  have w1 : IntKind.i64.wrap ((w.length : Int) + (b.length : Int)) = ((w.length + b.length : Nat) : Int) := by rw [iw (by omega)]; rfl
  refine ao (c := ⟨Tryd.prog,52,[(4,[0,0,0,0,1,0,0,0,1,0,1,2,0,0,2])],[5000049],[]⟩) (rs := []) Tryd.mixed Tryd.func31 rfl rfl rfl (Nat.le_of_ble_eq_true rfl) (by kernel_rfl) ?_
  simp (disch := omega) only [↓aI,↓zP,aD,zD,aS,Nat.reduceBEq,Nat.reduceLT,reduceCtorEq,↓reduceIte,Nat.reduceMul,Nat.reduceAdd,Nat.reduceLeDiff,Nat.reduceEqDiff,Int.reduceToNat,Nat.reduceSub,Nat.reduceMod,Nat.reduceDiv,Int.reducePow,Int.reduceLE,Int.reduceNeg,Int.reduceLT,Int.reduceBEq,Int.reduceBNe,Int.reduceEq,Tryd.facts,hh,hashC_length,hashC_8,hashC_9,hashC_put9,w1,hel,her,ht,aP hkh,hfit,hk0]
  intro k1 o1 hk10 hk1 ho1
  have n1 := bK hk1
  have hr1 : ∀ c1 : AObj,(((H.set h c1).kill k).set k1 o1) h = some c1 := fun c1 => by simp [AH.set,AH.kill,n1,Ne.symm hkh]
  simp (disch := omega) only [↓aI,↓zP,aD,zD,aS,Nat.reduceBEq,Nat.reduceLT,reduceCtorEq,↓reduceIte,Nat.reduceMul,Nat.reduceAdd,Nat.reduceLeDiff,Nat.reduceEqDiff,Int.reduceToNat,Nat.reduceSub,Nat.reduceMod,Nat.reduceDiv,Int.reducePow,Int.reduceLE,Int.reduceNeg,Int.reduceLT,Int.reduceBEq,Int.reduceBNe,Int.reduceEq,Tryd.facts,hr1,hashC_length,hashC_8,hashC_9,hashC_put8]
  obtain ⟨X,hX⟩ : ∃ X,X = r ++ b := ⟨_,rfl⟩
  rw [← hX] at hws
  have hXl : X.length = r.length + b.length := by rw [hX,List.length_append]
  obtain ⟨nb,hnb⟩ : ∃ nb,nb = X.length / 64 := ⟨_,rfl⟩
  rw [← hnb] at hws
  obtain ⟨W,hW⟩ : ∃ W,W = w.length + b.length := ⟨_,rfl⟩
  have hbo := fun i => blocksM_ok hso X i
  have hbs : ∀ i,blocksM S X (i + 1) = blockM (blocksM S X i) ((X.drop (i * 64)).take 64) := fun i => rfl
  refine br (c := ⟨Tryd.prog,52,[(4,[0,0,0,0,1,0,0,0,1,0,1,2,0,0,2])],[5000049],[]⟩) Tryd.mixed (by kernel_rfl) (fun m σ H' => ∃ i k o,i + m = nb ∧ σ 0 = .ptr h 0 ∧ SHg H0 H' h k o (blocksM S X i) (X.drop (i * 64)) W) nb ?_ ?_
  · refine ⟨0,k1,o1,by omega,?_⟩
    simp (disch := omega) only [↓aI,↓zP,aD,zD,aS,Nat.reduceBEq,Nat.reduceLT,reduceCtorEq,↓reduceIte,Nat.reduceMul,Nat.reduceAdd,Nat.reduceLeDiff,Nat.reduceEqDiff,Int.reduceToNat,Nat.reduceSub,Nat.reduceMod,Nat.reduceDiv,Int.reducePow,Int.reduceLE,Int.reduceNeg,Int.reduceLT,Int.reduceBEq,Int.reduceBNe,Int.reduceEq,Tryd.facts,hr1,hashC_length,hashC_8,hashC_9,hashC_put8]
    rw [← hW] at hk1
    rw [encB_append,← hX,← hXl,← hW]
    exact g.app hk1 hk10 (by rw [hXl]; exact ho1)
  · rintro m σ H' ⟨i,k2,o2,hi,g0,g2⟩
    have hh2 := g2.box
    have ht2 := g2.tok
    have hfit2 := g2.fit
    have hk20 := g2.k0
    have hkh2 := g2.kh
    have hdl : (X.drop (i * 64)).length = X.length - i * 64 := List.length_drop
    have her2 := gz (X.drop (i * 64))
    by_cases hlt : i < nb
    · have hb1 : decide ((64 : Int) ≤ ((X.drop (i * 64)).length : Int)) = true := dT (by omega)
      have hcl : ((X.drop (i * 64)).take 64).length = 64 := by rw [List.length_take]; omega
      have c1 := block_pure _ (hbo i) _ hcl
      have hst8 : (w32A (stL (blocksM S X i))).map AV.strip0 = w32A (stL (blocksM S X i)) := by simp [w32A,AV.strip0]
      rw [← hbs] at c1
      have hg0 : globV 0 = .ip smallC 0 := rfl
      have app := fun c1 o' k' S' r' n' a b c => g2.app (c1 := c1) (o' := o') (k' := k') (S' := S') (r' := r') (n' := n') a b c
      have hdd : (X.drop (i * 64)).drop 64 = X.drop ((i + 1) * 64) := by rw [List.drop_drop,Nat.add_mul]
      have hlen64 : 64 ≤ (X.drop (i * 64)).length := by omega
      have hd2 : (X.drop ((i + 1) * 64)).length = (X.drop (i * 64)).length - 64 := by rw [← hdd,List.length_drop]
      have het : (bw (X.drop (i * 64))).take 64 = bw ((X.drop (i * 64)).take 64) := encB_take _ _
      have hed : (bw (X.drop (i * 64))).drop 64 = bw (X.drop ((i + 1) * 64)) := by rw [encB_drop,hdd]
      generalize (X.drop (i * 64)).take 64 = cc at *
      generalize X.drop (i * 64) = r' at *
      have hw8 : (w32A (stL (blocksM S X (i + 1)))).length = 8 := rfl
      have hS' : ∀ rv n,bG (hashC (blocksM S X i) rv n) 0 (w32A (stL (blocksM S X (i + 1)))) = hashC (blocksM S X (i + 1)) rv n := fun rv n => rfl
      simp (disch := omega) only [↓aI,↓zP,aD,zD,aS,Nat.reduceBEq,Nat.reduceLT,reduceCtorEq,↓reduceIte,Nat.reduceMul,Nat.reduceAdd,Nat.reduceLeDiff,Nat.reduceEqDiff,Int.reduceToNat,Nat.reduceSub,Nat.reduceMod,Nat.reduceDiv,Int.reducePow,Int.reduceLE,Int.reduceNeg,Int.reduceLT,Int.reduceBEq,Int.reduceBNe,Int.reduceEq,Tryd.facts,g0,hh2,hashC_length,hashC_8,hashC_9,hashC_take,hb1,her2,hg0,smallC,het,hst8]
      first | refine CallK.p (c1) ?_ | refine CallP.i (c1) ?_
      simp (disch := omega) only [↓aI,↓zP,aD,zD,aS,Nat.reduceBEq,Nat.reduceLT,reduceCtorEq,↓reduceIte,Nat.reduceMul,Nat.reduceAdd,Nat.reduceLeDiff,Nat.reduceEqDiff,Int.reduceToNat,Nat.reduceSub,Nat.reduceMod,Nat.reduceDiv,Int.reducePow,Int.reduceLE,Int.reduceNeg,Int.reduceLT,Int.reduceBEq,Int.reduceBNe,Int.reduceEq,Tryd.facts,g0,hh2,hashC_length,hashC_8,hashC_9,hashC_take,hw8,hS']
      have hsz : ai Tryd.prog 5 = 1 := by kernel_rfl
      refine slide_m (e := 5) (l := 64) (by kernel_rfl) rfl ((aP hkh2).trans ht2) (by rw [hsz,her2]; exact hfit2) hk20 hlen64 (by rw [hsz,her2,Nat.mul_one]) (by kernel_rfl) fun k3 o3 hk30 hk3 ho3 => ?_
      rw [hsz,Nat.mul_one,hed] at ho3
      rw [hsz,Nat.mul_one,hed]
      have n3 := bK hk3
      have hr3 : ∀ c1 : AObj,(((H'.set h c1).kill k2).set k3 o3) h = some c1 := fun c1 => by simp [AH.set,AH.kill,n3,Ne.symm hkh2]
      simp (disch := omega) only [↓aI,↓zP,aD,zD,aS,Nat.reduceBEq,Nat.reduceLT,reduceCtorEq,↓reduceIte,Nat.reduceMul,Nat.reduceAdd,Nat.reduceLeDiff,Nat.reduceEqDiff,Int.reduceToNat,Nat.reduceSub,Nat.reduceMod,Nat.reduceDiv,Int.reducePow,Int.reduceLE,Int.reduceNeg,Int.reduceLT,Int.reduceBEq,Int.reduceBNe,Int.reduceEq,Tryd.facts,g0,hr3,hashC_length,hashC_8,hashC_9,hashC_put8]
      refine ⟨m - 1,by omega,i + 1,k3,o3,by omega,?_⟩
      rw [← hd2]
      exact app _ _ _ _ _ _ hk3 hk30 (by rw [gz] at ho3; exact ho3)
    · obtain rfl : i = nb := by omega
      have hb1 : decide ((64 : Int) ≤ ((X.drop (i * 64)).length : Int)) = false := dF (by omega)
      simp (disch := omega) only [↓aI,↓zP,aD,zD,aS,Nat.reduceBEq,Nat.reduceLT,reduceCtorEq,↓reduceIte,Nat.reduceMul,Nat.reduceAdd,Nat.reduceLeDiff,Nat.reduceEqDiff,Int.reduceToNat,Nat.reduceSub,Nat.reduceMod,Nat.reduceDiv,Int.reducePow,Int.reduceLE,Int.reduceNeg,Int.reduceLT,Int.reduceBEq,Int.reduceBNe,Int.reduceEq,Tryd.facts,g0,hh2,hashC_length,hashC_8,hashC_9,hb1,her2]
      exact ⟨_,rfl,_,Abs.Sub.refl _,rfl,k2,o2,by rw [hws]; exact (by rw [List.length_append,← hW]; exact g2)⟩
end Go.Proofs.YtejncnmdjkhiaaaDoor
