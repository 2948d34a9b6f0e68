/-
  Several texts in one: each says what it proves.
  Conditions: none. Lemmas only.
-/
import Derived.Test.YtimonfakmadhpaaPapG4
import Derived.Test.YtimonfakmadhpaaPapG7
import Derived.Test.YtimonfakmadhpaaPapG8
set_option linter.all false
section
set_option linter.unusedSimpArgs false
set_option linter.unusedVariables false
set_option maxRecDepth 8000
set_option maxHeartbeats 4000000
namespace Go.Proofs.Ytimonfakmadhpaa
open Go Go.Abs Go.Proofs Go.Fug
abbrev runesV (l : List Int) : AV := .imm 0 (rnC32 l) l.length
theorem runes_pure (txt : ByteArray) (ht : txt.size ≤ 2000000) : APure Try.prog 16 [.sc (.string txt)] (runesV (dO txt)) := by
  have hrl : (dO txt).length ≤ txt.size := by have := runesAt_len txt txt.size 0; simpa [dO] using this
  refine az (c := ⟨Try.prog,16,[],[],[]⟩) (rs := [ResultVar.tmp 2]) Try.mixed Try.func16 rfl rfl rfl (Nat.le_of_ble_eq_true rfl) (by kernel_rfl) fun H => ?_
  simp (disch := omega) only [↓aI,aD,aG,ixA,aX,aV,ag,aT,ae,mkA,ab,bnd,aS,aH,aK,cvO,aJ,aY,↓aO,aW,aE,aF,aM,aA,aC,aB,aN,ad,frz,aR,Nat.reduceBEq,Nat.reduceLT,reduceCtorEq,↓reduceIte,aL,AV.cellsOf,AV.fine,AV.one,aQ,Nat.reduceMul,Nat.reduceAdd,Nat.reduceLeDiff,Nat.reduceEqDiff,Int.reduceToNat,Nat.reduceSub,Nat.reduceMod,Nat.reduceDiv,indexK.aggOf,Int.reducePow,Int.reduceLE,Int.reduceNeg,Int.reduceLT,Int.reduceBEq,Int.reduceBNe,Int.reduceEq,aZ,aU,Try.facts]
  refine range_s (by kernel_rfl) fun hr hr0 hrf => ?_
  simp (disch := omega) only [↓aI,aD,aG,ixA,aX,aV,ag,aT,ae,mkA,ab,bnd,aS,aH,aK,cvO,aJ,aY,↓aO,aW,aE,aF,aM,aA,aC,aB,aN,ad,frz,aR,Nat.reduceBEq,Nat.reduceLT,reduceCtorEq,↓reduceIte,aL,AV.cellsOf,AV.fine,AV.one,aQ,Nat.reduceMul,Nat.reduceAdd,Nat.reduceLeDiff,Nat.reduceEqDiff,Int.reduceToNat,Nat.reduceSub,Nat.reduceMod,Nat.reduceDiv,indexK.aggOf,Int.reducePow,Int.reduceLE,Int.reduceNeg,Int.reduceLT,Int.reduceBEq,Int.reduceBNe,Int.reduceEq,aZ,aU,Try.facts]
  refine tok_t 3 (by simp (disch := omega) only [↓aI,aD,aG,ixA,aX,aV,ag,aT,ae,mkA,ab,bnd,aS,aH,aK,cvO,aJ,aY,↓aO,aW,aE,aF,aM,aA,aC,aB,aN,ad,frz,aR,Nat.reduceBEq,Nat.reduceLT,reduceCtorEq,↓reduceIte,aL,AV.cellsOf,AV.fine,AV.one,aQ,Nat.reduceMul,Nat.reduceAdd,Nat.reduceLeDiff,Nat.reduceEqDiff,Int.reduceToNat,Nat.reduceSub,Nat.reduceMod,Nat.reduceDiv,indexK.aggOf,Int.reducePow,Int.reduceLE,Int.reduceNeg,Int.reduceLT,Int.reduceBEq,Int.reduceBNe,Int.reduceEq,aZ,aU,Try.facts]) fun k hk0 hk => ?_
  have hrk := bK hk
  refine br (c := ⟨Try.prog,16,[],[],[]⟩) Try.mixed (by kernel_rfl) (fun mm σ H' => ∃ (pos : Nat) (A : List Int) (k : Nat) (o : AObj),mm = txt.size - pos ∧ A ++ cT txt (txt.size - pos) pos = dO txt ∧ k ≠ 0 ∧ H k = none ∧ ¬ hr = k ∧ H' hr = some (.raw (.stringIter txt pos)) ∧ H' k = some o ∧ cy 21 1 o A.length ∧ Abs.Sub H H' ∧ pos ≤ txt.size + 4 ∧
    σ 3 = .imm k (rnC32 A) A.length ∧ σ 7 = .ptr hr 0) txt.size ?_ ?_
  · refine ⟨0,[],k,.nilt,by simp,rfl,hk0,am hk,hrk,by rw [aP hrk,set_get],set_get,.inr ⟨rfl,rfl⟩,(Sub.set_new hrf).trans (Sub.set_new hk),by omega,?_⟩
    simp (disch := omega) only [↓aI,aD,aG,ixA,aX,aV,ag,aT,ae,mkA,ab,bnd,aS,aH,aK,cvO,aJ,aY,↓aO,aW,aE,aF,aM,aA,aC,aB,aN,ad,frz,aR,Nat.reduceBEq,Nat.reduceLT,reduceCtorEq,↓reduceIte,aL,AV.cellsOf,AV.fine,AV.one,aQ,Nat.reduceMul,Nat.reduceAdd,Nat.reduceLeDiff,Nat.reduceEqDiff,Int.reduceToNat,Nat.reduceSub,Nat.reduceMod,Nat.reduceDiv,indexK.aggOf,Int.reducePow,Int.reduceLE,Int.reduceNeg,Int.reduceLT,Int.reduceBEq,Int.reduceBNe,Int.reduceEq,aZ,aU,Try.facts]
    try rfl
  · clear hk0 hk hrk k
    rintro mm σ H' ⟨pos,A,k,o,rfl,hA,hk0,hk,hrk,vr,vk,ho,hs,hp4,s3,s7⟩
    have hkr : ¬ k = hr := fun e => hrk e.symm
    have hAl := ed A
    have hAll : A.length ≤ (dO txt).length := by rw [← hA,List.length_append]; omega
    simp (disch := omega) only [↓aI,aD,aG,ixA,aX,aV,ag,aT,ae,mkA,ab,bnd,aS,aH,aK,cvO,aJ,aY,↓aO,aW,aE,aF,aM,aA,aC,aB,aN,ad,frz,aR,Nat.reduceBEq,Nat.reduceLT,reduceCtorEq,↓reduceIte,aL,AV.cellsOf,AV.fine,AV.one,aQ,Nat.reduceMul,Nat.reduceAdd,Nat.reduceLeDiff,Nat.reduceEqDiff,Int.reduceToNat,Nat.reduceSub,Nat.reduceMod,Nat.reduceDiv,indexK.aggOf,Int.reducePow,Int.reduceLE,Int.reduceNeg,Int.reduceLT,Int.reduceBEq,Int.reduceBNe,Int.reduceEq,aZ,aU,Try.facts,s3,s7]
    refine next_s vr (fun hpos => ?_) (fun hpos => ?_)
    · have hw := dec_pos txt pos
      have hsn := rnC32_snoc A ((Utf8.decode txt pos).1 : Int)
      have hA1 : (A ++ [((Utf8.decode txt pos).1 : Int)]).length = A.length + 1 := by simp
      have hsl := ed (A ++ [((Utf8.decode txt pos).1 : Int)])
      have hnx : (A ++ [((Utf8.decode txt pos).1 : Int)]) ++ cT txt (txt.size - (pos + (Utf8.decode txt pos).2)) (pos + (Utf8.decode txt pos).2) = dO txt := by
        rw [← hA]
        obtain ⟨q,hq⟩ : ∃ q,txt.size - pos = q + 1 := ⟨txt.size - pos - 1,by omega⟩
        rw [hq]
        conv => rhs; unfold cT
        rw [if_pos hpos,List.append_assoc,List.singleton_append,runesAt_fuel txt _ q _ (Nat.le_refl _) (by omega)]
      have vr2 : (H'.set hr (.raw (.stringIter txt (pos + (Utf8.decode txt pos).2)))) hr = some (.raw (.stringIter txt (pos + (Utf8.decode txt pos).2))) := set_get
      have vk2 : (H'.set hr (.raw (.stringIter txt (pos + (Utf8.decode txt pos).2)))) k = some o := by rw [aP hkr]; exact vk
      have hs2 : Abs.Sub H (H'.set hr (.raw (.stringIter txt (pos + (Utf8.decode txt pos).2)))) := hs.set_free hrf
      have hpl : pos + (Utf8.decode txt pos).2 ≤ txt.size + 4 := by
        have : (Utf8.decode txt pos).2 ≤ 4 := by
          unfold Utf8.decode
          simp only []
          repeat' split
          all_goals simp
        omega
      generalize H'.set hr _ = H2 at *
      generalize hA2 : A ++ [((Utf8.decode txt pos).1 : Int)] = A2 at *
      simp (disch := omega) only [↓aI,aD,aG,ixA,aX,aV,ag,aT,ae,mkA,ab,bnd,aS,aH,aK,cvO,aJ,aY,↓aO,aW,aE,aF,aM,aA,aC,aB,aN,ad,frz,aR,Nat.reduceBEq,Nat.reduceLT,reduceCtorEq,↓reduceIte,aL,AV.cellsOf,AV.fine,AV.one,aQ,Nat.reduceMul,Nat.reduceAdd,Nat.reduceLeDiff,Nat.reduceEqDiff,Int.reduceToNat,Nat.reduceSub,Nat.reduceMod,Nat.reduceDiv,indexK.aggOf,Int.reducePow,Int.reduceLE,Int.reduceNeg,Int.reduceLT,Int.reduceBEq,Int.reduceBNe,Int.reduceEq,aZ,aU,Try.facts,s3,s7,dT,dF,qT,qF,nT,nF,Bool.false_and,Bool.and_false,vk2,ho,hAl,hsn]
      intro k3 o3 hk30 hk3 ho3
      rw [hsl] at ho3
      have n1 := bA vr2 hk3
      exact ⟨_,by omega,_,A2,k3,o3,rfl,hnx,hk30,hs2.free hk3,n1,by rw [aP n1,bZ hrk]; exact vr2,set_get,ho3,(hs2.kill_free hk).set_free (hs2.free hk3),hpl,by rw [hA1]⟩
    · have hAe : A = dO txt := by
        have : txt.size - pos = 0 := by omega
        rw [this] at hA
        rw [← hA]
        simp [cT]
      rw [← hAe]
      simp (disch := omega) only [↓aI,aD,aG,ixA,aX,aV,ag,aT,ae,mkA,ab,bnd,aS,aH,aK,cvO,aJ,aY,↓aO,aW,aE,aF,aM,aA,aC,aB,aN,ad,frz,aR,Nat.reduceBEq,Nat.reduceLT,reduceCtorEq,↓reduceIte,aL,AV.cellsOf,AV.fine,AV.one,aQ,Nat.reduceMul,Nat.reduceAdd,Nat.reduceLeDiff,Nat.reduceEqDiff,Int.reduceToNat,Nat.reduceSub,Nat.reduceMod,Nat.reduceDiv,indexK.aggOf,Int.reducePow,Int.reduceLE,Int.reduceNeg,Int.reduceLT,Int.reduceBEq,Int.reduceBNe,Int.reduceEq,aZ,aU,Try.facts,s3,s7]
      exact hs
structure Wsh where
  at_ : Int
  n : Int
  name : Int
  value : Int
  author : Int
  txt : List UInt8
def wishC (w : Wsh) : List AV := [.sc (.int .i64 w.at_),.sc (.int .i64 w.n),.sc (.int .i64 w.name),.sc (.int .i64 w.value),.sc (.int .i64 w.author),.sc (.string ⟨w.txt.toArray⟩)]
end Go.Proofs.Ytimonfakmadhpaa
end
section
set_option maxRecDepth 20000
namespace Go.Proofs.Ytimonfakmadhpaa
open Go Go.Abs Go.Proofs Go.Fug
abbrev WishX := Int × Int × Int × Int × Int × (List UInt8) × Unit
abbrev wishOf (x : WishX) : Wsh := ⟨x.1,x.2.1,x.2.2.1,x.2.2.2.1,x.2.2.2.2.1,x.2.2.2.2.2.1⟩
theorem wish_enc (x : WishX) : Try.ty24.enc x = wishC (wishOf x) := by
  obtain ⟨a,n,m,v,o,t,⟨⟩⟩ := x
  rfl
abbrev opssOf (x : List (List OpX)) : List (List Opn) := x.map fun l => l.map opOf
theorem opss_enc (x : List (List OpX)) : (Try.ty22.enc x).getD 0 .any = opssV (opssOf x) := by
  show AV.imm 0 (x.flatMap fun l => [AV.imm 0 (l.flatMap Try.ty84.enc) l.length]) x.length = .imm 0 ((opssOf x).map opsV) (opssOf x).length
  rw [flat_one,List.length_map]
  congr 1
  rw [List.map_map]
  refine List.map_congr_left fun l _ => ?_
  show AV.imm 0 (l.flatMap Try.ty84.enc) l.length = opsV (l.map opOf)
  rw [ops_enc,opsV,List.length_map]
theorem opss_len (x : List (List OpX)) : (opssOf x).length ≤ Try.ty22.size x := by
  show (opssOf x).length ≤ sumMap Try.ty28.size x + 1
  rw [List.length_map]
  have : ∀ l : List (List OpX),l.length ≤ sumMap Try.ty28.size l := by
    intro l
    induction l with
    | nil => exact Nat.zero_le _
    | cons a l ih =>
      show l.length + 1 ≤ _
      have h2 : 1 ≤ Try.ty28.size a := by
        show 1 ≤ sumMap _ a + 1
        omega
      simp only [sumMap,List.map_cons,List.sum_cons] at ih ⊢
      omega
  have := this x
  omega
theorem wish_len (x : WishX) : (wishOf x).txt.length ≤ Try.ty24.size x := by
  obtain ⟨a,n,m,v,o,t,⟨⟩⟩ := x
  show t.length ≤ 1 + (1 + (1 + (1 + (1 + ((t.length + 1) + 0))))) + 1
  omega
theorem both_len (x0 : List (List OpX)) (x1 : WishX) (hb : Try.ty22.size x0 + Try.ty24.size x1 ≤ 1048576) : (opssOf x0).length ≤ 1100000 ∧ (wishOf x1).txt.length ≤ 1100000 := by
  have h1 := opss_len x0
  have h2 := wish_len x1
  omega
end Go.Proofs.Ytimonfakmadhpaa
end
