/-
  Several texts in one: each says what it proves.
  Conditions: none. Lemmas only.
-/
import Derived.Test.YtimonfakmadhpaaPapG4
import Derived.Test.YtimonfakmadhpaaPapG3
import Derived.Test.YtimonfakmadhpaaFugAe
import Derived.Lib.TrimUEq
set_option linter.all false
section
set_option linter.unusedSimpArgs false
set_option linter.unusedVariables false
set_option maxRecDepth 8000
set_option maxHeartbeats 4000000
namespace Go.Proofs.Ytimonfakmadhpaa
open Go Go.Abs Go.Proofs Go.Fug
abbrev runesV (l : List Int) : AV := .imm 0 (rnC32 l) l.length
theorem runes_pure (txt : ByteArray) (ht : txt.size ≤ 2000000) : APure Try.prog 16 [.sc (.string txt)] (runesV (dO txt)) := by
  have hrl : (dO txt).length ≤ txt.size := by have := runesAt_len txt txt.size 0; simpa [dO] using this
  refine az (c := ⟨Try.prog,16,[],[],[]⟩) (rs := [ResultVar.tmp 2]) Try.mixed Try.func16 rfl rfl rfl (Nat.le_of_ble_eq_true rfl) (by kernel_rfl) fun H => ?_
  simp (disch := omega) only [↓aI,aD,aG,ixA,aX,aV,ag,aT,ae,mkA,ab,bnd,aS,aH,aK,cvO,aJ,aY,↓aO,aW,aE,aF,aM,aA,aC,aB,aN,ad,frz,aR,Nat.reduceBEq,Nat.reduceLT,reduceCtorEq,↓reduceIte,aL,AV.cellsOf,AV.fine,AV.one,aQ,Nat.reduceMul,Nat.reduceAdd,Nat.reduceLeDiff,Nat.reduceEqDiff,Int.reduceToNat,Nat.reduceSub,Nat.reduceMod,Nat.reduceDiv,indexK.aggOf,Int.reducePow,Int.reduceLE,Int.reduceNeg,Int.reduceLT,Int.reduceBEq,Int.reduceBNe,Int.reduceEq,aZ,aU,Try.facts]
  refine range_s (by kernel_rfl) fun hr hr0 hrf => ?_
  simp (disch := omega) only [↓aI,aD,aG,ixA,aX,aV,ag,aT,ae,mkA,ab,bnd,aS,aH,aK,cvO,aJ,aY,↓aO,aW,aE,aF,aM,aA,aC,aB,aN,ad,frz,aR,Nat.reduceBEq,Nat.reduceLT,reduceCtorEq,↓reduceIte,aL,AV.cellsOf,AV.fine,AV.one,aQ,Nat.reduceMul,Nat.reduceAdd,Nat.reduceLeDiff,Nat.reduceEqDiff,Int.reduceToNat,Nat.reduceSub,Nat.reduceMod,Nat.reduceDiv,indexK.aggOf,Int.reducePow,Int.reduceLE,Int.reduceNeg,Int.reduceLT,Int.reduceBEq,Int.reduceBNe,Int.reduceEq,aZ,aU,Try.facts]
  refine tok_t 3 (by simp (disch := omega) only [↓aI,aD,aG,ixA,aX,aV,ag,aT,ae,mkA,ab,bnd,aS,aH,aK,cvO,aJ,aY,↓aO,aW,aE,aF,aM,aA,aC,aB,aN,ad,frz,aR,Nat.reduceBEq,Nat.reduceLT,reduceCtorEq,↓reduceIte,aL,AV.cellsOf,AV.fine,AV.one,aQ,Nat.reduceMul,Nat.reduceAdd,Nat.reduceLeDiff,Nat.reduceEqDiff,Int.reduceToNat,Nat.reduceSub,Nat.reduceMod,Nat.reduceDiv,indexK.aggOf,Int.reducePow,Int.reduceLE,Int.reduceNeg,Int.reduceLT,Int.reduceBEq,Int.reduceBNe,Int.reduceEq,aZ,aU,Try.facts]) fun k hk0 hk => ?_
  have hrk := bK hk
  refine br (c := ⟨Try.prog,16,[],[],[]⟩) Try.mixed (by kernel_rfl) (fun mm σ H' => ∃ (pos : Nat) (A : List Int) (k : Nat) (o : AObj),mm = txt.size - pos ∧ A ++ cT txt (txt.size - pos) pos = dO txt ∧ k ≠ 0 ∧ H k = none ∧ ¬ hr = k ∧ H' hr = some (.raw (.stringIter txt pos)) ∧ H' k = some o ∧ cy 21 1 o A.length ∧ Abs.Sub H H' ∧ pos ≤ txt.size + 4 ∧
    σ 3 = .imm k (rnC32 A) A.length ∧ σ 7 = .ptr hr 0) txt.size ?_ ?_
  · refine ⟨0,[],k,.nilt,by simp,rfl,hk0,am hk,hrk,by rw [aP hrk,set_get],set_get,.inr ⟨rfl,rfl⟩,(Sub.set_new hrf).trans (Sub.set_new hk),by omega,?_⟩
    simp (disch := omega) only [↓aI,aD,aG,ixA,aX,aV,ag,aT,ae,mkA,ab,bnd,aS,aH,aK,cvO,aJ,aY,↓aO,aW,aE,aF,aM,aA,aC,aB,aN,ad,frz,aR,Nat.reduceBEq,Nat.reduceLT,reduceCtorEq,↓reduceIte,aL,AV.cellsOf,AV.fine,AV.one,aQ,Nat.reduceMul,Nat.reduceAdd,Nat.reduceLeDiff,Nat.reduceEqDiff,Int.reduceToNat,Nat.reduceSub,Nat.reduceMod,Nat.reduceDiv,indexK.aggOf,Int.reducePow,Int.reduceLE,Int.reduceNeg,Int.reduceLT,Int.reduceBEq,Int.reduceBNe,Int.reduceEq,aZ,aU,Try.facts]
    try rfl
  · clear hk0 hk hrk k
    rintro mm σ H' ⟨pos,A,k,o,rfl,hA,hk0,hk,hrk,vr,vk,ho,hs,hp4,s3,s7⟩
    have hkr : ¬ k = hr := fun e => hrk e.symm
    have hAl := ed A
    have hAll : A.length ≤ (dO txt).length := by rw [← hA,List.length_append]; omega
    simp (disch := omega) only [↓aI,aD,aG,ixA,aX,aV,ag,aT,ae,mkA,ab,bnd,aS,aH,aK,cvO,aJ,aY,↓aO,aW,aE,aF,aM,aA,aC,aB,aN,ad,frz,aR,Nat.reduceBEq,Nat.reduceLT,reduceCtorEq,↓reduceIte,aL,AV.cellsOf,AV.fine,AV.one,aQ,Nat.reduceMul,Nat.reduceAdd,Nat.reduceLeDiff,Nat.reduceEqDiff,Int.reduceToNat,Nat.reduceSub,Nat.reduceMod,Nat.reduceDiv,indexK.aggOf,Int.reducePow,Int.reduceLE,Int.reduceNeg,Int.reduceLT,Int.reduceBEq,Int.reduceBNe,Int.reduceEq,aZ,aU,Try.facts,s3,s7]
    refine next_s vr (fun hpos => ?_) (fun hpos => ?_)
    · have hw := dec_pos txt pos
      have hsn := rnC32_snoc A ((Utf8.decode txt pos).1 : Int)
      have hA1 : (A ++ [((Utf8.decode txt pos).1 : Int)]).length = A.length + 1 := by simp
      have hsl := ed (A ++ [((Utf8.decode txt pos).1 : Int)])
      have hnx : (A ++ [((Utf8.decode txt pos).1 : Int)]) ++ cT txt (txt.size - (pos + (Utf8.decode txt pos).2)) (pos + (Utf8.decode txt pos).2) = dO txt := by
        rw [← hA]
        obtain ⟨q,hq⟩ : ∃ q,txt.size - pos = q + 1 := ⟨txt.size - pos - 1,by omega⟩
        rw [hq]
        conv => rhs; unfold cT
        rw [if_pos hpos,List.append_assoc,List.singleton_append,runesAt_fuel txt _ q _ (Nat.le_refl _) (by omega)]
      have vr2 : (H'.set hr (.raw (.stringIter txt (pos + (Utf8.decode txt pos).2)))) hr = some (.raw (.stringIter txt (pos + (Utf8.decode txt pos).2))) := set_get
      have vk2 : (H'.set hr (.raw (.stringIter txt (pos + (Utf8.decode txt pos).2)))) k = some o := by rw [aP hkr]; exact vk
      have hs2 : Abs.Sub H (H'.set hr (.raw (.stringIter txt (pos + (Utf8.decode txt pos).2)))) := hs.set_free hrf
      have hpl : pos + (Utf8.decode txt pos).2 ≤ txt.size + 4 := by
        have : (Utf8.decode txt pos).2 ≤ 4 := by
          unfold Utf8.decode
          simp only []
          repeat' split
          all_goals simp
        omega
      generalize H'.set hr _ = H2 at *
      generalize hA2 : A ++ [((Utf8.decode txt pos).1 : Int)] = A2 at *
      simp (disch := omega) only [↓aI,aD,aG,ixA,aX,aV,ag,aT,ae,mkA,ab,bnd,aS,aH,aK,cvO,aJ,aY,↓aO,aW,aE,aF,aM,aA,aC,aB,aN,ad,frz,aR,Nat.reduceBEq,Nat.reduceLT,reduceCtorEq,↓reduceIte,aL,AV.cellsOf,AV.fine,AV.one,aQ,Nat.reduceMul,Nat.reduceAdd,Nat.reduceLeDiff,Nat.reduceEqDiff,Int.reduceToNat,Nat.reduceSub,Nat.reduceMod,Nat.reduceDiv,indexK.aggOf,Int.reducePow,Int.reduceLE,Int.reduceNeg,Int.reduceLT,Int.reduceBEq,Int.reduceBNe,Int.reduceEq,aZ,aU,Try.facts,s3,s7,dT,dF,qT,qF,nT,nF,Bool.false_and,Bool.and_false,vk2,ho,hAl,hsn]
      intro k3 o3 hk30 hk3 ho3
      rw [hsl] at ho3
      have n1 := bA vr2 hk3
      exact ⟨_,by omega,_,A2,k3,o3,rfl,hnx,hk30,hs2.free hk3,n1,by rw [aP n1,bZ hrk]; exact vr2,set_get,ho3,(hs2.kill_free hk).set_free (hs2.free hk3),hpl,by rw [hA1]⟩
    · have hAe : A = dO txt := by
        have : txt.size - pos = 0 := by omega
        rw [this] at hA
        rw [← hA]
        simp [cT]
      rw [← hAe]
      simp (disch := omega) only [↓aI,aD,aG,ixA,aX,aV,ag,aT,ae,mkA,ab,bnd,aS,aH,aK,cvO,aJ,aY,↓aO,aW,aE,aF,aM,aA,aC,aB,aN,ad,frz,aR,Nat.reduceBEq,Nat.reduceLT,reduceCtorEq,↓reduceIte,aL,AV.cellsOf,AV.fine,AV.one,aQ,Nat.reduceMul,Nat.reduceAdd,Nat.reduceLeDiff,Nat.reduceEqDiff,Int.reduceToNat,Nat.reduceSub,Nat.reduceMod,Nat.reduceDiv,indexK.aggOf,Int.reducePow,Int.reduceLE,Int.reduceNeg,Int.reduceLT,Int.reduceBEq,Int.reduceBNe,Int.reduceEq,aZ,aU,Try.facts,s3,s7]
      exact hs
structure Wsh where
  at_ : Int
  n : Int
  name : Int
  value : Int
  author : Int
  txt : List UInt8
end Go.Proofs.Ytimonfakmadhpaa
end
section
set_option linter.unusedSimpArgs false
set_option linter.unusedVariables false
set_option maxRecDepth 8000
namespace Go.Proofs.Ytimonfakmadhpaa
open Go Go.Abs Go.Proofs Go.Fug
def runesN (N : List Nd) : List Int := (liv N).map (·.rune)
theorem rnC32_all (l : List Int) : (rnC32 l).all isI32 = true := by
  rw [List.all_eq_true]
  intro x hx
  obtain ⟨r,-,rfl⟩ := List.mem_map.1 hx
  rfl
theorem rnC32_bytes (l : List Int) : ((rnC32 l).map runeA).flatMap dQ = l.flatMap dQ := by
  unfold rnC32
  rw [List.map_map]
  congr 1
  exact (List.map_congr_left fun r _ => rfl).trans (List.map_id _)
theorem rnC32_app (l m : List Int) : rnC32 l ++ rnC32 m = rnC32 (l ++ m) := by simp [rnC32]
theorem rnC32_take (l : List Int) (k : Nat) : (rnC32 l).take k = rnC32 (l.take k) := by simp [rnC32,List.map_take]
theorem rnC32_drop (l : List Int) (k : Nat) : (rnC32 l).drop k = rnC32 (l.drop k) := by simp [rnC32,List.map_drop]
theorem textP_runes (s : PS) : textP s = (runesN (bF s.L s.G)).flatMap dQ := by
  unfold textP cW runesN
  rw [List.flatMap_map]
  rfl
theorem nodes_let {L : List Ins} {G : List EId} (h : ∀ i ∈ L,letO i.rune = true) (nd : (L.map (·.id)).Nodup) : ∀ r ∈ runesN (bF L G),letO r = true := fun r hr => by
  obtain ⟨n,hn,rfl⟩ := List.mem_map.1 hr
  obtain ⟨y,hy,e⟩ := mem_below (List.mem_filter.1 hn).1
  obtain ⟨i,hi,rfl⟩ := List.mem_map.1 hy
  rw [e,ndOf_mem nd G hi]
  exact h i hi
end Go.Proofs.Ytimonfakmadhpaa
end
section
set_option linter.unusedSimpArgs false
set_option linter.unusedVariables false
set_option maxRecDepth 8000
set_option maxHeartbeats 1000000
namespace Go.Proofs.Ytimonfakmadhpaa
open Go Go.Abs Go.Proofs Go.Fug
theorem ofU8 (n : Nat) (h : n < 256) : (UInt8.ofNat n).toNat = n := by rw [UInt8.toNat_ofNat']; omega
def u8enc (n : Nat) : List UInt8 :=
  if n < 128 then [UInt8.ofNat n]
  else if n < 2048 then [UInt8.ofNat (192 + n / 64),UInt8.ofNat (128 + n % 64)]
  else if n < 65536 then [UInt8.ofNat (224 + n / 4096),UInt8.ofNat (128 + n / 64 % 64),UInt8.ofNat (128 + n % 64)]
  else [UInt8.ofNat (240 + n / 262144),UInt8.ofNat (128 + n / 4096 % 64),UInt8.ofNat (128 + n / 64 % 64),UInt8.ofNat (128 + n % 64)]
theorem runeB_enc {r : Int} (h : letO r = true) : dQ r = u8enc r.toNat := by
  have h1 := letO_iff.1 h
  have hv : Utf8.valid r = true := by
    unfold Utf8.valid
    simp only [Bool.or_eq_true,Bool.and_eq_true,decide_eq_true_eq]
    omega
  unfold dQ Utf8.encode u8enc
  simp only [hv,if_true]
  by_cases c1 : r.toNat < 128
  · rw [if_pos c1,if_pos c1]
  · rw [if_neg c1,if_neg c1]
    by_cases c2 : r.toNat < 2048
    · rw [if_pos c2,if_pos c2]
    · rw [if_neg c2,if_neg c2]
      by_cases c3 : r.toNat < 65536
      · rw [if_pos c3,if_pos c3]
      · rw [if_neg c3,if_neg c3]
theorem u8enc_pos (n : Nat) : 1 ≤ (u8enc n).length := by
  unfold u8enc
  repeat' split
  all_goals simp
theorem dec_u8enc (n : Nat) (h : n ≤ 1114111 ∧ (n < 55296 ∨ 57343 < n)) (C : List UInt8) :
    Lib.decodeN (u8enc n ++ C).length ((u8enc n ++ C).getD 0 0).toNat ((u8enc n ++ C).getD 1 0).toNat ((u8enc n ++ C).getD 2 0).toNat ((u8enc n ++ C).getD 3 0).toNat = (n,(u8enc n).length) := by
  unfold u8enc
  by_cases c1 : n < 128
  · simp only [if_pos c1,List.cons_append,List.nil_append,List.getD_cons_zero,List.length_cons,List.length_nil]
    rw [ofU8 n (by omega)]
    unfold Lib.decodeN
    rw [if_pos c1]
  · by_cases c2 : n < 2048
    · simp only [if_neg c1,if_pos c2,List.cons_append,List.nil_append,List.getD_cons_zero,List.getD_cons_succ,List.length_cons,List.length_nil]
      rw [ofU8 (192 + n / 64) (by omega),ofU8 (128 + n % 64) (by omega)]
      unfold Lib.decodeN
      rw [if_neg (by omega),if_pos (by omega),if_pos (by omega)]
      refine Prod.ext ?_ rfl
      simp only
      omega
    · by_cases c3 : n < 65536
      · simp only [if_neg c1,if_neg c2,if_pos c3,List.cons_append,List.nil_append,List.getD_cons_zero,List.getD_cons_succ,List.length_cons,List.length_nil]
        rw [ofU8 (224 + n / 4096) (by omega),ofU8 (128 + n / 64 % 64) (by omega),ofU8 (128 + n % 64) (by omega)]
        unfold Lib.decodeN
        have e : (224 + n / 4096) % 16 * 4096 + (128 + n / 64 % 64) % 64 * 64 + (128 + n % 64) % 64 = n := by omega
        rw [if_neg (by omega),if_neg (by omega),if_pos (by omega),e,if_pos (by omega)]
      · simp only [if_neg c1,if_neg c2,if_neg c3,List.cons_append,List.nil_append,List.getD_cons_zero,List.getD_cons_succ,List.length_cons,List.length_nil]
        rw [ofU8 (240 + n / 262144) (by omega),ofU8 (128 + n / 4096 % 64) (by omega),ofU8 (128 + n / 64 % 64) (by omega),ofU8 (128 + n % 64) (by omega)]
        unfold Lib.decodeN
        have e : (240 + n / 262144) % 8 * 262144 + (128 + n / 4096 % 64) % 64 * 4096 + (128 + n / 64 % 64) % 64 * 64 + (128 + n % 64) % 64 = n := by omega
        rw [if_neg (by omega),if_neg (by omega),if_neg (by omega),if_pos (by omega),e,if_pos (by omega)]
theorem dec_rune {r : Int} (h : letO r = true) (A C : List UInt8) : Utf8.decode ⟨(A ++ (dQ r ++ C)).toArray⟩ A.length = (r.toNat,(dQ r).length) := by
  have h1 := letO_iff.1 h
  have h2 := dec_u8enc r.toNat ⟨by omega,by omega⟩ C
  rw [← runeB_enc h] at h2
  have hg : ∀ k,(A ++ (dQ r ++ C)).getD (A.length + k) 0 = (dQ r ++ C).getD k 0 := fun k => by
    simp only [List.getD_eq_getElem?_getD]
    rw [List.getElem?_append_right (by omega),Nat.add_sub_cancel_left]
  rw [Lib.decode_N]
  show Lib.decodeN ((A ++ (dQ r ++ C)).length - A.length) ((A ++ (dQ r ++ C)).getD A.length 0).toNat ((A ++ (dQ r ++ C)).getD (A.length + 1) 0).toNat ((A ++ (dQ r ++ C)).getD (A.length + 2) 0).toNat ((A ++ (dQ r ++ C)).getD (A.length + 3) 0).toNat = _
  have h0 := hg 0
  rw [Nat.add_zero] at h0
  rw [h0,hg,hg,hg,List.length_append,Nat.add_sub_cancel_left]
  exact h2
theorem runes_enc : ∀ (rs : List Int) (A : List UInt8) (n : Nat),(∀ r ∈ rs,letO r = true) → (rs.flatMap dQ).length ≤ n → cT ⟨(A ++ rs.flatMap dQ).toArray⟩ n A.length = rs
  | [],A,0,_,_ => rfl
  | [],A,n + 1,_,_ => by
    rw [cT,if_neg]
    show ¬ A.length < (A ++ _).toArray.size
    simp
  | r :: rs,A,n,h,hn => by
    have hr := h r (by simp)
    have hp : 1 ≤ (dQ r).length := by rw [runeB_enc hr]; exact u8enc_pos _
    rw [List.flatMap_cons,List.length_append] at hn
    obtain ⟨n,rfl⟩ : ∃ m,n = m + 1 := ⟨n - 1,by omega⟩
    have ih := runes_enc rs (A ++ dQ r) n (fun x hx => h x (by simp [hx])) (by omega)
    rw [List.append_assoc,List.length_append] at ih
    rw [List.flatMap_cons,cT,if_pos,dec_rune hr]
    · have h1 := letO_iff.1 hr
      rw [ih]
      simp only [List.cons.injEq,and_true]
      omega
    · show A.length < (A ++ (dQ r ++ _)).toArray.size
      simp
      omega
theorem runesS_enc (rs : List Int) (h : ∀ r ∈ rs,letO r = true) : dO ⟨(rs.flatMap dQ).toArray⟩ = rs := by
  have h1 := runes_enc rs [] (rs.flatMap dQ).length h (Nat.le_refl _)
  rw [List.nil_append] at h1
  exact h1
end Go.Proofs.Ytimonfakmadhpaa
end
