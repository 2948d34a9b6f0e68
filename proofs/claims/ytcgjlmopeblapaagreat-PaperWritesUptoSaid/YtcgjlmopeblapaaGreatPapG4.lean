/-
  Several texts in one: each says what it proves.
  Conditions: none. Lemmas only.
-/
import Derived.Test.YtcgjlmopeblapaaGreatPapG3
import Derived.Test.YtcgjlmopeblapaaGreatFugG6
set_option linter.all false
section
set_option linter.unusedSimpArgs false
set_option linter.unusedVariables false
set_option maxRecDepth 8000
set_option maxHeartbeats 4000000
namespace Go.Proofs.YtcgjlmopeblapaaGreat
open Go Go.Abs Go.Proofs Go.Fug
theorem dec_pos (s : ByteArray) (i : Nat) : 1 ≤ (Utf8.decode s i).2 := by
  unfold Utf8.decode
  simp only []
  repeat' split
  all_goals simp
def cT (s : ByteArray) : Nat → Nat → List Int
  | 0,_ => []
  | n + 1,p => if p < s.size then ((Utf8.decode s p).1 : Int) :: cT s n (p + (Utf8.decode s p).2) else []
def dO (s : ByteArray) : List Int := cT s s.size 0
theorem runesAt_fuel (s : ByteArray) : ∀ (n m p : Nat),s.size - p ≤ n → s.size - p ≤ m → cT s n p = cT s m p
  | 0,0,p,_,_ => rfl
  | 0,m + 1,p,h,_ => by unfold cT; rw [if_neg (by omega)]
  | n + 1,0,p,_,h => by unfold cT; rw [if_neg (by omega)]
  | n + 1,m + 1,p,h1,h2 => by
    unfold cT
    have := dec_pos s p
    split
    · rw [runesAt_fuel s n m _ (by omega) (by omega)]
    · rfl
theorem runesAt_len (s : ByteArray) : ∀ (n p : Nat),(cT s n p).length ≤ s.size - p
  | 0,p => by simp [cT]
  | n + 1,p => by
    unfold cT
    have := dec_pos s p
    split
    · have := runesAt_len s n (p + (Utf8.decode s p).2)
      simp only [List.length_cons]
      omega
    · simp
def rnC32 (l : List Int) : List AV := l.map fun r => .sc (.int .i32 r)
theorem ed (l : List Int) : (rnC32 l).length = l.length := by simp [rnC32]
theorem rnC32_snoc (l : List Int) (r : Int) : rnC32 l ++ [.sc (.int .i32 r)] = rnC32 (l ++ [r]) := by simp [rnC32]
theorem rnC32_get {l : List Int} {i : Nat} (h : i < l.length) : (rnC32 l)[i]? = some (.sc (.int .i32 l[i])) := by
  unfold rnC32
  rw [List.getElem?_map,List.getElem?_eq_getElem h]; rfl
def eW (author : Int) : Int → EId → Bool → List Int → List Opn
  | _,_,_,[] => []
  | c,a,r,x :: l => ⟨1,⟨(author,c + 1),a,r,x⟩,(0,0),cF⟩ :: eW author (c + 1) (author,c + 1) true l
def typeP (s : PS) (at_ : Int) (txt : ByteArray) (author : Int) : List Opn × Int :=
  if author < 0 ∨ 5 ≤ author then ([],1)
  else if at_ < 0 ∨ ((s.L.length - s.G.length : Nat) : Int) < at_ then ([],6)
  else if 64 < (dO txt).length then ([],2)
  else if 1099511627776 < dh s author + (dO txt).length then ([],14)
  else (eW author (dh s author) (planL s.L s.G at_).1 (planL s.L s.G at_).2.1 (dO txt),0)
theorem countP_le {s : PS} (a : Int) (hI : ∀ i ∈ s.I,i.id.2 ≤ 1099511627776) : 0 ≤ dh s a ∧ dh s a ≤ 1099511627776 := by
  have key : ∀ (I : List Ins) (n : Int),(∀ i ∈ I,i.id.2 ≤ 1099511627776) → 0 ≤ n ∧ n ≤ 1099511627776 → 0 ≤ I.foldl (cntF a) n ∧ I.foldl (cntF a) n ≤ 1099511627776 := by
    intro I
    induction I with
    | nil => intro n _ h; exact h
    | cons i I ih =>
      intro n hI hn
      rw [List.foldl_cons]
      refine ih _ (fun j hj => hI j (by simp [hj])) ?_
      have := hI i (by simp)
      unfold cntF
      split
      · omega
      · exact hn
  exact key s.I 0 hI (by omega)
theorem type_live (B H : AH) (h : PH) (s : PS) (at_ : Int) (txt : ByteArray) (author : Int) (p : IsP B H h s) (hh : h.p ≠ 0) (ht : txt.size ≤ 1000000) (hI : ∀ i ∈ s.I, i.id.2 ≤ 1099511627776) :
    ACalls Tryz.prog 8 [.ptr h.p 0,.sc (.int .i64 at_),.sc (.string txt),.sc (.int .i64 author)] H fun v H' => v = .tup [opsV (typeP s at_ txt author).1,.sc (.int .i64 (typeP s at_ txt author).2)] ∧ H' = H := by
  have hlen := plen_live B H h s p
  have hcl := countP_le (s := s) author hI
  have hrl : (dO txt).length ≤ txt.size := by have := runesAt_len txt txt.size 0; simpa [dO] using this
  have hR : typeP s at_ txt author = if author < 0 ∨ 5 ≤ author then ([],1) else if at_ < 0 ∨ ((s.L.length - s.G.length : Nat) : Int) < at_ then ([],6) else if 64 < (dO txt).length then ([],2) else if 1099511627776 < dh s author + (dO txt).length then ([],14) else (eW author (dh s author) (planL s.L s.G at_).1 (planL s.L s.G at_).2.1 (dO txt),0) := rfl
  generalize typeP s at_ txt author = R at *
  by_cases c1 : author < 0 ∨ 5 ≤ author
  · rw [if_pos c1] at hR
    subst hR
    by_cases c2 : author < 0
    · refine ao (c := ⟨Tryz.prog,92,[(1000021,[20]),(4000022,[3,13,14,17,20,69,70,71]),(4000021,[3,13,14,15,17,19,20,69,70,71]),(4000015,[3,10,13,14,15]),(4000013,[0,1,3,10,13,58]),(4000011,[0,1,3,10,40]),(4000003,[0,1,2,3,38]),(4000001,[0,1,2,3,26])],[],[]⟩) (rs := [ResultVar.tmp 8,ResultVar.tmp 9]) Tryz.mixed Tryz.func8 rfl rfl rfl (Nat.le_of_ble_eq_true rfl) (by kernel_rfl) ?_
      simp (disch := omega) only [↓aI,↓zP,aD,zD,aS,simprocAttr,Tryz.facts,zA]
      exact ⟨_,rfl,_,Abs.Sub.refl _,rfl,rfl⟩
    · refine ao (c := ⟨Tryz.prog,92,[(1000021,[20]),(4000022,[3,13,14,17,20,69,70,71]),(4000021,[3,13,14,15,17,19,20,69,70,71]),(4000015,[3,10,13,14,15]),(4000013,[0,1,3,10,13,58]),(4000011,[0,1,3,10,40]),(4000003,[0,1,2,3,38]),(4000001,[0,1,2,3,26])],[],[]⟩) (rs := [ResultVar.tmp 8,ResultVar.tmp 9]) Tryz.mixed Tryz.func8 rfl rfl rfl (Nat.le_of_ble_eq_true rfl) (by kernel_rfl) ?_
      simp (disch := omega) only [↓aI,↓zP,aD,zD,aS,simprocAttr,Tryz.facts,zA]
      exact ⟨_,rfl,_,Abs.Sub.refl _,rfl,rfl⟩
  · rw [if_neg c1] at hR
    by_cases c2 : at_ < 0 ∨ ((s.L.length - s.G.length : Nat) : Int) < at_
    · rw [if_pos c2] at hR
      subst hR
      by_cases c3 : at_ < 0
      · refine ao (c := ⟨Tryz.prog,92,[(1000021,[20]),(4000022,[3,13,14,17,20,69,70,71]),(4000021,[3,13,14,15,17,19,20,69,70,71]),(4000015,[3,10,13,14,15]),(4000013,[0,1,3,10,13,58]),(4000011,[0,1,3,10,40]),(4000003,[0,1,2,3,38]),(4000001,[0,1,2,3,26])],[],[]⟩) (rs := [ResultVar.tmp 8,ResultVar.tmp 9]) Tryz.mixed Tryz.func8 rfl rfl rfl (Nat.le_of_ble_eq_true rfl) (by kernel_rfl) ?_
        simp (disch := omega) only [↓aI,↓zP,aD,zD,aS,simprocAttr,Tryz.facts,zA]
        exact ⟨_,rfl,_,Abs.Sub.refl _,rfl,rfl⟩
      · refine ao (c := ⟨Tryz.prog,92,[(1000021,[20]),(4000022,[3,13,14,17,20,69,70,71]),(4000021,[3,13,14,15,17,19,20,69,70,71]),(4000015,[3,10,13,14,15]),(4000013,[0,1,3,10,13,58]),(4000011,[0,1,3,10,40]),(4000003,[0,1,2,3,38]),(4000001,[0,1,2,3,26])],[],[]⟩) (rs := [ResultVar.tmp 8,ResultVar.tmp 9]) Tryz.mixed Tryz.func8 rfl rfl rfl (Nat.le_of_ble_eq_true rfl) (by kernel_rfl) ?_
        simp (disch := omega) only [↓aI,↓zP,aD,zD,aS,simprocAttr,Tryz.facts,zA]
        refine CallK.i hlen ?_
        rintro v E ⟨rfl,rfl⟩
        simp (disch := omega) only [↓aI,↓zP,aD,zD,aS,simprocAttr,Tryz.facts,zA]
        exact ⟨_,rfl,_,Abs.Sub.refl _,rfl,rfl⟩
    · rw [if_neg c2] at hR
      refine ao (c := ⟨Tryz.prog,92,[(1000021,[20]),(4000022,[3,13,14,17,20,69,70,71]),(4000021,[3,13,14,15,17,19,20,69,70,71]),(4000015,[3,10,13,14,15]),(4000013,[0,1,3,10,13,58]),(4000011,[0,1,3,10,40]),(4000003,[0,1,2,3,38]),(4000001,[0,1,2,3,26])],[],[]⟩) (rs := [ResultVar.tmp 8,ResultVar.tmp 9]) Tryz.mixed Tryz.func8 rfl rfl rfl (Nat.le_of_ble_eq_true rfl) (by kernel_rfl) ?_
      simp (disch := omega) only [↓aI,↓zP,aD,zD,aS,simprocAttr,Tryz.facts,zA]
      refine CallK.i hlen ?_
      rintro v E ⟨rfl,rfl⟩
      simp (disch := omega) only [↓aI,↓zP,aD,zD,aS,simprocAttr,Tryz.facts,zA]
      refine range_s (by kernel_rfl) fun hr hr0 hrf => ?_
      simp (disch := omega) only [↓aI,↓zP,aD,zD,aS,simprocAttr,Tryz.facts]
      refine tok_t 10 (by simp (disch := omega) only [↓aI,↓zP,aD,zD,aS,simprocAttr,Tryz.facts]) fun k hk0 hk => ?_
      have hrk := bK hk
      refine br (c := ⟨Tryz.prog,92,[(1000021,[20]),(4000022,[3,13,14,17,20,69,70,71]),(4000021,[3,13,14,15,17,19,20,69,70,71]),(4000015,[3,10,13,14,15]),(4000013,[0,1,3,10,13,58]),(4000011,[0,1,3,10,40]),(4000003,[0,1,2,3,38]),(4000001,[0,1,2,3,26])],[],[]⟩) Tryz.mixed (by kernel_rfl) (fun mm σ H' => ∃ (pos : Nat) (A : List Int) (k : Nat) (o : AObj),mm = txt.size - pos ∧ A ++ cT txt (txt.size - pos) pos = dO txt ∧ A.length ≤ 64 ∧ k ≠ 0 ∧ E k = none ∧ ¬ hr = k ∧ H' hr = some (.raw (.stringIter txt pos)) ∧ H' k = some o ∧ cy 21 1 o A.length ∧ Abs.Sub E H' ∧
        σ 0 = .ptr h.p 0 ∧ σ 1 = .sc (.int .i64 at_) ∧ σ 3 = .sc (.int .i64 author) ∧ σ 10 = .imm k (rnC32 A) A.length ∧ σ 40 = .ptr hr 0) txt.size ?_ ?_
      · refine ⟨0,[],k,.nilt,by simp,rfl,by simp,hk0,am hk,hrk,by rw [aP hrk,set_get],set_get,.inr ⟨rfl,rfl⟩,(Sub.set_new hrf).trans (Sub.set_new hk),?_⟩
        simp (disch := omega) only [↓aI,↓zP,aD,zD,aS,simprocAttr,Tryz.facts]
        try rfl
      · clear hk0 hk hrk k
        rintro mm σ H' ⟨pos,A,k,o,rfl,hA,hA64,hk0,hk,hrk,vr,vk,ho,hs,s0,s1,s3,s10,s40⟩
        have hkr : ¬ k = hr := fun e => hrk e.symm
        have hAl := ed A
        simp (disch := omega) only [↓aI,↓zP,aD,zD,aS,simprocAttr,Tryz.facts,s0,s1,s3,s10,s40]
        refine next_s vr (fun hpos => ?_) (fun hpos => ?_)
        · have hw := dec_pos txt pos
          have hsn := rnC32_snoc A ((Utf8.decode txt pos).1 : Int)
          have hA1 : (A ++ [((Utf8.decode txt pos).1 : Int)]).length = A.length + 1 := by simp
          have hsl := ed (A ++ [((Utf8.decode txt pos).1 : Int)])
          have hnx : (A ++ [((Utf8.decode txt pos).1 : Int)]) ++ cT txt (txt.size - (pos + (Utf8.decode txt pos).2)) (pos + (Utf8.decode txt pos).2) = dO txt := by
            rw [← hA]
            obtain ⟨q,hq⟩ : ∃ q,txt.size - pos = q + 1 := ⟨txt.size - pos - 1,by omega⟩
            rw [hq]
            conv => rhs; unfold cT
            rw [if_pos hpos,List.append_assoc,List.singleton_append,runesAt_fuel txt _ q _ (Nat.le_refl _) (by omega)]
          have vr2 : (H'.set hr (.raw (.stringIter txt (pos + (Utf8.decode txt pos).2)))) hr = some (.raw (.stringIter txt (pos + (Utf8.decode txt pos).2))) := set_get
          have vk2 : (H'.set hr (.raw (.stringIter txt (pos + (Utf8.decode txt pos).2)))) k = some o := by rw [aP hkr]; exact vk
          have hs2 : Abs.Sub E (H'.set hr (.raw (.stringIter txt (pos + (Utf8.decode txt pos).2)))) := hs.set_free hrf
          have hpl : pos + (Utf8.decode txt pos).2 ≤ txt.size + 4 := by
            have : (Utf8.decode txt pos).2 ≤ 4 := by
              unfold Utf8.decode
              simp only []
              repeat' split
              all_goals simp
            omega
          generalize H'.set hr _ = H2 at *
          generalize hA2 : A ++ [((Utf8.decode txt pos).1 : Int)] = A2 at *
          by_cases h64 : A.length = 64
          · have hlong : 64 < (dO txt).length := by
              rw [← hnx,List.length_append]; omega
            rw [if_pos hlong] at hR
            subst hR
            simp (disch := omega) only [↓aI,↓zP,aD,zD,aS,simprocAttr,Tryz.facts,s0,s1,s3,s10,s40,zA]
            exact ⟨_,rfl,E,hs2,rfl,rfl⟩
          · simp (disch := omega) only [↓aI,↓zP,aD,zD,aS,simprocAttr,Tryz.facts,s0,s1,s3,s10,s40,zA,vk2,ho,hAl,hsn]
            intro k3 o3 hk30 hk3 ho3
            rw [hsl] at ho3
            have n1 := bA vr2 hk3
            exact ⟨_,by omega,_,A2,k3,o3,rfl,hnx,by omega,hk30,hs2.free hk3,n1,by rw [aP n1,bZ hrk]; exact vr2,set_get,ho3,(hs2.kill_free hk).set_free (hs2.free hk3),by rw [hA1]⟩
        · have hAe : A = dO txt := by
            have : txt.size - pos = 0 := by omega
            rw [this] at hA
            rw [← hA]
            simp [cT]
          rw [← hAe] at hR hrl
          rw [if_neg (by omega)] at hR
          have hcn := count_live B H' h s author (p.mono hs)
          simp (disch := omega) only [↓aI,↓zP,aD,zD,aS,simprocAttr,Tryz.facts,s0,s1,s3,s10,s40]
          refine CallK.i hcn ?_
          rintro v E2 ⟨rfl,hE2⟩
          subst hE2
          by_cases c4 : 1099511627776 < dh s author + A.length
          · rw [if_pos c4] at hR
            subst hR
            simp (disch := omega) only [↓aI,↓zP,aD,zD,aS,simprocAttr,Tryz.facts,s0,s1,s3,s10,s40,zA]
            exact ⟨_,rfl,E,hs,rfl,rfl⟩
          · rw [if_neg c4] at hR
            generalize hc0 : dh s author = cn at *
            have pH := p.mono hs
            obtain ⟨wv,vp,-⟩ := pH.pw
            have hpl := plan_live _ h.t h.mt s.L s.G at_ pH.t
            generalize planL s.L s.G at_ = pl at *
            obtain ⟨⟨pa,pc⟩,r0,er⟩ := pl
            simp only [] at hR
            simp (disch := omega) only [↓aI,↓zP,aD,zD,aS,simprocAttr,Tryz.facts,s0,s1,s3,s10,s40,zA,vp]
            refine CallK.i hpl ?_
            rintro v E3 ⟨rfl,hE3⟩
            subst hE3
            simp (disch := omega) only [↓aI,↓zP,aD,zD,aS,simprocAttr,Tryz.facts,s3,s10]
            intro b14 hb140 hb14
            have hb14E := hs.free hb14
            simp (disch := omega) only [↓aI,↓zP,aD,zD,aS,simprocAttr,Tryz.facts,s3,s10,ah]
            refine tok_t 17 (by simp (disch := omega) only [↓aI,↓zP,aD,zD,aS,simprocAttr,Tryz.facts]) fun k2 hk20 hk2 => ?_
            have nbk := bK hk2
            have hk2E := hs.free (am hk2)
            refine br (c := ⟨Tryz.prog,92,[(1000021,[20]),(4000022,[3,13,14,17,20,69,70,71]),(4000021,[3,13,14,15,17,19,20,69,70,71]),(4000015,[3,10,13,14,15]),(4000013,[0,1,3,10,13,58]),(4000011,[0,1,3,10,40]),(4000003,[0,1,2,3,38]),(4000001,[0,1,2,3,26])],[],[]⟩) Tryz.mixed (by kernel_rfl) (fun mq σ H2 => ∃ (j : Nat) (a : EId) (r : Bool) (O : List Opn) (k2 : Nat) (o2 : AObj),j + mq = A.length ∧ O ++ eW author (cn + (j : Nat)) a r (A.drop j) = R.1 ∧ O.length = j ∧ k2 ≠ 0 ∧ E k2 = none ∧ ¬ b14 = k2 ∧ H2 b14 = some (.cells [.sc (.int .i64 a.1),.sc (.int .i64 a.2)] 50 2) ∧ H2 k2 = some o2 ∧ cy 58 19 o2 (O.length * 19) ∧ Abs.Sub E H2 ∧
              σ 3 = .sc (.int .i64 author) ∧ σ 13 = .sc (.int .i64 (cn + (j : Nat))) ∧ σ 14 = .ptr b14 0 ∧ σ 15 = .sc (.bool r) ∧ σ 17 = .imm k2 (dL O) O.length ∧ σ 69 = .imm k (rnC32 A) A.length ∧ σ 70 = .sc (.int .i64 A.length) ∧ σ 71 = .sc (.int .i64 (j : Nat))) A.length ?_ ?_
            · refine ⟨0,(pa,pc),r0,[],k2,.nilt,by omega,?_,rfl,hk20,hk2E,nbk,by rw [aP nbk,set_get],set_get,.inr ⟨rfl,rfl⟩,(hs.set_free hb14E).set_free hk2E,?_⟩
              · rw [hR]; simp
              · simp (disch := omega) only [↓aI,↓zP,aD,zD,aS,simprocAttr,Tryz.facts,s3,s10]
                refine ⟨?_,rfl⟩
                rw [Int.add_zero]
            · clear hk2E nbk hk2 hk20 k2 s0 s1 s3 s10 s40
              rintro mq σ H2 ⟨j,a,r,O,k2,o2,hjm,hops,hOj,hk20,hk2E,nbk,vb,vk2,ho2,hs2,s3,s13,s14,s15,s17,s69,s70,s71⟩
              have hOl := cq O
              by_cases hlt : j < A.length
              · have hg := rnC32_get hlt
                have hjl : j < (rnC32 A).length := by rw [ed]; exact hlt
                have hcj : (cn + (j : Int)) + 1 = cn + ((j + 1 : Nat) : Int) := by omega
                have hdr : A.drop j = A[j] :: A.drop (j + 1) := List.drop_eq_getElem_cons hlt
                rw [hdr] at hops
                generalize A[j] = x at *
                unfold eW at hops
                rw [hcj] at hops
                have hsn := opsC_snoc O ⟨1,⟨(author,cn + ((j + 1 : Nat) : Int)),a,r,x⟩,(0,0),cF⟩
                have hO1 : (O ++ [(⟨1,⟨(author,cn + ((j + 1 : Nat) : Int)),a,r,x⟩,(0,0),cF⟩ : Opn)]).length = O.length + 1 := by simp
                have hsl := cq (O ++ [(⟨1,⟨(author,cn + ((j + 1 : Nat) : Int)),a,r,x⟩,(0,0),cF⟩ : Opn)])
                have hops2 : (O ++ [(⟨1,⟨(author,cn + ((j + 1 : Nat) : Int)),a,r,x⟩,(0,0),cF⟩ : Opn)]) ++ eW author (cn + ((j + 1 : Nat) : Int)) (author,cn + ((j + 1 : Nat) : Int)) true (A.drop (j + 1)) = R.1 := by
                  rw [← hops,List.append_assoc,List.singleton_append]
                generalize O ++ [(⟨1,⟨(author,cn + ((j + 1 : Nat) : Int)),a,r,x⟩,(0,0),cF⟩ : Opn)] = O2 at *
                obtain ⟨a1,a2⟩ := a
                simp only [opC,cF] at hsn
                simp only [] at vb
                simp (disch := omega) only [↓aI,↓zP,aD,zD,aS,simprocAttr,Tryz.facts,s3,s13,s14,s15,s17,s69,s70,s71,zA,hg,hjl,hcj]
                intro b20 hb200 hb20
                have nb20 := bA vb hb20
                have nk20 := bA vk2 hb20
                simp (disch := omega) only [↓aI,↓zP,aD,zD,aS,simprocAttr,Tryz.facts,s3,s13,s14,s15,s17,s69,s70,s71,zA,aj hb20,ah,vb,vk2,ho2,hOl,hsn]
                intro k3 o3 hk30 hk3 ho3
                rw [hsl,hO1] at ho3
                have n3 := bA vb hk3
                have nbk' : ¬ k3 = b14 := fun e => n3 e.symm
                simp (disch := omega) only [↓aI,↓zP,aD,zD,aS,simprocAttr,Tryz.facts,s3,s13,s14,s15,s17,s69,s70,s71,zA,ah,vb,aP,bZ,n3,nbk,aj hb20]
                refine ⟨mq - 1,by omega,j + 1,(author,cn + ((j + 1 : Nat) : Int)),true,O2,k3,o3,by omega,hops2,by omega,hk30,hs2.free hk3,n3,rfl,by rw [aP nbk',set_get],by rw [hO1]; exact ho3,((hs2.kill_free hk2E).set_free (hs2.free hk3)).set_free hb14E,?_⟩
                rw [hO1]
                exact ⟨rfl,rfl,rfl,rfl⟩
              · obtain rfl : j = A.length := by omega
                simp (disch := omega) only [↓aI,↓zP,aD,zD,aS,simprocAttr,Tryz.facts,s3,s13,s14,s15,s17,s69,s70,s71,zA]
                have hfin : O = R.1 := by
                  rw [List.drop_length] at hops
                  unfold eW at hops
                  rwa [List.append_nil] at hops
                have hR2 : R.2 = 0 := by rw [hR]
                rw [hfin,hR2]
                exact ⟨_,rfl,E,hs2,rfl,rfl⟩
end Go.Proofs.YtcgjlmopeblapaaGreat
end
section
set_option linter.unusedSimpArgs false
set_option linter.unusedVariables false
set_option maxRecDepth 8000
set_option maxHeartbeats 4000000
namespace Go.Proofs.YtcgjlmopeblapaaGreat
open Go Go.Abs Go.Proofs Go.Fug
def o1 : Opn := ⟨1,⟨(0,1),(0,0),true,97⟩,(0,0),cF⟩
def o2 : Opn := ⟨1,⟨(0,2),(0,1),true,98⟩,(0,0),cF⟩
theorem aw_type : typeP ps0 0 ⟨#[97,98]⟩ 0 = ([o1,o2],0) := by decide
theorem aw_1 : (doP ps0 [o2]).1 = 0 ∧ waitN (doP ps0 [o2]).2 = 1 ∧ textP (doP ps0 [o2]).2 = [] ∧ sizP (doP ps0 [o2]).2 ≤ 4096 := by decide
theorem aw_2 : (doP (doP ps0 [o2]).2 [o1,o2]).1 = 0 ∧ waitN (doP (doP ps0 [o2]).2 [o1,o2]).2 = 0 ∧ textP (doP (doP ps0 [o2]).2 [o1,o2]).2 = [97,98] ∧ dh (doP (doP ps0 [o2]).2 [o1,o2]).2 0 = 2 := by decide
theorem awake_pure : APure Tryz.prog 6 [] (.sc (.bool true)) := by
  have ht := fun B H h (p : IsP B H h ps0) (hh : h.p ≠ 0) => type_live B H h ps0 0 ⟨#[97,98]⟩ 0 p hh (by decide) (by intro i hi; simp [ps0] at hi)
  rw [aw_type] at ht
  obtain ⟨q1,q2,q3,q4⟩ := aw_1
  obtain ⟨r1,r2,r3,r4⟩ := aw_2
  have hd1 := fun B H h (p : IsP B H h ps0) => do_live B H h ps0 [o2] p (by decide) (by decide)
  rw [q1] at hd1
  generalize hs1 : (doP ps0 [o2]).2 = s1 at *
  have hd2 := fun B H h (p : IsP B H h s1) => do_live B H h s1 [o1,o2] p (by decide) q4
  rw [r1] at hd2
  generalize hs2 : (doP s1 [o1,o2]).2 = s2 at *
  have hw1 := fun B H h (p : IsP B H h s1) => wait_live B H h s1 p
  have hw2 := fun B H h (p : IsP B H h s2) => wait_live B H h s2 p
  have hx1 := fun B H h (p : IsP B H h s1) => ptext_live B H h s1 p
  have hx2 := fun B H h (p : IsP B H h s2) => ptext_live B H h s2 p
  have hc2 := fun B H h (p : IsP B H h s2) => count_live B H h s2 0 p
  rw [q2] at hw1
  rw [r2] at hw2
  rw [q3] at hx1
  rw [r3] at hx2
  rw [r4] at hc2
  have v1 : opsV [o1,o2] = .imm 0 (opC o1 ++ opC o2) 2 := rfl
  have v2 : opsV [o2] = .imm 0 (opC o2) 1 := rfl
  rw [v1] at ht hd2
  rw [v2] at hd1
  simp only [opC,o1,o2,cF,List.cons_append,List.nil_append] at ht hd1 hd2
  refine az (c := ⟨Tryz.prog,55,[],[],[]⟩) (rs := [ResultVar.tmp 0]) Tryz.mixed Tryz.func6 rfl rfl rfl (Nat.le_of_ble_eq_true rfl) (by kernel_rfl) fun H => ?_
  simp (disch := omega) only [↓aI,↓zP,aD,zD,aS,simprocAttr,Tryz.facts]
  refine CallK.i (pnew_live H) ?_
  rintro v H1 ⟨h,rfl,hh,p⟩
  simp (disch := omega) only [↓aI,↓zP,aD,zD,aS,simprocAttr,Tryz.facts]
  refine CallK.i (ht _ _ _ p hh) ?_
  rintro v H2 ⟨rfl,rfl⟩
  simp (disch := omega) only [↓aI,↓zP,aD,zD,aS,simprocAttr,Tryz.facts]
  refine CallK.i (hd1 _ _ _ p) ?_
  rintro v H3 ⟨rfl,p1⟩
  simp (disch := omega) only [↓aI,↓zP,aD,zD,aS,simprocAttr,Tryz.facts]
  refine CallK.i (hw1 _ _ _ p1) ?_
  rintro v H4 ⟨rfl,rfl⟩
  simp (disch := omega) only [↓aI,↓zP,aD,zD,aS,simprocAttr,Tryz.facts,zA]
  refine CallK.i (hx1 _ _ _ p1) ?_
  rintro v H4 ⟨rfl,rfl⟩
  simp (disch := omega) only [↓aI,↓zP,aD,zD,aS,simprocAttr,Tryz.facts,bO]
  refine CallK.i (hd2 _ _ _ p1) ?_
  rintro v H5 ⟨rfl,p2⟩
  simp (disch := omega) only [↓aI,↓zP,aD,zD,aS,simprocAttr,Tryz.facts]
  refine CallK.i (hx2 _ _ _ p2) ?_
  rintro v H4 ⟨rfl,rfl⟩
  simp (disch := omega) only [↓aI,↓zP,aD,zD,aS,simprocAttr,Tryz.facts,bO]
  refine CallK.i (hw2 _ _ _ p2) ?_
  rintro v H4 ⟨rfl,rfl⟩
  simp (disch := omega) only [↓aI,↓zP,aD,zD,aS,simprocAttr,Tryz.facts,zA]
  refine CallK.i (hc2 _ _ _ p2) ?_
  rintro v H4 ⟨rfl,rfl⟩
  simp (disch := omega) only [↓aI,↓zP,aD,zD,aS,simprocAttr,Tryz.facts,zA]
  exact p2.sub
end Go.Proofs.YtcgjlmopeblapaaGreat
end
