/-
  Several texts in one: each says what it proves.
  Conditions: none. Lemmas only.
-/
import Derived.Test.YtimonfakmadhpaaPapG4
import Derived.Lib.TrimUEq
import Derived.Test.YtimonfakmadhpaaPapG8
import Derived.Test.YtimonfakmadhpaaFugAe
import Derived.Test.YtimonfakmadhpaaFugG6
set_option linter.all false
section
set_option linter.unusedSimpArgs false
set_option linter.unusedVariables false
set_option maxRecDepth 8000
set_option maxHeartbeats 1000000
namespace Go.Proofs.Ytimonfakmadhpaa
open Go Go.Abs Go.Proofs Go.Fug
theorem ofU8 (n : Nat) (h : n < 256) : (UInt8.ofNat n).toNat = n := by rw [UInt8.toNat_ofNat']; omega
def u8enc (n : Nat) : List UInt8 :=
  if n < 128 then [UInt8.ofNat n]
  else if n < 2048 then [UInt8.ofNat (192 + n / 64),UInt8.ofNat (128 + n % 64)]
  else if n < 65536 then [UInt8.ofNat (224 + n / 4096),UInt8.ofNat (128 + n / 64 % 64),UInt8.ofNat (128 + n % 64)]
  else [UInt8.ofNat (240 + n / 262144),UInt8.ofNat (128 + n / 4096 % 64),UInt8.ofNat (128 + n / 64 % 64),UInt8.ofNat (128 + n % 64)]
theorem runeB_enc {r : Int} (h : letO r = true) : dQ r = u8enc r.toNat := by
  have h1 := letO_iff.1 h
  have hv : Utf8.valid r = true := by
    unfold Utf8.valid
    simp only [Bool.or_eq_true,Bool.and_eq_true,decide_eq_true_eq]
    omega
  unfold dQ Utf8.encode u8enc
  simp only [hv,if_true]
  by_cases c1 : r.toNat < 128
  · rw [if_pos c1,if_pos c1]
  · rw [if_neg c1,if_neg c1]
    by_cases c2 : r.toNat < 2048
    · rw [if_pos c2,if_pos c2]
    · rw [if_neg c2,if_neg c2]
      by_cases c3 : r.toNat < 65536
      · rw [if_pos c3,if_pos c3]
      · rw [if_neg c3,if_neg c3]
theorem u8enc_pos (n : Nat) : 1 ≤ (u8enc n).length := by
  unfold u8enc
  repeat' split
  all_goals simp
theorem dec_u8enc (n : Nat) (h : n ≤ 1114111 ∧ (n < 55296 ∨ 57343 < n)) (C : List UInt8) :
    Lib.decodeN (u8enc n ++ C).length ((u8enc n ++ C).getD 0 0).toNat ((u8enc n ++ C).getD 1 0).toNat ((u8enc n ++ C).getD 2 0).toNat ((u8enc n ++ C).getD 3 0).toNat = (n,(u8enc n).length) := by
  unfold u8enc
  by_cases c1 : n < 128
  · simp only [if_pos c1,List.cons_append,List.nil_append,List.getD_cons_zero,List.length_cons,List.length_nil]
    rw [ofU8 n (by omega)]
    unfold Lib.decodeN
    rw [if_pos c1]
  · by_cases c2 : n < 2048
    · simp only [if_neg c1,if_pos c2,List.cons_append,List.nil_append,List.getD_cons_zero,List.getD_cons_succ,List.length_cons,List.length_nil]
      rw [ofU8 (192 + n / 64) (by omega),ofU8 (128 + n % 64) (by omega)]
      unfold Lib.decodeN
      rw [if_neg (by omega),if_pos (by omega),if_pos (by omega)]
      refine Prod.ext ?_ rfl
      simp only
      omega
    · by_cases c3 : n < 65536
      · simp only [if_neg c1,if_neg c2,if_pos c3,List.cons_append,List.nil_append,List.getD_cons_zero,List.getD_cons_succ,List.length_cons,List.length_nil]
        rw [ofU8 (224 + n / 4096) (by omega),ofU8 (128 + n / 64 % 64) (by omega),ofU8 (128 + n % 64) (by omega)]
        unfold Lib.decodeN
        have e : (224 + n / 4096) % 16 * 4096 + (128 + n / 64 % 64) % 64 * 64 + (128 + n % 64) % 64 = n := by omega
        rw [if_neg (by omega),if_neg (by omega),if_pos (by omega),e,if_pos (by omega)]
      · simp only [if_neg c1,if_neg c2,if_neg c3,List.cons_append,List.nil_append,List.getD_cons_zero,List.getD_cons_succ,List.length_cons,List.length_nil]
        rw [ofU8 (240 + n / 262144) (by omega),ofU8 (128 + n / 4096 % 64) (by omega),ofU8 (128 + n / 64 % 64) (by omega),ofU8 (128 + n % 64) (by omega)]
        unfold Lib.decodeN
        have e : (240 + n / 262144) % 8 * 262144 + (128 + n / 4096 % 64) % 64 * 4096 + (128 + n / 64 % 64) % 64 * 64 + (128 + n % 64) % 64 = n := by omega
        rw [if_neg (by omega),if_neg (by omega),if_neg (by omega),if_pos (by omega),e,if_pos (by omega)]
theorem dec_rune {r : Int} (h : letO r = true) (A C : List UInt8) : Utf8.decode ⟨(A ++ (dQ r ++ C)).toArray⟩ A.length = (r.toNat,(dQ r).length) := by
  have h1 := letO_iff.1 h
  have h2 := dec_u8enc r.toNat ⟨by omega,by omega⟩ C
  rw [← runeB_enc h] at h2
  have hg : ∀ k,(A ++ (dQ r ++ C)).getD (A.length + k) 0 = (dQ r ++ C).getD k 0 := fun k => by
    simp only [List.getD_eq_getElem?_getD]
    rw [List.getElem?_append_right (by omega),Nat.add_sub_cancel_left]
  rw [Lib.decode_N]
  show Lib.decodeN ((A ++ (dQ r ++ C)).length - A.length) ((A ++ (dQ r ++ C)).getD A.length 0).toNat ((A ++ (dQ r ++ C)).getD (A.length + 1) 0).toNat ((A ++ (dQ r ++ C)).getD (A.length + 2) 0).toNat ((A ++ (dQ r ++ C)).getD (A.length + 3) 0).toNat = _
  have h0 := hg 0
  rw [Nat.add_zero] at h0
  rw [h0,hg,hg,hg,List.length_append,Nat.add_sub_cancel_left]
  exact h2
theorem runes_enc : ∀ (rs : List Int) (A : List UInt8) (n : Nat),(∀ r ∈ rs,letO r = true) → (rs.flatMap dQ).length ≤ n → cT ⟨(A ++ rs.flatMap dQ).toArray⟩ n A.length = rs
  | [],A,0,_,_ => rfl
  | [],A,n + 1,_,_ => by
    rw [cT,if_neg]
    show ¬ A.length < (A ++ _).toArray.size
    simp
  | r :: rs,A,n,h,hn => by
    have hr := h r (by simp)
    have hp : 1 ≤ (dQ r).length := by rw [runeB_enc hr]; exact u8enc_pos _
    rw [List.flatMap_cons,List.length_append] at hn
    obtain ⟨n,rfl⟩ : ∃ m,n = m + 1 := ⟨n - 1,by omega⟩
    have ih := runes_enc rs (A ++ dQ r) n (fun x hx => h x (by simp [hx])) (by omega)
    rw [List.append_assoc,List.length_append] at ih
    rw [List.flatMap_cons,cT,if_pos,dec_rune hr]
    · have h1 := letO_iff.1 hr
      rw [ih]
      simp only [List.cons.injEq,and_true]
      omega
    · show A.length < (A ++ (dQ r ++ _)).toArray.size
      simp
      omega
theorem runesS_enc (rs : List Int) (h : ∀ r ∈ rs,letO r = true) : dO ⟨(rs.flatMap dQ).toArray⟩ = rs := by
  have h1 := runes_enc rs [] (rs.flatMap dQ).length h (Nat.le_refl _)
  rw [List.nil_append] at h1
  exact h1
end Go.Proofs.Ytimonfakmadhpaa
end
section
set_option linter.unusedSimpArgs false
set_option linter.unusedVariables false
set_option maxRecDepth 8000
set_option maxHeartbeats 1000000
namespace Go.Proofs.Ytimonfakmadhpaa
open Go Go.Abs Go.Proofs Go.Fug
def typeIns (author : Int) : Int → EId → Bool → List Int → List Ins
  | _,_,_,[] => []
  | c,a,r,x :: l => ⟨(author,c + 1),a,r,x⟩ :: typeIns author (c + 1) (author,c + 1) true l
abbrev opI (i : Ins) : Opn := ⟨1,i,(0,0),cF⟩
theorem typeOps_ins (author : Int) : ∀ (l : List Int) (c : Int) (a : EId) (r : Bool),eW author c a r l = (typeIns author c a r l).map opI
  | [],c,a,r => rfl
  | x :: l,c,a,r => by rw [eW,typeIns,List.map_cons,typeOps_ins author l]
theorem typeIns_len (author : Int) : ∀ (l : List Int) (c : Int) (a : EId) (r : Bool),(typeIns author c a r l).length = l.length
  | [],c,a,r => rfl
  | x :: l,c,a,r => by rw [typeIns,List.length_cons,typeIns_len author l,List.length_cons]
theorem typeIns_id (author : Int) : ∀ (l : List Int) (c : Int) (a : EId) (r : Bool),∀ i ∈ typeIns author c a r l,i.id.1 = author ∧ c < i.id.2
  | [],c,a,r,i,h => by simp [typeIns] at h
  | x :: l,c,a,r,i,h => by
    rw [typeIns] at h
    rcases List.mem_cons.1 h with rfl | h
    · exact ⟨rfl,by simp only; omega⟩
    · have := typeIns_id author l _ _ _ i h
      exact ⟨this.1,by omega⟩
def runesN (N : List Nd) : List Int := (liv N).map (·.rune)
theorem type_chain {author : Int} {G : List EId} : ∀ (l : List Int) (L : List Ins) (c : Int) (a : EId) (r : Bool) (k : Nat) (b : EId), Fug.Good L → (∀ i ∈ typeIns author c a r l, okI i = true ∧ i.id ∉ L.map (·.id) ∧ i.id ∉ G) →
    ∀ (hk : k ≤ (liv (bF L G)).length),(k = 0 → b = bL) → (∀ h : 0 < k,b = ((liv (bF L G))[k - 1]'(by omega)).id) → ((kids L b true = [] ∧ a = b ∧ r = true) ∨ (kids L b true ≠ [] ∧ a = planZ L G b ∧ r = false)) → (a = bL ∨ a ∈ L.map (·.id)) →
    Fug.Good (L ++ typeIns author c a r l) ∧ runesN (bF (L ++ typeIns author c a r l) G) = (runesN (bF L G)).take k ++ (l ++ (runesN (bF L G)).drop k)
  | [],L,c,a,r,k,b,g,_,hk,h0,h1,hp,ha => by
    rw [typeIns,List.append_nil,List.nil_append,List.take_append_drop]
    exact ⟨g,rfl⟩
  | x :: l,L,c,a,r,k,b,g,hi,hk,h0,h1,hp,ha => by
    rw [typeIns] at hi ⊢
    obtain ⟨ho,hn,hG⟩ := hi ⟨(author,c + 1),a,r,x⟩ (by simp)
    have g' := g.snoc ho hn ha
    obtain ⟨A,B,hN,hN',hA⟩ := plan_ins (G := G) (i := ⟨(author,c + 1),a,r,x⟩) g g' hk h0 h1 hp
    have hnd := ndOf_mem g'.nd G (i := ⟨(author,c + 1),a,r,x⟩) (by simp)
    rw [hnd,decide_eq_false hG] at hN'
    have hl' : liv (bF (L ++ [⟨(author,c + 1),a,r,x⟩]) G) = liv A ++ (⟨(author,c + 1),x,false⟩ :: liv B) := by
      rw [hN',liv_append]
      rfl
    have hl : liv (bF L G) = liv A ++ liv B := by rw [hN,liv_append]
    have hrt := okI_ne ho
    have hkn : kids (L ++ [⟨(author,c + 1),a,r,x⟩]) (author,c + 1) true = [] := by
      have e9 : a ≠ (author,c + 1) := fun e1 => by
        rcases ha with h | h
        · exact hrt (e1.symm.trans h)
        · rw [e1] at h; exact hn h
      rw [cP,if_neg (fun e => e9 e.1)]
      exact no_kids' g hrt hn true
    obtain ⟨h2, h3⟩ := type_chain (author := author) l (L ++ [⟨(author, c + 1), a, r, x⟩]) (c + 1) (author, c + 1) true (k + 1) (author, c + 1) g' (fun i h => by
        have h1 := hi i (List.mem_cons_of_mem _ h)
        have h2 := typeIns_id author l _ _ _ i h
        refine ⟨h1.1,fun e => ?_,h1.2.2⟩
        rw [List.map_append,List.mem_append] at e
        rcases e with e | e
        · exact h1.2.1 e
        · simp only [List.map_cons,List.map_nil,List.mem_singleton] at e
          have : i.id.2 = c + 1 := by rw [e]
          omega)
      (by rw [hl',List.length_append,List.length_cons]; omega) (fun h => by omega) (fun _ => by
        simp only [hl',Nat.add_sub_cancel]
        rw [List.getElem_append_right (by omega)]
        simp only [hA,Nat.sub_self,List.getElem_cons_zero]) (.inl ⟨hkn,rfl,rfl⟩) (.inr (by simp))
    rw [List.append_assoc] at h2 h3
    refine ⟨h2,h3.trans ?_⟩
    have e1 : runesN (bF (L ++ [⟨(author,c + 1),a,r,x⟩]) G) = (liv A).map (·.rune) ++ (x :: (liv B).map (·.rune)) := by
      unfold runesN; rw [hl',List.map_append]; rfl
    have e2 : runesN (bF L G) = (liv A).map (·.rune) ++ (liv B).map (·.rune) := by
      unfold runesN; rw [hl,List.map_append]
    rw [e1,e2]
    have hA' : ((liv A).map (·.rune)).length = k := by rw [List.length_map]; exact hA
    rw [List.take_left' hA',List.drop_left' hA',show (liv A).map (·.rune) ++ (x :: (liv B).map (·.rune)) = ((liv A).map (·.rune) ++ [x]) ++ (liv B).map (·.rune) by simp,
      List.take_left' (by simp [hA]),List.drop_left' (by simp [hA])]
    simp
theorem good_pre {L M : List Ins} (g : Fug.Good (L ++ M)) : Fug.Good L := by
  refine ⟨fun i hi => g.ok i (by simp [hi]),?_,fun j h => ?_⟩
  · have := g.nd
    rw [List.map_append,List.nodup_append] at this
    exact this.1
  · rcases g.up j (by simp; omega) with h1 | ⟨k,hk,h1⟩
    · rw [List.getElem_append_left h] at h1
      exact .inl h1
    · rw [List.getElem_append_left h,List.getElem_append_left (by omega)] at h1
      exact .inr ⟨k,hk,h1⟩
theorem add_all {D G : List EId} : ∀ (W L R : List Ins),Fug.Good (L ++ W) → (L ++ W).length < 4096 → (∀ i ∈ W,i.id ∉ D) → W.foldl (addD D) (L,G,R) = (L ++ W,G,R)
  | [],L,R,_,_,_ => by rw [List.append_nil]; rfl
  | i :: W,L,R,g,hl,hD => by
    have e : L ++ i :: W = (L ++ [i]) ++ W := by simp
    rw [e] at g hl ⊢
    have g1 := good_pre g
    have h1 : dR L i = (L ++ [i],0) := by
      rcases add_cases L i (g1.ok i (by simp)) (by simp at hl; omega) with h | ⟨-,h | h⟩
      · exact h.1
      · exact absurd h g1.new_id
      · rcases g1.new_par with h2 | h2
        · exact absurd h2 h.1
        · exact absurd h2 h.2
    rw [List.foldl_cons]
    have h2 : addD D (L,G,R) i = (L ++ [i],G,R) := by
      unfold addD
      simp only [h1,if_true,if_neg (hD i (by simp))]
    rw [h2]
    exact add_all W (L ++ [i]) R g hl fun j hj => hD j (by simp [hj])
theorem settle_all {D G : List EId} {W L : List Ins} (g : Fug.Good (L ++ W)) (hl : (L ++ W).length < 4096) (hD : ∀ i ∈ W,i.id ∉ D) : dG D (W.length + 1) W L G = (L ++ W,G,[]) := by
  rw [dG]
  unfold rndP
  rw [add_all W L [] g hl hD]
  simp only [List.length_nil]
  cases W with
  | nil => rw [if_pos (show 0 = ([] : List Ins).length from rfl)]
  | cons i W =>
    rw [if_neg (by simp),List.length_cons,dG]
    unfold rndP
    simp
theorem takes_ins : ∀ (l : List Ins) (s : PS),(l.map opI).foldl dK s = { s with I := s.I ++ l,W := s.W ++ l }
  | [],s => by simp
  | i :: l,s => by
    rw [List.map_cons,List.foldl_cons,takes_ins l]
    simp [dK]
theorem fresh_all (s : PS) : ∀ (l F : List Opn),(∀ o ∈ l,cf s o = false) → ((F ++ l).map cM).Nodup → l.foldl (dZ s) F = F ++ l
  | [],F,_,_ => by simp
  | o :: l,F,hk,hn => by
    have e : F ++ o :: l = (F ++ [o]) ++ l := by simp
    rw [e] at hn ⊢
    have h1 : dZ s F o = F ++ [o] := by
      unfold dZ
      rw [if_neg]
      rintro (h | h)
      · rw [List.map_append,List.nodup_append,List.map_append,List.nodup_append] at hn
        exact hn.1.2.2 _ h (cM o) (by simp) rfl
      · rw [hk o (by simp)] at h; cases h
    rw [List.foldl_cons,h1]
    exact fresh_all s l _ (fun q hq => hk q (by simp [hq])) hn
theorem countP_ge {s : PS} {i : Ins} (hi : i ∈ s.I) : i.id.2 ≤ dh s i.id.1 := by
  have key : ∀ (I : List Ins) (n : Int),n ≤ I.foldl (cntF i.id.1) n ∧ (i ∈ I → i.id.2 ≤ I.foldl (cntF i.id.1) n) := by
    intro I
    induction I with
    | nil => intro n; exact ⟨Int.le_refl _,fun h => by simp at h⟩
    | cons j I ih =>
      intro n
      rw [List.foldl_cons]
      have h1 := (ih (cntF i.id.1 n j)).1
      have h2 : n ≤ cntF i.id.1 n j := by unfold cntF; split <;> omega
      refine ⟨by omega,fun h => ?_⟩
      rcases List.mem_cons.1 h with rfl | h
      · have h3 : i.id.2 ≤ cntF i.id.1 n i := by unfold cntF; rw [if_pos rfl]; omega
        omega
      · exact (ih _).2 h
  exact (key s.I 0).2 hi
theorem typed_law {s : PS} (t : InvP s) (g : Fug.Good s.L) (gs : ∀ x ∈ s.G, x ∈ s.L.map (·.id)) (gn : s.G.Nodup) (nd : (s.I.map (·.id)).Nodup) (hz : sizP s ≤ 1000) (hw : waitN s = 0) {at_ : Int} {txt : ByteArray} {author : Int}
    (he : (typeP s at_ txt author).2 = 0) (hd : (doP s (typeP s at_ txt author).1).1 = 0) :
    ∃ k : Nat,at_ = (k : Int) ∧ k ≤ (runesN (bF s.L s.G)).length ∧ runesN (bF (doP s (typeP s at_ txt author).1).2.L (doP s (typeP s at_ txt author).1).2.G) = (runesN (bF s.L s.G)).take k ++ (dO txt ++ (runesN (bF s.L s.G)).drop k) := by
  have hW : s.W = [] := by
    unfold waitN at hw
    exact List.length_eq_zero_iff.1 (by omega)
  have hDL : ∀ x ∈ s.D,x ∈ s.L.map (·.id) := fun x hx => by
    unfold waitN at hw
    have h1 : (s.D.filter fun x => !decide (x ∈ s.L.map (·.id))).length = 0 := by omega
    have h2 := List.filter_eq_nil_iff.1 (List.length_eq_zero_iff.1 h1) x hx
    simpa using h2
  have hLI : ∀ x ∈ s.L.map (·.id),x ∈ s.I.map (·.id) := fun x hx => by
    obtain ⟨i,hi,rfl⟩ := List.mem_map.1 hx
    exact List.mem_map.2 ⟨i,t.mid.pm.mem_iff.1 (by simp [hi]),rfl⟩
  have hlive : (live (bF s.L s.G)).length = s.L.length - s.G.length := live_len g gs gn
  have hll : (liv (bF s.L s.G)).length = s.L.length - s.G.length := hlive
  unfold typeP at he hd ⊢
  split at he
  · cases he
  · rename_i c1
    rw [if_neg c1] at hd ⊢
    split at he
    · cases he
    · rename_i c2
      rw [if_neg c2] at hd ⊢
      split at he
      · cases he
      · rename_i c3
        rw [if_neg c3] at hd ⊢
        split at he
        · cases he
        · rename_i c4
          rw [if_neg c4] at hd ⊢
          simp only at hd ⊢
          obtain ⟨k,rfl⟩ : ∃ k : Nat,at_ = (k : Int) := ⟨at_.toNat,by omega⟩
          have hk : k ≤ (live (bF s.L s.G)).length := by rw [hlive]; omega
          obtain ⟨ha,hka⟩ := planA_ok (G := s.G) g hk
          have hpl : ∃ p r,planL s.L s.G (k : Int) = (p,r,0) ∧ ((kids s.L (eL (bF s.L s.G) k) true = [] ∧ p = eL (bF s.L s.G) k ∧ r = true) ∨ (kids s.L (eL (bF s.L s.G) k) true ≠ [] ∧ p = planZ s.L s.G (eL (bF s.L s.G) k) ∧ r = false)) := by
            unfold planL
            rw [if_pos (by rw [hlive]; omega),Int.toNat_natCast]
            by_cases e : kids s.L (eL (bF s.L s.G) k) true = []
            · rw [if_pos e]; exact ⟨_,_,rfl,.inl ⟨e,rfl,rfl⟩⟩
            · rw [if_neg e]; exact ⟨_,_,rfl,.inr ⟨e,rfl,rfl⟩⟩
          obtain ⟨p,r,hpl,hcase⟩ := hpl
          rw [hpl] at hd ⊢
          simp only at hd ⊢
          rw [typeOps_ins] at hd ⊢
          have hid := typeIns_id author (dO txt) (dh s author) p r
          have hlen := typeIns_len author (dO txt) (dh s author) p r
          have hfresh : ∀ i ∈ typeIns author (dh s author) p r (dO txt),i.id ∉ s.I.map (·.id) := fun i hi e => by
            obtain ⟨j,hj,e⟩ := List.mem_map.1 e
            obtain ⟨h1,h2⟩ := hid i hi
            have h3 := countP_ge hj
            rw [e,h1] at h3
            omega
          have hall : ((typeIns author (dh s author) p r (dO txt)).map opI).all opR = true := by
            by_cases e : ((typeIns author (dh s author) p r (dO txt)).map opI).all opR = false
            · unfold doP at hd; rw [if_pos e] at hd; cases hd
            · simpa using e
          have hins : ∀ i ∈ typeIns author (dh s author) p r (dO txt),insO i = true := fun i hi => by
            have h1 := List.all_eq_true.1 hall (opI i) (List.mem_map.2 ⟨i,hi,rfl⟩)
            unfold opR at h1
            rw [if_pos rfl,Bool.and_eq_true] at h1
            exact h1.1
          have hpar : p = bL ∨ p ∈ s.L.map (·.id) := by
            rcases hcase with ⟨h1,rfl,-⟩ | ⟨h1,h2,-⟩
            · exact ha
            · right
              obtain ⟨q,hq,-,hz⟩ := plan_pos (G := s.G) g ha h1
              rw [h2,← hz hq]
              exact (mem_nodes g s.G).1 (List.mem_map.2 ⟨_,List.getElem_mem hq,rfl⟩)
          obtain ⟨h1,h2⟩ := type_chain (author := author) (G := s.G) (dO txt) s.L (dh s author) p r k (eL (bF s.L s.G) k) g
            (fun i hi => ⟨insO_ok (hins i hi),fun e => hfresh i hi (hLI _ e),fun e => hfresh i hi (hLI _ (gs _ e))⟩) hk (fun e => by subst e; rfl) hka hcase hpar
          refine ⟨k,rfl,by unfold runesN; rw [List.length_map]; exact hk,?_⟩
          rw [← h2]
          generalize typeIns author (dh s author) p r (dO txt) = T at *
          have hfr : freshP s (T.map opI) = T.map opI := by
            unfold freshP
            rw [fresh_all s (T.map opI) [] ?_ ?_,List.nil_append]
            · intro o ho
              obtain ⟨i,hi,rfl⟩ := List.mem_map.1 ho
              unfold cf
              rw [if_pos rfl]
              simpa using hfresh i hi
            · rw [List.nil_append,List.map_map]
              have h3 := h1.nd
              rw [List.map_append,List.nodup_append] at h3
              refine List.Pairwise.map _ (fun a b hab => ?_) (List.Pairwise.of_map (·.id) (fun a b h e => h e) h3.2.1)
              exact fun e => hab (by
                have e2 : ((1 : Int),a.id.1,a.id.2) = (1,b.id.1,b.id.2) := e
                simp only [Prod.mk.injEq,true_and] at e2
                exact Prod.ext e2.1 e2.2)
          unfold doP
          rw [if_neg (by rw [hall]; simp),hfr]
          unfold doP at hd
          rw [if_neg (by rw [hall]; simp),hfr] at hd
          split at hd
          · cases hd
          · rename_i hsz
            rw [if_neg hsz,takes_ins]
            unfold settleP
            simp only [hW,List.nil_append]
            rw [settle_all h1 ?_ ?_]
            · rw [List.length_append,hlen]
              have := t.mid.pm.length_eq
              rw [List.length_append] at this
              unfold sizP at hz
              omega
            · exact fun i hi e => hfresh i hi (hLI _ (hDL _ e))
end Go.Proofs.Ytimonfakmadhpaa
end
