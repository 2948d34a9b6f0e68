/-
  The plain law of the bytes of operations: what is put is read as it was, and what is read has, put again, the same bytes.
  Conditions: none. Lemmas only.
-/
import Derived.Test.YtimonfakmadhpaaPapG6
import Derived.Test.YtimonfakmadhpaaPapG5
set_option linter.all false
set_option linter.unusedSimpArgs false
set_option linter.unusedVariables false
set_option maxRecDepth 8000
set_option maxHeartbeats 1000000
namespace Go.Proofs.Ytimonfakmadhpaa
open Go Go.Abs Go.Proofs Go.Fug
theorem ofN8 (n : Nat) (h : n < 256) : (UInt8.ofNat n).toNat = n := by rw [UInt8.toNat_ofNat']; omega
theorem vr_last (f k acc n : Nat) (r : List UInt8) (hn : n < 128) (h0 : 0 < k → 0 < n) (h : acc + n * 128 ^ k ≤ 1099511627776) : vr (f + 1) k acc (UInt8.ofNat n :: r) = (acc + n * 128 ^ k,k + 1,0) := by
  have e := ofN8 n (by omega)
  rw [vr,e,if_neg (by omega),if_neg (by omega),Nat.mod_eq_of_lt hn,if_neg (by omega)]
theorem vr_dig : ∀ (g f k acc n : Nat) (r : List UInt8),1 ≤ f → f ≤ g + 1 → n < 128 ^ f → (0 < k → 0 < n) → acc + n * 128 ^ k ≤ 1099511627776 → vr f k acc (digN g n ++ r) = (acc + n * 128 ^ k,k + (digN g n).length,0) := by
  intro g
  induction g with
  | zero =>
    intro f k acc n r h1 h2 h3 h4 h5
    obtain rfl : f = 1 := by omega
    exact vr_last 0 k acc n r (by simpa using h3) h4 h5
  | succ g ih =>
    intro f k acc n r h1 h2 h3 h4 h5
    obtain ⟨f,rfl⟩ : ∃ m,f = m + 1 := ⟨f - 1,by omega⟩
    unfold digN
    split
    · rename_i hn
      exact vr_last f k acc n r hn h4 h5
    · rename_i hn
      have e := ofN8 (128 + n % 128) (by omega)
      have hf : 1 ≤ f := by
        rcases Nat.eq_zero_or_pos f with rfl | h
        · simp at h3; omega
        · exact h
      have hp : n / 128 < 128 ^ f := by
        rw [Nat.pow_succ] at h3
        exact Nat.div_lt_of_lt_mul (by rw [Nat.mul_comm]; exact h3)
      have hs : acc + (128 + n % 128) % 128 * 128 ^ k + n / 128 * 128 ^ (k + 1) = acc + n * 128 ^ k := by
        rw [Nat.pow_succ,show (128 + n % 128) % 128 = n % 128 by omega,Nat.add_assoc,show n / 128 * (128 ^ k * 128) = 128 * (n / 128) * 128 ^ k by rw [Nat.mul_comm (128 ^ k) 128,← Nat.mul_assoc,Nat.mul_comm (n / 128) 128],← Nat.add_mul,Nat.mod_add_div]
      have h := ih f (k + 1) (acc + (128 + n % 128) % 128 * 128 ^ k) (n / 128) r hf (by omega) hp (fun _ => by omega) (by rw [hs]; exact h5)
      rw [List.cons_append,vr,e,if_pos (by omega),h,hs,List.length_cons,Nat.add_assoc,Nat.add_comm 1]
theorem vread_vnum {z : Int} (h0 : 0 ≤ z) (h1 : z ≤ 1099511627776) (r : List UInt8) : vread (vnum z ++ r) = (z.toNat,(vnum z).length,0) := by
  have hz := clampN_of h0 h1
  unfold vread vnum
  rw [vr_dig 6 6 0 0 (clampN z) r (by omega) (by omega) (by have := clampN_le z; omega) (by omega) (by have := clampN_le z; omega)]
  simp only [Nat.pow_zero,Nat.mul_one,Nat.zero_add]
  rw [show z.toNat = clampN z by omega]
theorem dig_vr : ∀ (f k acc : Nat) (l : List UInt8),(vr f k acc l).2.2 = 0 → ∃ n m,vr f k acc l = (acc + n * 128 ^ k,k + m,0) ∧ m ≤ l.length ∧ (0 < k → 0 < n) ∧ ∀ g,f ≤ g + 1 → digN g n = l.take m
  | 0,k,acc,l,h => by simp [vr] at h
  | f + 1,k,acc,[],h => by simp [vr] at h
  | f + 1,k,acc,c :: l,h => by
    have hc := c.toNat_lt
    rw [vr] at h ⊢
    split
    · rename_i h1
      rw [if_pos h1] at h
      obtain ⟨n,m,e1,e2,e3,e4⟩ := dig_vr f (k + 1) _ l h
      refine ⟨c.toNat % 128 + 128 * n,m + 1,?_,by rw [List.length_cons]; omega,fun _ => by have := e3 (by omega); omega,fun g hg => ?_⟩
      · rw [e1,Nat.pow_succ]
        refine Prod.ext ?_ (Prod.ext ?_ rfl)
        · simp only
          rw [Nat.add_mul,Nat.add_assoc,Nat.mul_comm (128 ^ k) 128,← Nat.mul_assoc,Nat.mul_comm n 128]
        · simp only; omega
      · have hn := e3 (by omega)
        obtain ⟨g,rfl⟩ : ∃ q,g = q + 1 := by
          rcases Nat.eq_zero_or_pos f with rfl | hf
          · simp [vr] at h
          · exact ⟨g - 1,by omega⟩
        rw [digN,if_neg (by omega),List.take_succ_cons,← e4 g (by omega)]
        rw [show (c.toNat % 128 + 128 * n) / 128 = n by omega,show 128 + (c.toNat % 128 + 128 * n) % 128 = c.toNat by omega,UInt8.ofNat_toNat]
    · rename_i h1
      rw [if_neg h1] at h
      split
      · rename_i h2
        rw [if_pos h2] at h; cases h
      · rename_i h2
        rw [if_neg h2] at h
        split
        · rename_i h3
          rw [if_pos h3] at h; cases h
        · refine ⟨c.toNat,1,by rw [Nat.mod_eq_of_lt (by omega)],by rw [List.length_cons]; omega,fun hk => ?_,fun g hg => ?_⟩
          · rcases Nat.eq_zero_or_pos c.toNat with e | e
            · exact absurd ⟨hk,e⟩ h2
            · exact e
          · cases g with
            | zero => simp [digN]
            | succ g => rw [digN,if_pos (by omega)]; simp
theorem vnum_vread {l : List UInt8} (h : (vread l).2.2 = 0) : l = vnum ((vread l).1 : Int) ++ l.drop (vread l).2.1 := by
  have hle := (vr_le 6 0 0 l h).1
  obtain ⟨n,m,e1,e2,-,e3⟩ := dig_vr 6 0 0 l h
  rw [show vr 6 0 0 l = vread l from rfl] at e1 hle
  rw [e1] at hle ⊢
  simp only [Nat.pow_zero,Nat.mul_one,Nat.zero_add] at hle ⊢
  unfold vnum
  rw [show clampN (n : Int) = n by unfold clampN; omega,e3 6 (by omega),List.take_append_drop]
theorem rdNum_of {z lo hi : Int} (h : lo ≤ z ∧ z ≤ hi) (h0 : 0 ≤ z ∧ z ≤ 1099511627776) (r : List UInt8) : rdNum (vnum z ++ r,0) lo hi = ((r,0),z) := by
  unfold rdNum
  simp only [vread_vnum h0.1 h0.2,if_true]
  rw [show ((z.toNat : Nat) : Int) = z by omega,if_neg (by omega),List.drop_left]
theorem rdNum_to {s : RS} {lo hi : Int} (h : (rdNum s lo hi).1.2 = 0) : s.2 = 0 ∧ s.1 = vnum (rdNum s lo hi).2 ++ (rdNum s lo hi).1.1 := by
  unfold rdNum at h ⊢
  split
  · rename_i h1
    rw [if_pos h1] at h
    split
    · rename_i h2
      rw [if_pos h2] at h
      split
      · rename_i h3
        rw [if_pos h3] at h; cases h
      · exact ⟨h1,vnum_vread h2⟩
    · rename_i h2
      rw [if_neg h2] at h
      exact absurd h h2
  · rename_i h1
    rw [if_neg h1] at h
    exact absurd h h1
theorem rdID_of {x : EId} (h : 0 ≤ x.1 ∧ x.1 ≤ 4 ∧ 0 ≤ x.2 ∧ x.2 ≤ 1099511627776) (r : List UInt8) : rdID (vid x ++ r,0) = ((r,0),x) := by
  unfold rdID vid
  rw [List.append_assoc,rdNum_of ⟨by omega,by omega⟩ ⟨by omega,by omega⟩]
  simp only
  rw [rdNum_of ⟨by omega,by omega⟩ ⟨by omega,by omega⟩]
theorem rdID_to {s : RS} (h : (rdID s).1.2 = 0) : s.2 = 0 ∧ s.1 = vid (rdID s).2 ++ (rdID s).1.1 := by
  unfold rdID at h ⊢
  obtain ⟨h1,h2⟩ := rdNum_to h
  obtain ⟨h3,h4⟩ := rdNum_to h1
  refine ⟨h3,?_⟩
  rw [h4]
  simp only [vid]
  rw [List.append_assoc,← h2]
theorem rdFl_of (y : Bool) (r : List UInt8) : rdFl (vfl y ++ r,0) = ((r,0),y) := by
  unfold rdFl vfl
  cases y
  · rw [if_neg (by decide),rdNum_of (by omega) (by omega)]; rfl
  · rw [if_pos rfl,rdNum_of (by omega) (by omega)]; rfl
theorem rdFl_to {s : RS} (h : (rdFl s).1.2 = 0) : s.2 = 0 ∧ s.1 = vfl (rdFl s).2 ++ (rdFl s).1.1 := by
  unfold rdFl at h ⊢
  obtain ⟨h1,h2⟩ := rdNum_to h
  refine ⟨h1,?_⟩
  have hr := rdNum_rng s 0 1
  simp only [vfl]
  rw [show (if ((rdNum s 0 1).2 == 1) = true then (1 : Int) else 0) = (rdNum s 0 1).2 by
    by_cases e : (rdNum s 0 1).2 = 1
    · rw [e]; rfl
    · rw [if_neg (by rwa [beq_iff_eq])]; omega]
  exact h2
theorem rdAn_of {x : EId} (h : 0 ≤ x.1 ∧ x.1 ≤ 4 ∧ 0 ≤ x.2 ∧ x.2 ≤ 1099511627776) (y : Bool) (r : List UInt8) : rdAn (van x y ++ r,0) = ((r,0),(x,y)) := by
  unfold rdAn van
  rw [List.append_assoc,rdID_of h]
  simp only
  rw [rdFl_of]
theorem rdAn_to {s : RS} (h : (rdAn s).1.2 = 0) : s.2 = 0 ∧ s.1 = van (rdAn s).2.1 (rdAn s).2.2 ++ (rdAn s).1.1 := by
  unfold rdAn at h ⊢
  obtain ⟨h1,h2⟩ := rdFl_to h
  obtain ⟨h3,h4⟩ := rdID_to h1
  refine ⟨h3,?_⟩
  rw [h4]
  simp only [van]
  rw [List.append_assoc,← h2]
theorem rdIns_of {i : Ins} (h1 : 0 ≤ i.id.1 ∧ i.id.1 ≤ 4 ∧ 0 ≤ i.id.2 ∧ i.id.2 ≤ 1099511627776) (h2 : 0 ≤ i.par.1 ∧ i.par.1 ≤ 4 ∧ 0 ≤ i.par.2 ∧ i.par.2 ≤ 1099511627776) (h3 : 0 ≤ i.rune ∧ i.rune ≤ 1114111) (r : List UInt8) :
    rdIns (vid i.id ++ (vid i.par ++ (vfl i.right ++ (vnum i.rune ++ r))),0) = ((r,0),i) := by
  unfold rdIns
  rw [rdID_of h1]
  simp only
  rw [rdID_of h2]
  simp only
  rw [rdFl_of]
  simp only
  rw [rdNum_of h3 ⟨by omega,by omega⟩]
theorem rdIns_to {s : RS} (h : (rdIns s).1.2 = 0) : s.2 = 0 ∧ s.1 = vid (rdIns s).2.id ++ (vid (rdIns s).2.par ++ (vfl (rdIns s).2.right ++ (vnum (rdIns s).2.rune ++ (rdIns s).1.1))) ∧ 0 ≤ (rdIns s).2.rune ∧ (rdIns s).2.rune ≤ 1114111 := by
  unfold rdIns at h ⊢
  have hr := rdNum_rng (rdFl (rdID (rdID s).1).1).1 0 1114111
  obtain ⟨h1,h2⟩ := rdNum_to h
  obtain ⟨h3,h4⟩ := rdFl_to h1
  obtain ⟨h5,h6⟩ := rdID_to h3
  obtain ⟨h7,h8⟩ := rdID_to h5
  refine ⟨h7,?_,by simp only; omega,by simp only; omega⟩
  simp only
  rw [← h2,← h4,← h6,← h8]
theorem okA_rng {x : EId} (h : okA x = true) : 0 ≤ x.1 ∧ x.1 ≤ 4 ∧ 0 ≤ x.2 ∧ x.2 ≤ 1099511627776 := by
  unfold okA at h
  simp only [Bool.and_eq_true,Bool.or_eq_true,decide_eq_true_eq] at h
  omega
theorem rdMar_of {m : Mk} (h : cQ m = true) (r : List UInt8) : rdMar (vMar m ++ r,0) = ((r,0),m) := by
  unfold cQ at h
  simp only [Bool.and_eq_true,decide_eq_true_eq] at h
  obtain ⟨⟨h,ha⟩,hb⟩ := h
  unfold rdMar vMar
  simp only [List.append_assoc]
  rw [rdNum_of ⟨by omega,by omega⟩ ⟨by omega,by omega⟩]
  simp only
  rw [rdNum_of ⟨by omega,by omega⟩ ⟨by omega,by omega⟩]
  simp only
  rw [rdAn_of (okA_rng ha)]
  simp only
  rw [rdAn_of (okA_rng hb)]
  simp only
  rw [rdNum_of ⟨by omega,by omega⟩ ⟨by omega,by omega⟩]
  simp only
  rw [rdNum_of ⟨by omega,by omega⟩ ⟨by omega,by omega⟩]
theorem rdMar_to {s : RS} (h : (rdMar s).1.2 = 0) : s.2 = 0 ∧ s.1 = vMar (rdMar s).2 ++ (rdMar s).1.1 := by
  unfold rdMar at h ⊢
  simp only at h ⊢
  obtain ⟨h1,h2⟩ := rdNum_to h
  obtain ⟨h3,h4⟩ := rdNum_to h1
  obtain ⟨h5,h6⟩ := rdAn_to h3
  obtain ⟨h7,h8⟩ := rdAn_to h5
  obtain ⟨h9,h10⟩ := rdNum_to h7
  obtain ⟨h11,h12⟩ := rdNum_to h9
  refine ⟨h11,?_⟩
  unfold vMar
  simp only [List.append_assoc]
  rw [← h2,← h4,← h6,← h8,← h10,← h12]
theorem rdOp_to {s : RS} (h : (rdOp s).1.2 = 0) : s.2 = 0 ∧ s.1 = vop (rdOp s).2 ++ (rdOp s).1.1 := by
  unfold rdOp at h ⊢
  have hfix : fixOp (rdBody (rdNum s 1 3).1 (rdNum s 1 3).2) = rdBody (rdNum s 1 3).1 (rdNum s 1 3).2 := by
    unfold fixOp at h ⊢
    split
    · rename_i h1
      rw [if_pos h1] at h
      simp only at h
      split at h
      · cases h
      · rename_i h2; exact absurd h h2
    · rfl
  rw [hfix] at h ⊢
  clear hfix
  unfold rdBody at h ⊢
  unfold vop
  split
  · rename_i h1
    rw [if_pos h1] at h
    obtain ⟨h2,h3,h4⟩ := rdIns_to h
    obtain ⟨h5,h6⟩ := rdNum_to h2
    refine ⟨h5,?_⟩
    simp only [h1,if_true,vIns]
    rw [wrapI ⟨by omega,by omega⟩]
    simp only [List.append_assoc]
    rw [h1] at h6
    rw [← h3]; exact h6
  · rename_i h1
    rw [if_neg h1] at h
    split
    · rename_i h2
      rw [if_pos h2] at h
      obtain ⟨h3,h4⟩ := rdID_to h
      obtain ⟨h5,h6⟩ := rdNum_to h3
      refine ⟨h5,?_⟩
      simp only [if_neg h1,if_pos h2,List.append_assoc]
      rw [← h4]; exact h6
    · rename_i h2
      rw [if_neg h2] at h
      split
      · rename_i h3
        rw [if_pos h3] at h
        obtain ⟨h4,h5⟩ := rdMar_to h
        obtain ⟨h6,h7⟩ := rdNum_to h4
        refine ⟨h6,?_⟩
        simp only [if_neg h1,if_neg h2,if_pos h3,List.append_assoc]
        rw [← h5]; exact h7
      · rename_i h3
        rw [if_neg h3] at h
        obtain ⟨h6,h7⟩ := rdNum_to h
        refine ⟨h6,?_⟩
        simp only [if_neg h1,if_neg h2,if_neg h3,List.append_nil]
        exact h7
theorem elO_rng {x : EId} (h : elO x = true) : 0 ≤ x.1 ∧ x.1 ≤ 4 ∧ 0 ≤ x.2 ∧ x.2 ≤ 1099511627776 := by
  unfold elO at h
  simp only [Bool.and_eq_true,decide_eq_true_eq] at h
  omega
theorem rdOp_of {o : Opn} (h : opR o = true) (r : List UInt8) : rdOp (vop o ++ r,0) = ((r,0),o) := by
  have hk : o.kind = 1 ∨ o.kind = 2 ∨ o.kind = 3 := by
    unfold opR at h
    split at h
    · exact .inl ‹_›
    · split at h
      · exact .inr (.inl ‹_›)
      · split at h
        · exact .inr (.inr ‹_›)
        · cases h
  have hfix : ∀ b : RS × Opn,b.2 = o → fixOp b = b := fun b e => by
    unfold fixOp
    rw [e,h,if_neg (by decide)]
  unfold rdOp vop
  rw [List.append_assoc,rdNum_of (by omega) (by omega)]
  simp only
  unfold rdBody
  have ho := h
  unfold opR at h
  obtain ⟨k,i,d,m⟩ := o
  simp only at hk h ⊢
  rcases hk with rfl | rfl | rfl
  · simp only [if_true,Bool.and_eq_true,decide_eq_true_eq] at h
    obtain ⟨h1,rfl,rfl⟩ := h
    unfold insO at h1
    simp only [Bool.and_eq_true,Bool.or_eq_true,decide_eq_true_eq] at h1
    obtain ⟨⟨h1,h2⟩,h3⟩ := h1
    have hp : 0 ≤ i.par.1 ∧ i.par.1 ≤ 4 ∧ 0 ≤ i.par.2 ∧ i.par.2 ≤ 1099511627776 := by
      rcases h3 with ⟨h3,-⟩ | h3
      · rw [h3]; decide
      · exact elO_rng h3
    have hl := letO_iff.1 h2
    simp only [if_true,vIns,List.append_assoc]
    rw [wrapI ⟨by omega,by omega⟩,rdIns_of (elO_rng h1) hp ⟨by omega,by omega⟩]
    exact hfix _ rfl
  · simp only [show (2 : Int) ≠ 1 by decide,if_true,if_false,Bool.and_eq_true,decide_eq_true_eq] at h ⊢
    obtain ⟨h1,rfl,rfl⟩ := h
    rw [rdID_of (elO_rng h1)]
    exact hfix _ rfl
  · simp only [show (3 : Int) ≠ 1 by decide,show (3 : Int) ≠ 2 by decide,if_true,if_false,Bool.and_eq_true,decide_eq_true_eq] at h ⊢
    obtain ⟨h1,rfl,rfl⟩ := h
    rw [rdMar_of h1]
    exact hfix _ rfl
theorem rdL_of : ∀ (l : List Opn) (r : List UInt8),l.all opR = true → rdL l.length (vops l ++ r,0) = ((r,0),l)
  | [],r,_ => rfl
  | o :: l,r,h => by
    rw [List.all_cons,Bool.and_eq_true] at h
    rw [List.length_cons,rdL,show vops (o :: l) ++ r = vop o ++ (vops l ++ r) by simp [vops],rdOp_of h.1]
    simp only [if_true]
    rw [rdL_of l r h.2]
    simp only [if_true]
theorem rdL_to : ∀ (n : Nat) (s : RS),(rdL n s).1.2 = 0 → s.2 = 0 ∧ s.1 = vops (rdL n s).2 ++ (rdL n s).1.1 ∧ (rdL n s).2.length = n
  | 0,s,h => ⟨h,rfl,rfl⟩
  | n + 1,s,h => by
    rw [rdL] at h ⊢
    by_cases h1 : (rdOp s).1.2 = 0
    · simp only [if_pos h1] at h ⊢
      obtain ⟨h2,h3,h4⟩ := rdL_to n _ h
      obtain ⟨h5,h6⟩ := rdOp_to h1
      refine ⟨h5,?_,by rw [if_pos h,List.length_cons,h4]⟩
      rw [if_pos h]
      simp only [vops,List.flatMap_cons,List.append_assoc]
      rw [show List.flatMap vop (rdL n (rdOp s).1).2 = vops (rdL n (rdOp s).1).2 from rfl,← h3]
      exact h6
    · rw [if_neg h1] at h
      exact absurd h h1
theorem rdGet_of (l : List Opn) (r : List UInt8) (h : l.all opR = true) (hl : l.length ≤ 1000000) : rdGet (vput [] l ++ r,0) l.length = ((r,0),l) := by
  unfold rdGet vput
  rw [List.nil_append,List.append_assoc,rdNum_of ⟨by omega,by omega⟩ ⟨by omega,by omega⟩]
  simp only [Int.toNat_natCast]
  exact rdL_of l r h
theorem rdGet_to {s : RS} {most : Int} (h : (rdGet s most).1.2 = 0) : s.2 = 0 ∧ s.1 = vput [] (rdGet s most).2 ++ (rdGet s most).1.1 := by
  unfold rdGet at h ⊢
  obtain ⟨h1,h2,h3⟩ := rdL_to _ _ h
  obtain ⟨h4,h5⟩ := rdNum_to h1
  have hr := rdNum_rng s 0 most
  refine ⟨h4,?_⟩
  unfold vput
  rw [List.nil_append,List.append_assoc,← h2,h3,show (((rdNum s 0 most).2.toNat : Nat) : Int) = (rdNum s 0 most).2 by omega]
  exact h5
end Go.Proofs.Ytimonfakmadhpaa
