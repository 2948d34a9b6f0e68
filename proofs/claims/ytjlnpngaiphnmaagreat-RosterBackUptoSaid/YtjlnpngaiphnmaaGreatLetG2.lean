/-
  Several texts in one: each says what it proves.
  Conditions: none. Lemmas only.
-/
import Derived.Test.YtjlnpngaiphnmaaGreatLetG1
import Derived.Test.YtjlnpngaiphnmaaGreatAbsG6
set_option linter.all false
section
set_option linter.unusedSimpArgs false
set_option linter.unusedVariables false
set_option maxRecDepth 20000
set_option maxHeartbeats 4000000
namespace Go.Proofs.YtjlnpngaiphnmaaGreat
open Go Go.Abs Go.Proofs
abbrev RS := List UInt8 × Int
def fK (s : RS) (lo hi : Int) : RS × Int :=
  if s.2 = 0 then
    if (ft s.1).2.2 = 0 then
      if ((ft s.1).1 : Int) < lo ∨ hi < ((ft s.1).1 : Int) then ((s.1,6),0) else ((s.1.drop (ft s.1).2.1,0),((ft s.1).1 : Int))
    else ((s.1,(ft s.1).2.2),0)
  else (s,0)
def RdS (B H : AH) (r k : Nat) (bs : List UInt8) (s : RS) : Prop :=
  (∃ p,p ≤ bs.length ∧ bs.drop p = s.1 ∧ H r = some (rdB k bs p s.2)) ∧ Abs.Sub B H ∧ B r = none ∧ bs.length ≤ 2000000
theorem RdS.mono {B H H' : AH} {r k : Nat} {bs : List UInt8} {s : RS} (p : RdS B H r k bs s) (h : Abs.Sub H H') : RdS B H' r k bs s := by
  obtain ⟨⟨q,h1,h2,h3⟩,h4,h5⟩ := p
  exact ⟨⟨q,h1,h2,h _ _ h3⟩,h4.trans h,h5⟩
theorem RdS.all {B H : AH} {r k : Nat} {bs : List UInt8} {s : RS} (p : RdS B H r k bs s) : RdS (H.kill r) H r k bs s :=
  ⟨p.1,fun y o h => by
    by_cases e : y = r
    · subst e; rw [kill_same] at h; cases h
    · rwa [bZ e] at h,kill_same,p.2.2.2⟩
theorem RdS.back {B H H' : AH} {r k : Nat} {bs : List UInt8} {s s' : RS} (p : RdS B H r k bs s) (q : RdS (H.kill r) H' r k bs s') : RdS B H' r k bs s' :=
  ⟨q.1,fun y o h => q.2.1 y o (by
    have e : y ≠ r := fun e => by subst e; rw [p.2.2.1] at h; cases h
    rw [bZ e]; exact p.2.1 y o h),p.2.2⟩
theorem RdS.keep {B H H' : AH} {r k b : Nat} {bs : List UInt8} {s s' : RS} {o : AObj} (p : RdS B H r k bs s) (q : RdS (H.kill r) H' r k bs s') (hb : H b = some o) (hn : b ≠ r) : H' b = some o := q.2.1 b o (by rw [bZ hn]; exact hb)
theorem fine_live (B H : AH) (r k : Nat) (bs : List UInt8) (s : RS) (p : RdS B H r k bs s) (hr0 : r ≠ 0) : ACalls Tryz.prog 58 [.ptr r 0] H fun v H' => v = .sc (.bool (s.2 == 0)) ∧ H' = H := by
  obtain ⟨⟨q,h1,h2,h3⟩,-⟩ := p
  unfold rdB at h3
  obtain ⟨rest,e⟩ := s
  refine ao (c := ⟨Tryz.prog,20,[],[],[]⟩) (rs := [ResultVar.tmp 2]) Tryz.mixed Tryz.func58 rfl rfl rfl (Nat.le_of_ble_eq_true rfl) (by kernel_rfl) ?_
  simp (disch := omega) only [↓aI,↓zP,aD,zD,aS,simprocAttr,Tryz.facts,h3]
  exact ⟨_,rfl,_,Abs.Sub.refl _,rfl,rfl⟩
theorem err_live (B H : AH) (r k : Nat) (bs : List UInt8) (s : RS) (p : RdS B H r k bs s) (hr0 : r ≠ 0) : ACalls Tryz.prog 14 [.ptr r 0] H fun v H' => v = .sc (.int .i64 s.2) ∧ H' = H := by
  obtain ⟨⟨q,h1,h2,h3⟩,-⟩ := p
  unfold rdB at h3
  obtain ⟨rest,e⟩ := s
  refine ao (c := ⟨Tryz.prog,18,[],[],[]⟩) (rs := [ResultVar.tmp 2]) Tryz.mixed Tryz.func14 rfl rfl rfl (Nat.le_of_ble_eq_true rfl) (by kernel_rfl) ?_
  simp (disch := omega) only [↓aI,↓zP,aD,zD,aS,simprocAttr,Tryz.facts,h3]
  exact ⟨_,rfl,_,Abs.Sub.refl _,rfl,rfl⟩
theorem rleft_live (B H : AH) (r k : Nat) (bs : List UInt8) (s : RS) (p : RdS B H r k bs s) (hr0 : r ≠ 0) : ACalls Tryz.prog 15 [.ptr r 0] H fun v H' => v = .sc (.int .i64 (s.1.length : Nat)) ∧ H' = H := by
  obtain ⟨⟨q,h1,h2,h3⟩,h4,h5,h6⟩ := p
  have hl := kK H r k q bs s.2 h6 h1 h3
  have hlen : bs.length - q = s.1.length := by rw [← h2,List.length_drop]
  rw [hlen] at hl
  refine ao (c := ⟨Tryz.prog,9,[],[],[]⟩) (rs := [ResultVar.tmp 2]) Tryz.mixed Tryz.func15 rfl rfl rfl (Nat.le_of_ble_eq_true rfl) (by kernel_rfl) ?_
  simp (disch := omega) only [↓aI,↓zP,aD,zD,aS,simprocAttr,Tryz.facts,h3]
  refine CallK.i hl ?_
  rintro v E ⟨rfl,rfl⟩
  simp (disch := omega) only [↓aI,↓zP,aD,zD,aS,simprocAttr,Tryz.facts]
  exact ⟨_,rfl,_,Abs.Sub.refl _,rfl,rfl⟩
def endE (s : RS) : Int := if s.2 = 0 then (if 0 < s.1.length then 4 else 0) else s.2
theorem end_live (B H : AH) (r k : Nat) (bs : List UInt8) (s : RS) (p : RdS B H r k bs s) (hr0 : r ≠ 0) : ACalls Tryz.prog 22 [.ptr r 0] H fun v H' => v = .sc (.int .i64 (endE s)) ∧ H' = H := by
  have he := err_live B H r k bs s p hr0
  obtain ⟨⟨q,h1,h2,h3⟩,h4,h5,h6⟩ := p
  have hl := kK H r k q bs s.2 h6 h1 h3
  have hlen : bs.length - q = s.1.length := by rw [← h2,List.length_drop]
  rw [hlen] at hl
  have hE : endE s = if s.2 = 0 then (if 0 < s.1.length then 4 else 0) else s.2 := rfl
  generalize endE s = E0 at *
  refine ao (c := ⟨Tryz.prog,14,[],[],[]⟩) (rs := [ResultVar.tmp 2]) Tryz.mixed Tryz.func22 rfl rfl rfl (Nat.le_of_ble_eq_true rfl) (by kernel_rfl) ?_
  simp (disch := omega) only [↓aI,↓zP,aD,zD,aS,simprocAttr,Tryz.facts]
  refine CallK.i he ?_
  rintro v E ⟨rfl,rfl⟩
  by_cases c1 : s.2 = 0
  · rw [if_pos c1] at hE
    by_cases c2 : 0 < s.1.length
    · rw [if_pos c2] at hE
      subst hE
      simp (disch := omega) only [↓aI,↓zP,aD,zD,aS,simprocAttr,Tryz.facts,zA]
      refine CallK.i hl ?_
      rintro v E ⟨rfl,rfl⟩
      simp (disch := omega) only [↓aI,↓zP,aD,zD,aS,simprocAttr,Tryz.facts,zA]
      exact ⟨_,rfl,_,Abs.Sub.refl _,rfl,rfl⟩
    · rw [if_neg c2] at hE
      subst hE
      simp (disch := omega) only [↓aI,↓zP,aD,zD,aS,simprocAttr,Tryz.facts,zA]
      refine CallK.i hl ?_
      rintro v E ⟨rfl,rfl⟩
      simp (disch := omega) only [↓aI,↓zP,aD,zD,aS,simprocAttr,Tryz.facts,zA]
      exact ⟨_,rfl,_,Abs.Sub.refl _,rfl,rfl⟩
  · rw [if_neg c1] at hE
    subst hE
    simp (disch := omega) only [↓aI,↓zP,aD,zD,aS,simprocAttr,Tryz.facts,zA]
    exact ⟨_,rfl,_,Abs.Sub.refl _,rfl,rfl⟩
theorem iv (B H : AH) (r k : Nat) (bs : List UInt8) (s : RS) (lo hi : Int) (p : RdS B H r k bs s) (hr0 : r ≠ 0) : ACalls Tryz.prog 29 [.ptr r 0,.sc (.int .i64 lo),.sc (.int .i64 hi)] H fun v H' => v = .sc (.int .i64 (fK s lo hi).2) ∧ RdS B H' r k bs (fK s lo hi).1 := by
  have hf := fine_live B H r k bs s p hr0
  have p0 := p
  obtain ⟨⟨q,h1,h2,h3⟩,h4,h5,h6⟩ := p
  have hn := next_live H r k q bs s.2 h6 h1 h3
  rw [h2] at hn
  have hR : fK s lo hi = if s.2 = 0 then (if (ft s.1).2.2 = 0 then (if ((ft s.1).1 : Int) < lo ∨ hi < ((ft s.1).1 : Int) then ((s.1,6),0) else ((s.1.drop (ft s.1).2.1,0),((ft s.1).1 : Int))) else ((s.1,(ft s.1).2.2),0)) else (s,0) := rfl
  generalize fK s lo hi = R at *
  have hle := vr_le 6 0 0 s.1
  have hset : ∀ (p' : Nat) (e' : Int) (t : List UInt8),p' ≤ bs.length → bs.drop p' = t → RdS B (H.set r (rdB k bs p' e')) r k bs (t,e') := fun p' e' t hp ht => ⟨⟨p',hp,ht,set_get⟩,h4.set_free h5,h5,h6⟩
  have hsl : s.1.length = bs.length - q := by rw [← h2,List.length_drop]
  rw [show vr 6 0 0 s.1 = ft s.1 from rfl] at hle
  generalize ft s.1 = V at *
  obtain ⟨n,w,ev⟩ := V
  simp only [triV] at hn hle hR
  obtain ⟨rest,e⟩ := s
  simp only at h2 hR hsl hf p0 h3 hle
  have h3' := h3
  unfold rdB at h3'
  refine ao (c := ⟨Tryz.prog,49,[],[],[]⟩) (rs := [ResultVar.tmp 6]) Tryz.mixed Tryz.func29 rfl rfl rfl (Nat.le_of_ble_eq_true rfl) (by kernel_rfl) ?_
  simp (disch := omega) only [↓aI,↓zP,aD,zD,aS,simprocAttr,Tryz.facts]
  refine CallK.i hf ?_
  rintro v E ⟨rfl,rfl⟩
  by_cases c1 : e = 0
  · subst c1
    rw [if_pos rfl] at hR
    simp (disch := omega) only [↓aI,↓zP,aD,zD,aS,simprocAttr,Tryz.facts,zA]
    refine CallK.i hn ?_
    rintro v E ⟨rfl,rfl⟩
    by_cases c2 : ev = 0
    · subst c2
      rw [if_pos rfl] at hR
      by_cases c3 : (n : Int) < lo ∨ hi < (n : Int)
      · rw [if_pos c3] at hR
        subst hR
        by_cases c4 : (n : Int) < lo
        · simp (disch := omega) only [↓aI,↓zP,aD,zD,aS,simprocAttr,Tryz.facts,zA,h3',ah]
          exact ⟨_,rfl,_,Abs.Sub.refl _,rfl,hset q 6 rest h1 h2⟩
        · have c5 : hi < (n : Int) := c3.resolve_left c4
          simp (disch := omega) only [↓aI,↓zP,aD,zD,aS,simprocAttr,Tryz.facts,zA,h3',ah]
          exact ⟨_,rfl,_,Abs.Sub.refl _,rfl,hset q 6 rest h1 h2⟩
      · rw [if_neg c3] at hR
        subst hR
        simp (disch := omega) only [↓aI,↓zP,aD,zD,aS,simprocAttr,Tryz.facts,zA,h3',ah]
        exact ⟨_,rfl,_,Abs.Sub.refl _,rfl,hset (q + w) 0 _ (by omega) (by rw [← h2,List.drop_drop])⟩
    · rw [if_neg c2] at hR
      subst hR
      simp (disch := omega) only [↓aI,↓zP,aD,zD,aS,simprocAttr,Tryz.facts,zA,h3',ah]
      exact ⟨_,rfl,_,Abs.Sub.refl _,rfl,hset q ev rest h1 h2⟩
  · rw [if_neg c1] at hR
    subst hR
    simp (disch := omega) only [↓aI,↓zP,aD,zD,aS,simprocAttr,Tryz.facts,zA]
    exact ⟨_,rfl,_,Abs.Sub.refl _,rfl,p0⟩
theorem fail_live (B H : AH) (r k : Nat) (bs : List UInt8) (s : RS) (e : Int) (p : RdS B H r k bs s) (hr0 : r ≠ 0) : ACalls Tryz.prog 37 [.ptr r 0,.sc (.int .i64 e)] H fun v H' => RdS B H' r k bs (s.1,if s.2 = 0 then e else s.2) := by
  have hf := fine_live B H r k bs s p hr0
  have p0 := p
  obtain ⟨⟨q,h1,h2,h3⟩,h4,h5,h6⟩ := p
  obtain ⟨rest,e0⟩ := s
  simp only at h2 h3 hf ⊢
  have h3' := h3
  unfold rdB at h3'
  refine ao (c := ⟨Tryz.prog,11,[],[],[]⟩) (rs := []) Tryz.mixed Tryz.func37 rfl rfl rfl (Nat.le_of_ble_eq_true rfl) (by kernel_rfl) ?_
  simp (disch := omega) only [↓aI,↓zP,aD,zD,aS,simprocAttr,Tryz.facts]
  refine CallK.i hf ?_
  rintro v E ⟨rfl,rfl⟩
  by_cases c1 : e0 = 0
  · subst c1
    rw [if_pos rfl]
    simp (disch := omega) only [↓aI,↓zP,aD,zD,aS,simprocAttr,Tryz.facts,zA,h3',ah]
    exact ⟨_,rfl,_,Abs.Sub.refl _,⟨q,h1,h2,set_get⟩,h4.set_free h5,h5,h6⟩
  · rw [if_neg c1]
    simp (disch := omega) only [↓aI,↓zP,aD,zD,aS,simprocAttr,Tryz.facts,zA]
    exact ⟨_,rfl,_,Abs.Sub.refl _,p0⟩
theorem RdS.ne {B H : AH} {r k b : Nat} {bs : List UInt8} {s : RS} (p : RdS B H r k bs s) (hb : H b = none) : ¬ b = r := fun e => by
  obtain ⟨⟨q,-,-,h3⟩,-⟩ := p
  subst e; rw [hb] at h3; cases h3
theorem RdS.free {B H : AH} {r k b : Nat} {bs : List UInt8} {s : RS} (p : RdS B H r k bs s) (hb : H b = none) : B b = none := p.2.1.free hb
theorem RdS.put {B H : AH} {r k b : Nat} {bs : List UInt8} {s : RS} {o : AObj} (p : RdS B H r k bs s) (hb : B b = none) (hn : ¬ b = r) : RdS B (H.set b o) r k bs s := by
  obtain ⟨⟨q,h1,h2,h3⟩,h4,h5⟩ := p
  exact ⟨⟨q,h1,h2,by rw [aP (fun e => hn e.symm)]; exact h3⟩,h4.set_free hb,h5⟩
theorem RdS.kill {B H : AH} {r k b : Nat} {bs : List UInt8} {s : RS} (p : RdS B H r k bs s) (hb : B b = none) (hn : ¬ b = r) : RdS B (H.kill b) r k bs s := by
  obtain ⟨⟨q,h1,h2,h3⟩,h4,h5⟩ := p
  exact ⟨⟨q,h1,h2,by rw [bZ (fun e => hn e.symm)]; exact h3⟩,h4.kill_free hb,h5⟩
structure Sh (s t : RS) : Prop where
  le : t.1.length ≤ s.1.length
  lt : t.2 = 0 → s.2 = 0 ∧ t.1.length < s.1.length
structure Sw (s t : RS) : Prop where
  le : t.1.length ≤ s.1.length
  ok : t.2 = 0 → s.2 = 0
theorem Sh.w {s t : RS} (h : Sh s t) : Sw s t := ⟨h.le,fun e => (h.lt e).1⟩
theorem Sw.rfl' {s : RS} : Sw s s := ⟨Nat.le_refl _,fun e => e⟩
theorem Sh.trans {s t u : RS} (h : Sh s t) (g : Sw t u) : Sh s u := ⟨Nat.le_trans g.le h.le,fun e => ⟨(h.lt (g.ok e)).1,Nat.lt_of_le_of_lt g.le (h.lt (g.ok e)).2⟩⟩
theorem Sw.trans {s t u : RS} (h : Sw s t) (g : Sw t u) : Sw s u := ⟨Nat.le_trans g.le h.le,fun e => h.ok (g.ok e)⟩
theorem im (s : RS) (lo hi : Int) : Sh s (fK s lo hi).1 := by
  have hle := vr_le 6 0 0 s.1
  rw [show vr 6 0 0 s.1 = ft s.1 from rfl] at hle
  unfold fK
  split
  · rename_i h0
    split
    · rename_i h1
      have := hle h1
      split
      · exact ⟨Nat.le_refl _,fun e => by simp at e⟩
      · refine ⟨?_,fun _ => ⟨h0,?_⟩⟩
        · simp only [List.length_drop]; omega
        · simp only [List.length_drop]; omega
    · rename_i h1
      exact ⟨Nat.le_refl _,fun e => absurd e h1⟩
  · rename_i h0
    exact ⟨Nat.le_refl _,fun e => absurd e h0⟩
end Go.Proofs.YtjlnpngaiphnmaaGreat
end
section
set_option linter.unusedSimpArgs false
set_option linter.unusedVariables false
set_option maxRecDepth 20000
set_option maxHeartbeats 4000000
namespace Go.Proofs.YtjlnpngaiphnmaaGreat
open Go Go.Abs Go.Proofs
abbrev rsV (s : RS) : AV := .agg [.imm 0 (bw s.1) s.1.length,.sc (.int .i64 s.2)]
theorem encB_drop (l : List UInt8) (k : Nat) : ((bw l).drop k).take (l.length - k) = bw (l.drop k) := by
  unfold bw
  rw [← List.map_drop,List.take_of_length_le (by simp)]
theorem rfail_pure (s : RS) (e : Int) : APure Tryz.prog 62 [rsV s,.sc (.int .i64 e)] (rsV (s.1,e)) := by
  obtain ⟨rest,e0⟩ := s
  refine az (c := ⟨Tryz.prog,9,[(1000000,[2])],[],[]⟩) (rs := [ResultVar.cell 4 36]) Tryz.mixed Tryz.func62 rfl rfl rfl (Nat.le_of_ble_eq_true rfl) (by kernel_rfl) fun H => ?_
  simp (disch := omega) only [↓aI,↓zP,aD,zD,aS,simprocAttr,Tryz.facts]
  intro b2 hb20 hb2 b4 hb40 hb4
  have n4 := bK hb4
  simp (disch := omega) only [↓aI,↓zP,aD,zD,aS,simprocAttr,Tryz.facts,aP,n4,bH hb2 n4,ah]
  exact Sub.set_new (am hb4)
theorem iQ (s : RS) (lo hi : Int) (hl : s.1.length ≤ 2000000) : APure Tryz.prog 38 [rsV s,.sc (.int .i64 lo),.sc (.int .i64 hi)] (.tup [rsV (fK s lo hi).1,.sc (.int .i64 (fK s lo hi).2)]) := by
  have hf := first_pure s.1 hl
  have hfl := fun e => rfail_pure s e
  have hle := vr_le 6 0 0 s.1
  rw [show vr 6 0 0 s.1 = ft s.1 from rfl] at hle
  have hR : fK s lo hi = if s.2 = 0 then (if (ft s.1).2.2 = 0 then (if ((ft s.1).1 : Int) < lo ∨ hi < ((ft s.1).1 : Int) then ((s.1,6),0) else ((s.1.drop (ft s.1).2.1,0),((ft s.1).1 : Int))) else ((s.1,(ft s.1).2.2),0)) else (s,0) := rfl
  generalize fK s lo hi = R at *
  generalize ft s.1 = V at *
  obtain ⟨n,w,ev⟩ := V
  obtain ⟨rest,e⟩ := s
  simp only [triV] at hf hle hR hfl
  have hdr := encB_drop rest w
  have hel := fO rest
  by_cases c1 : e = 0
  · subst c1
    rw [if_pos rfl] at hR
    by_cases c2 : ev = 0
    · subst c2
      rw [if_pos rfl] at hR
      have hle := hle rfl
      by_cases c3 : (n : Int) < lo ∨ hi < (n : Int)
      · rw [if_pos c3] at hR
        subst hR
        have h6 := hfl 6
        by_cases c4 : (n : Int) < lo
        · refine az (c := ⟨Tryz.prog,43,[(1000000,[3])],[],[]⟩) (rs := [ResultVar.cell 6 36,ResultVar.tmp 7]) Tryz.mixed Tryz.func38 rfl rfl rfl (Nat.le_of_ble_eq_true rfl) (by kernel_rfl) fun H => ?_
          simp (disch := omega) only [↓aI,↓zP,aD,zD,aS,simprocAttr,Tryz.facts]
          intro b3 hb30 hb3 b6 hb60 hb6
          have n6 := bK hb6
          simp (disch := omega) only [↓aI,↓zP,aD,zD,aS,simprocAttr,Tryz.facts,aP,n6,bH hb3 n6,ah,zA]
          first | refine CallK.p (hf) ?_ | refine CallP.i (hf) ?_
          simp (disch := omega) only [↓aI,↓zP,aD,zD,aS,simprocAttr,Tryz.facts,zA,ah]
          first | refine CallK.p (h6) ?_ | refine CallP.i (h6) ?_
          simp (disch := omega) only [↓aI,↓zP,aD,zD,aS,simprocAttr,Tryz.facts,zA,ah]
          exact Sub.set_new (am hb6)
        · have c5 : hi < (n : Int) := c3.resolve_left c4
          refine az (c := ⟨Tryz.prog,43,[(1000000,[3])],[],[]⟩) (rs := [ResultVar.cell 6 36,ResultVar.tmp 7]) Tryz.mixed Tryz.func38 rfl rfl rfl (Nat.le_of_ble_eq_true rfl) (by kernel_rfl) fun H => ?_
          simp (disch := omega) only [↓aI,↓zP,aD,zD,aS,simprocAttr,Tryz.facts]
          intro b3 hb30 hb3 b6 hb60 hb6
          have n6 := bK hb6
          simp (disch := omega) only [↓aI,↓zP,aD,zD,aS,simprocAttr,Tryz.facts,aP,n6,bH hb3 n6,ah,zA]
          first | refine CallK.p (hf) ?_ | refine CallP.i (hf) ?_
          simp (disch := omega) only [↓aI,↓zP,aD,zD,aS,simprocAttr,Tryz.facts,zA,ah]
          first | refine CallK.p (h6) ?_ | refine CallP.i (h6) ?_
          simp (disch := omega) only [↓aI,↓zP,aD,zD,aS,simprocAttr,Tryz.facts,zA,ah]
          exact Sub.set_new (am hb6)
      · rw [if_neg c3] at hR
        subst hR
        have hdl : (rest.drop w).length = rest.length - w := List.length_drop
        refine az (c := ⟨Tryz.prog,43,[(1000000,[3])],[],[]⟩) (rs := [ResultVar.cell 6 36,ResultVar.tmp 7]) Tryz.mixed Tryz.func38 rfl rfl rfl (Nat.le_of_ble_eq_true rfl) (by kernel_rfl) fun H => ?_
        simp (disch := omega) only [↓aI,↓zP,aD,zD,aS,simprocAttr,Tryz.facts]
        intro b3 hb30 hb3 b6 hb60 hb6
        have n6 := bK hb6
        simp (disch := omega) only [↓aI,↓zP,aD,zD,aS,simprocAttr,Tryz.facts,aP,n6,bH hb3 n6,ah,zA]
        first | refine CallK.p (hf) ?_ | refine CallP.i (hf) ?_
        simp (disch := omega) only [↓aI,↓zP,aD,zD,aS,simprocAttr,Tryz.facts,zA,ah,hdr,hel]
        rw [← hdl]
        exact ⟨rfl,Sub.set_new (am hb6)⟩
    · rw [if_neg c2] at hR
      subst hR
      have h6 := hfl ev
      refine az (c := ⟨Tryz.prog,43,[(1000000,[3])],[],[]⟩) (rs := [ResultVar.cell 6 36,ResultVar.tmp 7]) Tryz.mixed Tryz.func38 rfl rfl rfl (Nat.le_of_ble_eq_true rfl) (by kernel_rfl) fun H => ?_
      simp (disch := omega) only [↓aI,↓zP,aD,zD,aS,simprocAttr,Tryz.facts]
      intro b3 hb30 hb3 b6 hb60 hb6
      have n6 := bK hb6
      simp (disch := omega) only [↓aI,↓zP,aD,zD,aS,simprocAttr,Tryz.facts,aP,n6,bH hb3 n6,ah,zA]
      first | refine CallK.p (hf) ?_ | refine CallP.i (hf) ?_
      simp (disch := omega) only [↓aI,↓zP,aD,zD,aS,simprocAttr,Tryz.facts,zA,ah]
      first | refine CallK.p (h6) ?_ | refine CallP.i (h6) ?_
      simp (disch := omega) only [↓aI,↓zP,aD,zD,aS,simprocAttr,Tryz.facts,zA,ah]
      exact Sub.set_new (am hb6)
  · rw [if_neg c1] at hR
    subst hR
    refine az (c := ⟨Tryz.prog,43,[(1000000,[3])],[],[]⟩) (rs := [ResultVar.cell 6 36,ResultVar.tmp 7]) Tryz.mixed Tryz.func38 rfl rfl rfl (Nat.le_of_ble_eq_true rfl) (by kernel_rfl) fun H => ?_
    simp (disch := omega) only [↓aI,↓zP,aD,zD,aS,simprocAttr,Tryz.facts]
    intro b3 hb30 hb3 b6 hb60 hb6
    have n6 := bK hb6
    simp (disch := omega) only [↓aI,↓zP,aD,zD,aS,simprocAttr,Tryz.facts,aP,n6,bH hb3 n6,ah,zA]
    exact Sub.set_new (am hb6)
end Go.Proofs.YtjlnpngaiphnmaaGreat
end
section
set_option linter.unusedSimpArgs false
set_option linter.unusedVariables false
set_option maxRecDepth 20000
set_option maxHeartbeats 4000000
namespace Go.Proofs.YtjlnpngaiphnmaaGreat
open Go Go.Abs Go.Proofs
theorem fixed_live (B H : AH) (r k : Nat) (bs : List UInt8) (s : RS) (n : Nat) (p : RdS B H r k bs s) (hr0 : r ≠ 0) (e0 : s.2 = 0) (hn : n ≤ s.1.length) : ACalls Tryz.prog 60 [.ptr r 0,.sc (.int .i64 (n : Nat))] H fun v H' => v = eu (s.1.take n) ∧ RdS B H' r k bs (s.1.drop n,0) := by
  have hf := fine_live B H r k bs s p hr0
  have p0 := p
  obtain ⟨⟨q,h1,h2,h3⟩,h4,h5,h6⟩ := p
  have hl := kK H r k q bs s.2 h6 h1 h3
  have hlen : bs.length - q = s.1.length := by rw [← h2,List.length_drop]
  rw [hlen] at hl
  obtain ⟨rest,e⟩ := s
  simp only at *
  subst e0
  have h3' := h3
  unfold rdB at h3'
  have h8 := fO bs
  refine ao (c := ⟨Tryz.prog,54,[(6,[2,0,0,0,0,0,0,0,0,0,0,0,0,0,0,0,0,0,0,2,0])],[23],[(6,(.op 1 0 (.op 2 0 (.op 3 0 (.op 4 0 (.op 6 0 (.op 7 0 (.op 8 0 (.op 9 0 (.op 11 0 (.op 12 0 (.op 13 0 (.op 14 0 (.op 16 0 (.or (.op 0 2 (.or (.op 5 2 (.or (.op 10 2 (.op 15 2 (.op 17 0 (.op 18 0 (.op 19 2 (.op 20 0 .nil)))))) (.op 15 2 (.op 17 0 (.op 10 2 (.op 18 0 (.op 19 2 (.op 20 0 .nil)))))))) (.or (.op 10 2 (.or (.op 5 2 (.op 15 2 (.op 17 0 (.op 18 0 (.op 19 2 (.op 20 0 .nil)))))) (.op 15 2 (.op 17 0 (.op 5 2 (.op 18 0 (.op 19 2 (.op 20 0 .nil)))))))) (.op 15 2 (.op 17 0 (.or (.op 5 2 (.op 10 2 (.op 18 0 (.op 19 2 (.op 20 0 .nil))))) (.op 10 2 (.op 5 2 (.op 18 0 (.op 19 2 (.op 20 0 .nil))))))))))) (.or (.op 5 2 (.or (.op 0 2 (.or (.op 10 2 (.op 15 2 (.op 17 0 (.op 18 0 (.op 19 2 (.op 20 0 .nil)))))) (.op 15 2 (.op 17 0 (.op 10 2 (.op 18 0 (.op 19 2 (.op 20 0 .nil)))))))) (.or (.op 10 2 (.or (.op 0 2 (.op 15 2 (.op 17 0 (.op 18 0 (.op 19 2 (.op 20 0 .nil)))))) (.op 15 2 (.op 17 0 (.op 18 0 (.op 0 2 (.op 19 2 (.op 20 0 .nil)))))))) (.op 15 2 (.op 17 0 (.or (.op 0 2 (.op 10 2 (.op 18 0 (.op 19 2 (.op 20 0 .nil))))) (.op 10 2 (.op 18 0 (.op 0 2 (.op 19 2 (.op 20 0 .nil))))))))))) (.or (.op 10 2 (.or (.op 0 2 (.or (.op 5 2 (.op 15 2 (.op 17 0 (.op 18 0 (.op 19 2 (.op 20 0 .nil)))))) (.op 15 2 (.op 17 0 (.op 5 2 (.op 18 0 (.op 19 2 (.op 20 0 .nil)))))))) (.or (.op 5 2 (.or (.op 0 2 (.op 15 2 (.op 17 0 (.op 18 0 (.op 19 2 (.op 20 0 .nil)))))) (.op 15 2 (.op 17 0 (.op 18 0 (.op 0 2 (.op 19 2 (.op 20 0 .nil)))))))) (.op 15 2 (.op 17 0 (.or (.op 0 2 (.op 5 2 (.op 18 0 (.op 19 2 (.op 20 0 .nil))))) (.op 5 2 (.op 18 0 (.op 0 2 (.op 19 2 (.op 20 0 .nil))))))))))) (.op 15 2 (.op 17 0 (.or (.op 0 2 (.or (.op 5 2 (.op 10 2 (.op 18 0 (.op 19 2 (.op 20 0 .nil))))) (.op 10 2 (.op 5 2 (.op 18 0 (.op 19 2 (.op 20 0 .nil))))))) (.or (.op 5 2 (.or (.op 0 2 (.op 10 2 (.op 18 0 (.op 19 2 (.op 20 0 .nil))))) (.op 10 2 (.op 18 0 (.op 0 2 (.op 19 2 (.op 20 0 .nil))))))) (.op 10 2 (.or (.op 0 2 (.op 5 2 (.op 18 0 (.op 19 2 (.op 20 0 .nil))))) (.op 5 2 (.op 18 0 (.op 0 2 (.op 19 2 (.op 20 0 .nil))))))))))))))))))))))))))))]⟩) (rs := [ResultVar.tmp 4]) Tryz.mixed Tryz.func60 rfl rfl rfl (Nat.le_of_ble_eq_true rfl) (by kernel_rfl) ?_
  simp (disch := omega) only [↓aI,↓zP,aD,zD,aS,simprocAttr,Tryz.facts]
  refine CallK.i hf ?_
  rintro v E ⟨rfl,rfl⟩
  by_cases c : n = 0
  · subst c
    simp (disch := omega) only [↓aI,↓zP,aD,zD,aS,simprocAttr,Tryz.facts,zA]
    exact ⟨_,rfl,_,Abs.Sub.refl _,rfl,p0⟩
  · simp (disch := omega) only [↓aI,↓zP,aD,zD,aS,simprocAttr,Tryz.facts,zA]
    refine CallK.i hl ?_
    rintro v E ⟨rfl,rfl⟩
    simp (disch := omega) only [↓aI,↓zP,aD,zD,aS,simprocAttr,Tryz.facts,zA]
    have hct : List.take n (List.drop q (bw bs)) = bw (rest.take n) := by unfold bw; rw [← List.map_drop,← List.map_take,h2]
    have hcl := fO (rest.take n)
    have htl : (rest.take n).length = n := by rw [List.length_take]; omega
    refine eI (fun σ F => ∃ kk,σ 5 = .imm kk (bw (rest.take n)) n ∧ Abs.Sub E F ∧ σ 0 = .ptr r 0 ∧ σ 1 = .sc (.int .i64 (n : Nat))) ?_ ?_
    · simp (disch := omega) only [↓aI,↓zP,aD,zD,aS,simprocAttr,Tryz.facts,zA,h3',h8,Nat.add_sub_cancel_left,hct,hcl,htl]
      repeat' first
        | refine And.intro ?_ ?_
        | (intro kk hkk0 hkk
           have nk := bA h3' hkk
           simp (disch := omega) only [↓aI,↓zP,aD,zD,aS,simprocAttr,Tryz.facts,zA,h3',h8,aP,nk,Nat.add_sub_cancel_left,hct,hcl,htl])
      all_goals
        intro k2 o2 hk20 hk2 ho2
        exact ⟨k2,rfl,Sub.set_new (am hk2)⟩
    · rintro σ F ⟨kk,s5,hs,s0,s1⟩
      have v3 := hs _ _ h3'
      simp (disch := omega) only [↓aI,↓zP,aD,zD,aS,simprocAttr,Tryz.facts,s0,s1,s5,v3,zA,ah]
      refine ⟨_,rfl,_,Abs.Sub.refl _,by rw [eu,htl],⟨q + n,by omega,by rw [← h2,List.drop_drop],set_get⟩,(h4.trans hs).set_free h5,h5,h6⟩
def gJ (s : RS) (most : Nat) : RS × List UInt8 :=
  if s.2 = 0 then
    if (ft s.1).2.2 = 0 then
      if most < (ft s.1).1 then ((s.1,2),[])
      else if s.1.length - (ft s.1).2.1 < (ft s.1).1 then ((s.1,3),[])
      else (((s.1.drop (ft s.1).2.1).drop (ft s.1).1,0),(s.1.drop (ft s.1).2.1).take (ft s.1).1)
    else ((s.1,(ft s.1).2.2),[])
  else (s,[])
theorem text_live (B H : AH) (r k : Nat) (bs : List UInt8) (s : RS) (most : Nat) (p : RdS B H r k bs s) (hr0 : r ≠ 0) : ACalls Tryz.prog 30 [.ptr r 0,.sc (.int .i64 (most : Nat))] H fun v H' => v = eu (gJ s most).2 ∧ RdS B H' r k bs (gJ s most).1 := by
  have hf := fine_live B H r k bs s p hr0
  have p0 := p
  obtain ⟨⟨q,h1,h2,h3⟩,h4,h5,h6⟩ := p
  have hl := kK H r k q bs s.2 h6 h1 h3
  have hlen : bs.length - q = s.1.length := by rw [← h2,List.length_drop]
  rw [hlen] at hl
  have hn := next_live H r k q bs s.2 h6 h1 h3
  rw [h2] at hn
  have hR : gJ s most = if s.2 = 0 then
    if (ft s.1).2.2 = 0 then
      if most < (ft s.1).1 then ((s.1,2),[])
      else if s.1.length - (ft s.1).2.1 < (ft s.1).1 then ((s.1,3),[])
      else (((s.1.drop (ft s.1).2.1).drop (ft s.1).1,0),(s.1.drop (ft s.1).2.1).take (ft s.1).1)
    else ((s.1,(ft s.1).2.2),[])
  else (s,[]) := rfl
  generalize gJ s most = R at *
  have hle := vr_le 6 0 0 s.1
  have hset : ∀ (p' : Nat) (e' : Int) (t : List UInt8),p' ≤ bs.length → bs.drop p' = t → RdS B (H.set r (rdB k bs p' e')) r k bs (t,e') := fun p' e' t hp ht => ⟨⟨p',hp,ht,set_get⟩,h4.set_free h5,h5,h6⟩
  rw [show vr 6 0 0 s.1 = ft s.1 from rfl] at hle
  generalize ft s.1 = V at *
  obtain ⟨n,w,ev⟩ := V
  simp only [triV] at hn hle hR
  obtain ⟨rest,e⟩ := s
  simp only at h2 hR hf p0 h3 hle hl hlen
  have hx : (if ((most : Nat) : Int) < 0 then (0 : Int) else (most : Int)) = most := if_neg (by omega)
  have h3' := h3
  unfold rdB at h3'
  refine ao (c := ⟨Tryz.prog,57,[],[],[]⟩) (rs := [ResultVar.tmp 4]) Tryz.mixed Tryz.func30 rfl rfl rfl (Nat.le_of_ble_eq_true rfl) (by kernel_rfl) ?_
  simp (disch := omega) only [↓aI,↓zP,aD,zD,aS,simprocAttr,Tryz.facts]
  refine CallK.i hf ?_
  rintro v E ⟨rfl,rfl⟩
  by_cases c1 : e = 0
  · subst c1
    rw [if_pos rfl] at hR
    simp (disch := omega) only [↓aI,↓zP,aD,zD,aS,simprocAttr,Tryz.facts,zA]
    refine CallK.i hn ?_
    rintro v E ⟨rfl,rfl⟩
    by_cases c2 : ev = 0
    · subst c2
      rw [if_pos rfl] at hR
      obtain ⟨l1,l2,l3,-⟩ := hle rfl
      by_cases c3 : most < n
      · rw [if_pos c3] at hR
        subst hR
        simp (disch := omega) only [↓aI,↓zP,aD,zD,aS,simprocAttr,Tryz.facts,zA,h3',hx,ah]
        exact ⟨_,rfl,_,Abs.Sub.refl _,rfl,hset q 2 rest h1 h2⟩
      · rw [if_neg c3] at hR
        simp (disch := omega) only [↓aI,↓zP,aD,zD,aS,simprocAttr,Tryz.facts,zA,h3',hx,ah]
        refine CallK.i hl ?_
        rintro v E ⟨rfl,rfl⟩
        by_cases c4 : rest.length - w < n
        · rw [if_pos c4] at hR
          subst hR
          simp (disch := omega) only [↓aI,↓zP,aD,zD,aS,simprocAttr,Tryz.facts,zA,h3',ah]
          exact ⟨_,rfl,_,Abs.Sub.refl _,rfl,hset q 3 rest h1 h2⟩
        · rw [if_neg c4] at hR
          subst hR
          simp (disch := omega) only [↓aI,↓zP,aD,zD,aS,simprocAttr,Tryz.facts,zA,h3',ah]
          refine CallK.i (fixed_live B _ r k bs (rest.drop w,0) n (hset (q + w) 0 _ (by omega) (by rw [← h2,List.drop_drop])) hr0 rfl (by simp only [List.length_drop]; omega)) ?_
          rintro v E2 ⟨rfl,q2⟩
          simp (disch := omega) only [↓aI,↓zP,aD,zD,aS,simprocAttr,Tryz.facts]
          exact ⟨_,rfl,_,Abs.Sub.refl _,rfl,q2⟩
    · rw [if_neg c2] at hR
      subst hR
      simp (disch := omega) only [↓aI,↓zP,aD,zD,aS,simprocAttr,Tryz.facts,zA,h3',ah]
      exact ⟨_,rfl,_,Abs.Sub.refl _,rfl,hset q ev rest h1 h2⟩
  · rw [if_neg c1] at hR
    subst hR
    simp (disch := omega) only [↓aI,↓zP,aD,zD,aS,simprocAttr,Tryz.facts,zA]
    exact ⟨_,rfl,_,Abs.Sub.refl _,rfl,p0⟩
theorem rdTx_sw (s : RS) (most : Nat) : Sw s (gJ s most).1 := by
  unfold gJ
  split
  · rename_i h0
    split
    · split
      · exact ⟨Nat.le_refl _,fun _ => h0⟩
      · split
        · exact ⟨Nat.le_refl _,fun _ => h0⟩
        · refine ⟨?_,fun _ => h0⟩
          simp only [List.length_drop]; omega
    · exact ⟨Nat.le_refl _,fun _ => h0⟩
  · exact ⟨Nat.le_refl _,fun e => e⟩
theorem jW (s : RS) (most : Nat) (hl : s.1.length ≤ 2000000) : APure Tryz.prog 39 [rsV s,.sc (.int .i64 (most : Nat))] (.tup [rsV (gJ s most).1,eu (gJ s most).2]) := by
  have hfl := fun e => rfail_pure s e
  have hle := vr_le 6 0 0 s.1
  rw [show vr 6 0 0 s.1 = ft s.1 from rfl] at hle
  have hnu := iQ s 0 1099511627776 hl
  have hN : fK s 0 1099511627776 = if s.2 = 0 then (if (ft s.1).2.2 = 0 then ((s.1.drop (ft s.1).2.1,0),((ft s.1).1 : Int)) else ((s.1,(ft s.1).2.2),0)) else (s,0) := by
    unfold fK
    split
    · split
      · rename_i h
        have := (hle h).1
        rw [if_neg (by omega)]
      · rfl
    · rfl
  rw [hN] at hnu
  have hR : gJ s most = if s.2 = 0 then
    if (ft s.1).2.2 = 0 then
      if most < (ft s.1).1 then ((s.1,2),[])
      else if s.1.length - (ft s.1).2.1 < (ft s.1).1 then ((s.1,3),[])
      else (((s.1.drop (ft s.1).2.1).drop (ft s.1).1,0),(s.1.drop (ft s.1).2.1).take (ft s.1).1)
    else ((s.1,(ft s.1).2.2),[])
  else (s,[]) := rfl
  generalize gJ s most = R at *
  generalize ft s.1 = V at *
  obtain ⟨n,w,ev⟩ := V
  simp only at hnu hle hR
  obtain ⟨rest,e⟩ := s
  simp only at hnu hle hR hfl
  have hx : (if ((most : Nat) : Int) < 0 then (0 : Int) else (most : Int)) = most := if_neg (by omega)
  have h2 := hfl 2
  have h3 := hfl 3
  by_cases c1 : e = 0
  · subst c1
    rw [if_pos rfl] at hR
    rw [if_pos rfl] at hnu
    by_cases c2 : ev = 0
    · subst c2
      rw [if_pos rfl] at hR hnu
      obtain ⟨l1,l2,l3,-⟩ := hle rfl
      simp only at hnu
      have hdl : (rest.drop w).length = rest.length - w := List.length_drop
      have hdr := encB_drop (rest.drop w) n
      have hde := fO (rest.drop w)
      have htk : List.take n (bw (rest.drop w)) = bw ((rest.drop w).take n) := by unfold bw; rw [← List.map_take]
      have htl : ((rest.drop w).take n).length = min n (rest.drop w).length := List.length_take
      have hdl2 : ((rest.drop w).drop n).length = (rest.drop w).length - n := List.length_drop
      generalize rest.drop w = D at *
      by_cases c3 : most < n
      · rw [if_pos c3] at hR
        subst hR
        refine az (c := ⟨Tryz.prog,39,[(8,[0,1,0,0,0,0,0,0,0,2,0]),(1000000,[2]),(1000001,[6])],[],[]⟩) (rs := [ResultVar.cell 4 36,ResultVar.tmp 5]) Tryz.mixed Tryz.func39 rfl rfl rfl (Nat.le_of_ble_eq_true rfl) (by kernel_rfl) fun H => ?_
        simp (disch := omega) only [↓aI,↓zP,aD,zD,aS,simprocAttr,Tryz.facts]
        intro b2 hb20 hb2 b4 hb40 hb4
        have n4 := bK hb4
        simp (disch := omega) only [↓aI,↓zP,aD,zD,aS,simprocAttr,Tryz.facts,aP,n4,bH hb2 n4,ah,zA]
        first | refine CallK.p (hnu) ?_ | refine CallP.i (hnu) ?_
        simp (disch := omega) only [↓aI,↓zP,aD,zD,aS,simprocAttr,Tryz.facts,zA,ah,hx]
        intro k hk0 hk
        rw [aj hk]
        first | refine CallK.p (h2) ?_ | refine CallP.i (h2) ?_
        simp (disch := omega) only [↓aI,↓zP,aD,zD,aS,simprocAttr,Tryz.facts,zA,ah,hx]
        exact ⟨rfl,Sub.set_new (am hb4)⟩
      · rw [if_neg c3] at hR
        by_cases c4 : rest.length - w < n
        · rw [if_pos c4] at hR
          subst hR
          refine az (c := ⟨Tryz.prog,39,[(8,[0,1,0,0,0,0,0,0,0,2,0]),(1000000,[2]),(1000001,[6])],[],[]⟩) (rs := [ResultVar.cell 4 36,ResultVar.tmp 5]) Tryz.mixed Tryz.func39 rfl rfl rfl (Nat.le_of_ble_eq_true rfl) (by kernel_rfl) fun H => ?_
          simp (disch := omega) only [↓aI,↓zP,aD,zD,aS,simprocAttr,Tryz.facts]
          intro b2 hb20 hb2 b4 hb40 hb4
          have n4 := bK hb4
          simp (disch := omega) only [↓aI,↓zP,aD,zD,aS,simprocAttr,Tryz.facts,aP,n4,bH hb2 n4,ah,zA]
          first | refine CallK.p (hnu) ?_ | refine CallP.i (hnu) ?_
          simp (disch := omega) only [↓aI,↓zP,aD,zD,aS,simprocAttr,Tryz.facts,zA,ah,hx]
          intro k hk0 hk
          rw [aj hk]
          first | refine CallK.p (h3) ?_ | refine CallP.i (h3) ?_
          simp (disch := omega) only [↓aI,↓zP,aD,zD,aS,simprocAttr,Tryz.facts,zA,ah,hx]
          exact ⟨rfl,Sub.set_new (am hb4)⟩
        · rw [if_neg c4] at hR
          subst hR
          refine az (c := ⟨Tryz.prog,39,[(8,[0,1,0,0,0,0,0,0,0,2,0]),(1000000,[2]),(1000001,[6])],[],[]⟩) (rs := [ResultVar.cell 4 36,ResultVar.tmp 5]) Tryz.mixed Tryz.func39 rfl rfl rfl (Nat.le_of_ble_eq_true rfl) (by kernel_rfl) fun H => ?_
          simp (disch := omega) only [↓aI,↓zP,aD,zD,aS,simprocAttr,Tryz.facts]
          intro b2 hb20 hb2 b4 hb40 hb4
          have n4 := bK hb4
          simp (disch := omega) only [↓aI,↓zP,aD,zD,aS,simprocAttr,Tryz.facts,aP,n4,bH hb2 n4,ah,zA]
          first | refine CallK.p (hnu) ?_ | refine CallP.i (hnu) ?_
          simp (disch := omega) only [↓aI,↓zP,aD,zD,aS,simprocAttr,Tryz.facts,zA,ah,hx]
          intro k hk0 hk
          rw [aj hk]
          simp (disch := omega) only [↓aI,↓zP,aD,zD,aS,simprocAttr,Tryz.facts,zA,ah,hx,hde,hdr,htk,Nat.sub_zero]
          exact ⟨by rw [rsV,eu,htl,hdl2,Nat.min_eq_left (by omega)],Sub.set_new (am hb4)⟩
    · rw [if_neg c2] at hR hnu
      subst hR
      refine az (c := ⟨Tryz.prog,39,[(8,[0,1,0,0,0,0,0,0,0,2,0]),(1000000,[2]),(1000001,[6])],[],[]⟩) (rs := [ResultVar.cell 4 36,ResultVar.tmp 5]) Tryz.mixed Tryz.func39 rfl rfl rfl (Nat.le_of_ble_eq_true rfl) (by kernel_rfl) fun H => ?_
      simp (disch := omega) only [↓aI,↓zP,aD,zD,aS,simprocAttr,Tryz.facts]
      intro b2 hb20 hb2 b4 hb40 hb4
      have n4 := bK hb4
      simp (disch := omega) only [↓aI,↓zP,aD,zD,aS,simprocAttr,Tryz.facts,aP,n4,bH hb2 n4,ah,zA]
      first | refine CallK.p (hnu) ?_ | refine CallP.i (hnu) ?_
      simp (disch := omega) only [↓aI,↓zP,aD,zD,aS,simprocAttr,Tryz.facts,zA,ah,hx]
      intro k hk0 hk
      rw [aj hk]
      simp (disch := omega) only [↓aI,↓zP,aD,zD,aS,simprocAttr,Tryz.facts,zA,ah,hx]
      exact ⟨rfl,Sub.set_new (am hb4)⟩
  · rw [if_neg c1] at hR hnu
    subst hR
    refine az (c := ⟨Tryz.prog,39,[(8,[0,1,0,0,0,0,0,0,0,2,0]),(1000000,[2]),(1000001,[6])],[],[]⟩) (rs := [ResultVar.cell 4 36,ResultVar.tmp 5]) Tryz.mixed Tryz.func39 rfl rfl rfl (Nat.le_of_ble_eq_true rfl) (by kernel_rfl) fun H => ?_
    simp (disch := omega) only [↓aI,↓zP,aD,zD,aS,simprocAttr,Tryz.facts]
    intro b2 hb20 hb2 b4 hb40 hb4
    have n4 := bK hb4
    simp (disch := omega) only [↓aI,↓zP,aD,zD,aS,simprocAttr,Tryz.facts,aP,n4,bH hb2 n4,ah,zA]
    first | refine CallK.p (hnu) ?_ | refine CallP.i (hnu) ?_
    simp (disch := omega) only [↓aI,↓zP,aD,zD,aS,simprocAttr,Tryz.facts,zA,ah,hx]
    intro k hk0 hk
    rw [aj hk]
    simp (disch := omega) only [↓aI,↓zP,aD,zD,aS,simprocAttr,Tryz.facts,zA,ah,hx]
    exact ⟨rfl,Sub.set_new (am hb4)⟩
end Go.Proofs.YtjlnpngaiphnmaaGreat
end
