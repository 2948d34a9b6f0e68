/-
  Several texts in one: each says what it proves.
  Conditions: none. Lemmas only.
-/
import Derived.Test.YtcgjlmopeblapaaGreatPapGA
import Derived.Test.YtcgjlmopeblapaaGreatPapG9
import Derived.Test.YtcgjlmopeblapaaGreatPapGB
set_option linter.all false
section
set_option linter.unusedSimpArgs false
set_option linter.unusedVariables false
set_option maxRecDepth 8000
set_option maxHeartbeats 1000000
namespace Go.Proofs.YtcgjlmopeblapaaGreat
open Go Go.Abs Go.Proofs Go.Fug
theorem last_pos {l : List Mk} (g : GoodM l) : 0 ≤ lastM l := by
  unfold lastM
  cases h : l.getLast? with
  | none => exact Int.le_refl _
  | some m =>
    have := g.ok m (List.mem_of_getLast? h)
    unfold cQ at this
    simp only [Bool.and_eq_true,decide_eq_true_eq] at this
    simp only []
    omega
theorem last_le {l : List Mk} (g : GoodM l) : lastM l ≤ 1099511627776 := by
  unfold lastM
  cases h : l.getLast? with
  | none => decide
  | some m =>
    have := g.ok m (List.mem_of_getLast? h)
    unfold cQ at this
    simp only [Bool.and_eq_true,decide_eq_true_eq] at this
    simp only []
    omega
abbrev opM (m : Mk) : Opn := ⟨3,cj,(0,0),m⟩
def paintM (s : PS) (a n : Nat) (name value author : Int) : Mk := ⟨lastM s.l + 1,author,(((live (bF s.L s.G))[a]?).map (·.id)).getD bL,false,(((live (bF s.L s.G))[a + n - 1]?).map (·.id)).getD bL,true,name,value⟩
end Go.Proofs.YtcgjlmopeblapaaGreat
end
section
set_option linter.unusedSimpArgs false
set_option linter.unusedVariables false
set_option maxRecDepth 8000
set_option maxHeartbeats 4000000
namespace Go.Proofs.YtcgjlmopeblapaaGreat
open Go Go.Abs Go.Proofs Go.Fug
def paintP (s : PS) (a n name value author : Int) : List Opn × Int :=
  if withinP s a n = false ∨ n = 0 then ([],6)
  else if lastM s.l = 1099511627776 then ([],14)
  else if cQ (paintM s a.toNat n.toNat name value author) = false then ([],1)
  else ([opM (paintM s a.toNat n.toNat name value author)],0)
theorem paint_live (B H : AH) (h : PH) (s : PS) (a n name value author : Int) (p : IsP B H h s) (hh : h.p ≠ 0) : ACalls Tryz.prog 12 [.ptr h.p 0,.sc (.int .i64 a),.sc (.int .i64 n),.sc (.int .i64 name),.sc (.int .i64 value),.sc (.int .i64 author)] H fun v H' => v = .tup [opsV (paintP s a n name value author).1,.sc (.int .i64 (paintP s a n name value author).2)] ∧ Abs.Sub H H' := by
  have hw := within_live B H h s a n p hh
  obtain ⟨wv,vp,-⟩ := p.pw
  have hls := p.t.small
  have hR : paintP s a n name value author = if withinP s a n = false ∨ n = 0 then ([],6) else if lastM s.l = 1099511627776 then ([],14) else if cQ (paintM s a.toNat n.toNat name value author) = false then ([],1) else ([opM (paintM s a.toNat n.toNat name value author)],0) := rfl
  have hat := fun H' i t => at_live H' h.t h.mt s.L s.G i t
  have hll : (live (bF s.L s.G)).length = s.L.length - s.G.length := live_len p.t.g p.t.gs p.t.gn
  have hla := fun H' hi => last_live H' h.b s.l hi p.g.small
  have hlp := last_pos p.g
  have hlu := last_le p.g
  generalize paintP s a n name value author = R at *
  by_cases hbad : withinP s a n = false ∨ n = 0
  · rw [if_pos hbad] at hR
    subst hR
    cases hwv : withinP s a n
    · rw [hwv] at hw
      refine ao (c := ⟨Tryz.prog,75,[(7,[0,0,0,0,2,0,0,0,0,0,0,0,0,0,2,2]),(1000005,[14]),(1000006,[16]),(1000007,[18]),(4000010,[12,13]),(4000007,[18]),(4000006,[0,3,4,5,14,16]),(4000005,[0,1,2,3,4,5,14]),(4000003,[0,1,2,3,4,5,33]),(4000001,[0,1,2,3,4,5,27])],[],[(7,(.op 0 0 (.op 1 0 (.op 2 0 (.op 6 0 (.op 7 0 (.op 8 0 (.op 9 0 (.op 10 0 (.op 11 0 (.op 12 0 (.or (.op 3 2 (.or (.op 4 2 (.op 5 0 (.op 13 0 (.op 14 2 (.op 15 2 .nil))))) (.op 14 2 (.op 4 2 (.op 5 0 (.op 13 0 (.op 15 2 .nil))))))) (.op 14 2 (.op 3 2 (.op 4 2 (.op 5 0 (.op 13 0 (.op 15 2 .nil))))))))))))))))))]⟩) (rs := [ResultVar.tmp 12,ResultVar.tmp 13]) Tryz.mixed Tryz.func12 rfl rfl rfl (Nat.le_of_ble_eq_true rfl) (by kernel_rfl) ?_
      simp (disch := omega) only [↓aI,↓zP,aD,zD,aS,simprocAttr,Tryz.facts,zA,hh]
      refine CallK.i hw ?_
      rintro v E ⟨rfl,rfl⟩
      simp (disch := omega) only [↓aI,↓zP,aD,zD,aS,simprocAttr,Tryz.facts,zA]
      exact ⟨_,rfl,_,Abs.Sub.refl _,rfl,Abs.Sub.refl _⟩
    · rw [hwv] at hw hbad
      have hn0 : n = 0 := by simpa using hbad
      refine ao (c := ⟨Tryz.prog,75,[(7,[0,0,0,0,2,0,0,0,0,0,0,0,0,0,2,2]),(1000005,[14]),(1000006,[16]),(1000007,[18]),(4000010,[12,13]),(4000007,[18]),(4000006,[0,3,4,5,14,16]),(4000005,[0,1,2,3,4,5,14]),(4000003,[0,1,2,3,4,5,33]),(4000001,[0,1,2,3,4,5,27])],[],[(7,(.op 0 0 (.op 1 0 (.op 2 0 (.op 6 0 (.op 7 0 (.op 8 0 (.op 9 0 (.op 10 0 (.op 11 0 (.op 12 0 (.or (.op 3 2 (.or (.op 4 2 (.op 5 0 (.op 13 0 (.op 14 2 (.op 15 2 .nil))))) (.op 14 2 (.op 4 2 (.op 5 0 (.op 13 0 (.op 15 2 .nil))))))) (.op 14 2 (.op 3 2 (.op 4 2 (.op 5 0 (.op 13 0 (.op 15 2 .nil))))))))))))))))))]⟩) (rs := [ResultVar.tmp 12,ResultVar.tmp 13]) Tryz.mixed Tryz.func12 rfl rfl rfl (Nat.le_of_ble_eq_true rfl) (by kernel_rfl) ?_
      simp (disch := omega) only [↓aI,↓zP,aD,zD,aS,simprocAttr,Tryz.facts,zA,hh]
      refine CallK.i hw ?_
      rintro v E ⟨rfl,rfl⟩
      simp (disch := omega) only [↓aI,↓zP,aD,zD,aS,simprocAttr,Tryz.facts,zA,hn0]
      exact ⟨_,rfl,_,Abs.Sub.refl _,rfl,Abs.Sub.refl _⟩
  · rw [if_neg hbad] at hR
    have hwv : withinP s a n = true := by
      cases e : withinP s a n
      · exact absurd (.inl e) hbad
      · rfl
    have hn0 : n ≠ 0 := fun e => hbad (.inr e)
    rw [hwv] at hw
    unfold withinP at hwv
    simp only [decide_eq_true_eq] at hwv
    obtain ⟨c1,c2,c3,c4⟩ := hwv
    obtain ⟨i,rfl⟩ : ∃ i : Nat,a = (i : Int) := ⟨a.toNat,by omega⟩
    obtain ⟨q,rfl⟩ : ∃ q : Nat,n = (q : Int) := ⟨n.toNat,by omega⟩
    simp only [Int.toNat_natCast] at hR
    have hlaB := hla _ p.b
    have hc : (paintM s i q name value author) = ⟨lastM s.l + 1,author,(((live (bF s.L s.G))[i]?).map (·.id)).getD bL,false,(((live (bF s.L s.G))[i + q - 1]?).map (·.id)).getD bL,true,name,value⟩ := rfl
    have hA1 := hat H (i : Int) p.t
    have hA2 := hat H ((i : Int) + (q : Int) - 1) p.t
    have e1 : atL (bF s.L s.G) (i : Int) = ((((live (bF s.L s.G))[i]?).map (·.id)).getD bL,0) := by
      unfold atL
      rw [if_pos (by omega),Int.toNat_natCast]
    have e2 : atL (bF s.L s.G) ((i : Int) + (q : Int) - 1) = ((((live (bF s.L s.G))[i + q - 1]?).map (·.id)).getD bL,0) := by
      unfold atL
      rw [if_pos (by omega),show ((i : Int) + (q : Int) - 1).toNat = i + q - 1 by omega]
    rw [e1] at hA1
    rw [e2,show (i : Int) + (q : Int) - 1 = ((i + q - 1 : Nat) : Int) by omega] at hA2
    generalize (((live (bF s.L s.G))[i]?).map (·.id)).getD bL = x at *
    generalize (((live (bF s.L s.G))[i + q - 1]?).map (·.id)).getD bL = y at *
    generalize paintM s i q name value author = M at *
    subst hc
    have hmr := mright_pure ⟨lastM s.l + 1,author,x,false,y,true,name,value⟩
    generalize hrm : cQ ⟨lastM s.l + 1,author,x,false,y,true,name,value⟩ = rm at *
    obtain ⟨x1,x2⟩ := x
    obtain ⟨y1,y2⟩ := y
    simp only [mkC] at hmr
    generalize hlm : lastM s.l = lm at *
    by_cases hbig : lm = 1099511627776
    · rw [if_pos hbig] at hR
      subst hR
      refine ao (c := ⟨Tryz.prog,75,[(7,[0,0,0,0,2,0,0,0,0,0,0,0,0,0,2,2]),(1000005,[14]),(1000006,[16]),(1000007,[18]),(4000010,[12,13]),(4000007,[18]),(4000006,[0,3,4,5,14,16]),(4000005,[0,1,2,3,4,5,14]),(4000003,[0,1,2,3,4,5,33]),(4000001,[0,1,2,3,4,5,27])],[],[(7,(.op 0 0 (.op 1 0 (.op 2 0 (.op 6 0 (.op 7 0 (.op 8 0 (.op 9 0 (.op 10 0 (.op 11 0 (.op 12 0 (.or (.op 3 2 (.or (.op 4 2 (.op 5 0 (.op 13 0 (.op 14 2 (.op 15 2 .nil))))) (.op 14 2 (.op 4 2 (.op 5 0 (.op 13 0 (.op 15 2 .nil))))))) (.op 14 2 (.op 3 2 (.op 4 2 (.op 5 0 (.op 13 0 (.op 15 2 .nil))))))))))))))))))]⟩) (rs := [ResultVar.tmp 12,ResultVar.tmp 13]) Tryz.mixed Tryz.func12 rfl rfl rfl (Nat.le_of_ble_eq_true rfl) (by kernel_rfl) ?_
      simp (disch := omega) only [↓aI,↓zP,aD,zD,aS,simprocAttr,Tryz.facts,zA,hh]
      refine CallK.i hw ?_
      rintro v E ⟨rfl,rfl⟩
      simp (disch := omega) only [↓aI,↓zP,aD,zD,aS,simprocAttr,Tryz.facts,zA,vp]
      refine CallK.i hlaB ?_
      rintro v E ⟨rfl,hE⟩
      subst hE
      simp (disch := omega) only [↓aI,↓zP,aD,zD,aS,simprocAttr,Tryz.facts,zA,hbig]
      exact ⟨_,rfl,_,Abs.Sub.refl _,rfl,Abs.Sub.refl _⟩
    · rw [if_neg hbig] at hR
      refine ao (c := ⟨Tryz.prog,75,[(7,[0,0,0,0,2,0,0,0,0,0,0,0,0,0,2,2]),(1000005,[14]),(1000006,[16]),(1000007,[18]),(4000010,[12,13]),(4000007,[18]),(4000006,[0,3,4,5,14,16]),(4000005,[0,1,2,3,4,5,14]),(4000003,[0,1,2,3,4,5,33]),(4000001,[0,1,2,3,4,5,27])],[],[(7,(.op 0 0 (.op 1 0 (.op 2 0 (.op 6 0 (.op 7 0 (.op 8 0 (.op 9 0 (.op 10 0 (.op 11 0 (.op 12 0 (.or (.op 3 2 (.or (.op 4 2 (.op 5 0 (.op 13 0 (.op 14 2 (.op 15 2 .nil))))) (.op 14 2 (.op 4 2 (.op 5 0 (.op 13 0 (.op 15 2 .nil))))))) (.op 14 2 (.op 3 2 (.op 4 2 (.op 5 0 (.op 13 0 (.op 15 2 .nil))))))))))))))))))]⟩) (rs := [ResultVar.tmp 12,ResultVar.tmp 13]) Tryz.mixed Tryz.func12 rfl rfl rfl (Nat.le_of_ble_eq_true rfl) (by kernel_rfl) ?_
      simp (disch := omega) only [↓aI,↓zP,aD,zD,aS,simprocAttr,Tryz.facts,zA,hh]
      refine CallK.i hw ?_
      rintro v E ⟨rfl,rfl⟩
      simp (disch := omega) only [↓aI,↓zP,aD,zD,aS,simprocAttr,Tryz.facts,zA,vp]
      refine CallK.i hlaB ?_
      rintro v E ⟨rfl,hE⟩
      subst hE
      simp (disch := omega) only [↓aI,↓zP,aD,zD,aS,simprocAttr,Tryz.facts,zA,vp]
      refine CallK.i hA1 ?_
      rintro v E ⟨rfl,hE⟩
      subst hE
      simp (disch := omega) only [↓aI,↓zP,aD,zD,aS,simprocAttr,Tryz.facts,zA]
      intro b14 hb140 hb14
      try simp (disch := omega) only [↓aI,↓zP,aD,zD,aS,simprocAttr,Tryz.facts,zA,aj hb14,ah,vp]
      refine CallK.i hA2 ?_
      rintro v E ⟨rfl,hE⟩
      subst hE
      simp (disch := omega) only [↓aI,↓zP,aD,zD,aS,simprocAttr,Tryz.facts,zA]
      intro b16 hb160 hb16
      try simp (disch := omega) only [↓aI,↓zP,aD,zD,aS,simprocAttr,Tryz.facts,zA,aj hb16,ah,vp]
      refine eI (fun σ F => ∃ b,F = E.set b (.cells [.sc (.int .i64 (lm + 1)),.sc (.int .i64 author),.sc (.int .i64 x1),.sc (.int .i64 x2),.sc (.bool false),.sc (.int .i64 y1),.sc (.int .i64 y2),.sc (.bool true),.sc (.int .i64 name),.sc (.int .i64 value)] 56 10) ∧ E b = none ∧ σ 18 = .ptr b 0) ?_ ?_
      · simp (disch := omega) only [↓aI,↓zP,aD,zD,aS,simprocAttr,Tryz.facts,zA,vp,ah]
        refine ⟨⟨?_,?_⟩,?_⟩
        · refine CallK.i hlaB ?_
          rintro v E2 ⟨rfl,hE⟩
          subst hE
          simp (disch := omega) only [↓aI,↓zP,aD,zD,aS,simprocAttr,Tryz.facts,zA,vp,ah]
          intro b18 hb180 hb18
          exact ⟨b18,rfl,hb18,rfl⟩
        · intro b18 hb180 hb18
          have pb := p.b
          have nb : ¬ h.b = b18 := bA pb hb18
          refine CallK.i (hla _ (by rw [aP nb]; exact pb)) ?_
          rintro v E2 ⟨rfl,hE⟩
          subst hE
          simp (disch := omega) only [↓aI,↓zP,aD,zD,aS,simprocAttr,Tryz.facts,zA,vp,ah,set_get,set_set]
          exact ⟨b18,rfl,hb18,rfl⟩
        · intro b18 hb180 hb18
          have pb := p.b
          have nb : ¬ h.b = b18 := bA pb hb18
          have np : ¬ h.p = b18 := bA vp hb18
          have vp' := fun o => (show (E.set b18 o) h.p = some (papO h wv) by rw [aP np]; exact vp)
          simp (disch := omega) only [↓aI,↓zP,aD,zD,aS,simprocAttr,Tryz.facts,zA,vp',ah]
          refine CallK.i (hla _ (by rw [aP nb]; exact pb)) ?_
          rintro v E2 ⟨rfl,hE⟩
          subst hE
          simp (disch := omega) only [↓aI,↓zP,aD,zD,aS,simprocAttr,Tryz.facts,zA,vp,ah,set_get,set_set]
          exact ⟨b18,rfl,hb18,rfl⟩
      · rintro σ F ⟨b,rfl,hb,s18⟩
        simp (disch := omega) only [↓aI,↓zP,aD,zD,aS,simprocAttr,Tryz.facts,s18,zA,aj hb]
        cases rm
        · rw [if_pos rfl] at hR
          subst hR
          first | refine CallK.p (hmr) ?_ | refine CallP.i (hmr) ?_
          simp (disch := omega) only [↓aI,↓zP,aD,zD,aS,simprocAttr,Tryz.facts,s18,zA]
          exact ⟨_,rfl,_,Abs.Sub.refl _,rfl,Abs.Sub.refl _⟩
        · rw [if_neg (by simp)] at hR
          subst hR
          first | refine CallK.p (hmr) ?_ | refine CallP.i (hmr) ?_
          simp (disch := omega) only [↓aI,↓zP,aD,zD,aS,simprocAttr,Tryz.facts,s18,zA]
          exact ⟨_,rfl,_,Abs.Sub.refl _,rfl,Abs.Sub.refl _⟩
end Go.Proofs.YtcgjlmopeblapaaGreat
end
