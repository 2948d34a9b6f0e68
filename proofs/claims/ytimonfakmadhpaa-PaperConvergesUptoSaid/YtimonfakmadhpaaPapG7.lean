/-
  Several texts in one: each says what it proves.
  Conditions: none. Lemmas only.
-/
import Derived.Test.YtimonfakmadhpaaPapG1
import Derived.Test.YtimonfakmadhpaaFugTys
import Derived.Test.YtimonfakmadhpaaPapG6
set_option linter.all false
section
set_option maxRecDepth 20000
namespace Go.Proofs.Ytimonfakmadhpaa
open Go Go.Abs Go.Proofs Go.Fug
abbrev IdX := Int × Int × Unit
abbrev InsX := IdX × IdX × Bool × Int × Unit
abbrev AncX := IdX × Bool × Unit
abbrev MkX := Int × Int × AncX × AncX × Int × Int × Unit
abbrev OpX := Int × InsX × IdX × MkX × Unit
abbrev idOf (x : IdX) : EId := (x.1,x.2.1)
abbrev insOf (x : InsX) : Ins := ⟨idOf x.1,idOf x.2.1,x.2.2.1,x.2.2.2.1⟩
abbrev mkOf (x : MkX) : Mk := ⟨x.1,x.2.1,idOf x.2.2.1.1,x.2.2.1.2.1,idOf x.2.2.2.1.1,x.2.2.2.1.2.1,x.2.2.2.2.1,x.2.2.2.2.2.1⟩
abbrev opOf (x : OpX) : Opn := ⟨x.1,insOf x.2.1,idOf x.2.2.1,mkOf x.2.2.2.1⟩
theorem op_enc (x : OpX) : Try.ty84.enc x = opC (opOf x) := by
  obtain ⟨k,⟨⟨a,c,⟨⟩⟩,⟨pa,pc,⟨⟩⟩,ri,ru,⟨⟩⟩,⟨d1,d2,⟨⟩⟩,⟨mc,ma,⟨⟨f1,f2,⟨⟩⟩,fb,⟨⟩⟩,⟨⟨t1,t2,⟨⟩⟩,tb,⟨⟩⟩,n,v,⟨⟩⟩,⟨⟩⟩ := x
  rfl
theorem ops_enc (l : List OpX) : l.flatMap Try.ty84.enc = dL (l.map opOf) := by
  induction l with
  | nil => rfl
  | cons x l ih =>
    rw [List.flatMap_cons,ih,op_enc]
    rfl
end Go.Proofs.Ytimonfakmadhpaa
end
section
set_option linter.unusedSimpArgs false
set_option linter.unusedVariables false
set_option maxRecDepth 8000
set_option maxHeartbeats 4000000
namespace Go.Proofs.Ytimonfakmadhpaa
open Go Go.Abs Go.Proofs Go.Fug
end Go.Proofs.Ytimonfakmadhpaa
end
section
set_option linter.unusedSimpArgs false
set_option linter.unusedVariables false
set_option maxRecDepth 8000
set_option maxHeartbeats 4000000
namespace Go.Proofs.Ytimonfakmadhpaa
open Go Go.Abs Go.Proofs Go.Fug
theorem same_pure (l m : List Opn) (hl : l.length ≤ 3000000) (hm : m.length ≤ 3000000) : APure Try.prog 38 [opsV l,opsV m] (.sc (.bool (decide (l = m)))) := by
  have hlc := cq l
  have hmc := cq m
  generalize hB : decide (l = m) = B
  refine az (c := ⟨Try.prog,26,[(6,[0,0,0,1,0,0,0,1,0])],[],[]⟩) (rs := [ResultVar.tmp 4]) Try.mixed Try.func38 rfl rfl rfl (Nat.le_of_ble_eq_true rfl) (by kernel_rfl) fun H => ?_
  by_cases hlen : l.length = m.length
  · simp (disch := omega) only [↓aI,aD,aG,ixA,aX,aV,ag,aT,ae,mkA,ab,bnd,aS,aH,aK,cvO,aJ,aY,↓aO,aW,aE,aF,aM,aA,aC,aB,aN,ad,frz,aR,aL,AV.cellsOf,AV.fine,AV.one,aQ,indexK.aggOf,simprocAttr,aZ,aU,Try.facts,dT,dF,qT,qF,nT,nF,Bool.false_and,Bool.and_false]
    refine br (c := ⟨Try.prog,26,[(6,[0,0,0,1,0,0,0,1,0])],[],[]⟩) Try.mixed (by kernel_rfl) (fun mm σ H' => H' = H ∧ ∃ i,i + mm = l.length ∧ l.take i = m.take i ∧ σ 0 = opsV l ∧ σ 1 = opsV m ∧ σ 5 = .sc (.int .i64 (i : Nat))) l.length ?_ ?_
    · refine ⟨rfl,0,by omega,by simp,?_⟩
      simp (disch := omega) only [↓aI,aD,aG,ixA,aX,aV,ag,aT,ae,mkA,ab,bnd,aS,aH,aK,cvO,aJ,aY,↓aO,aW,aE,aF,aM,aA,aC,aB,aN,ad,frz,aR,aL,AV.cellsOf,AV.fine,AV.one,aQ,indexK.aggOf,simprocAttr,aZ,aU,Try.facts]
    · rintro mm σ H' ⟨rfl,i,him,htk,s0,s1,s5⟩
      by_cases hlt : i < l.length
      · have hlt2 : i < m.length := by omega
        have hld := opsC_load hlt
        have hld2 := opsC_load hlt2
        have hle : i * 19 + 19 ≤ l.length * 19 := by omega
        have hle2 : i * 19 + 19 ≤ m.length * 19 := by omega
        have ht1 := List.take_succ_eq_append_getElem hlt
        have ht2 := List.take_succ_eq_append_getElem hlt2
        have hne : l[i] ≠ m[i] → l ≠ m := fun h e => h (by subst e; rfl)
        generalize l[i] = q at *
        generalize m[i] = w at *
        obtain ⟨kd,⟨⟨a,c⟩,⟨pa,pc⟩,ri,ru⟩,⟨x,y⟩,⟨mc,ma,⟨g1,g2⟩,fb,⟨t1,t2⟩,tb,nm,vl⟩⟩ := q
        obtain ⟨kd',⟨⟨a',c'⟩,⟨pa',pc'⟩,ri',ru'⟩,⟨x',y'⟩,⟨mc',ma',⟨g1',g2'⟩,fb',⟨t1',t2'⟩,tb',nm',vl'⟩⟩ := w
        simp only [opC] at hld hld2
        have he := eq_op kd kd' a a' c c' pa pa' pc pc' ri ri' ru ru' x x' y y' mc mc' ma ma' g1 g1' g2 g2' fb fb' t1 t1' t2 t2' tb tb' nm nm' vl vl'
        by_cases hq : (⟨kd,⟨(a,c),(pa,pc),ri,ru⟩,(x,y),⟨mc,ma,(g1,g2),fb,(t1,t2),tb,nm,vl⟩⟩ : Opn) = ⟨kd',⟨(a',c'),(pa',pc'),ri',ru'⟩,(x',y'),⟨mc',ma',(g1',g2'),fb',(t1',t2'),tb',nm',vl'⟩⟩
        · rw [decide_eq_true hq] at he
          simp (disch := omega) only [↓aI,aD,aG,ixA,aX,aV,ag,aT,ae,mkA,ab,bnd,aS,aH,aK,cvO,aJ,aY,↓aO,aW,aE,aF,aM,aA,aC,aB,aN,ad,frz,aR,aL,AV.cellsOf,AV.fine,AV.one,aQ,indexK.aggOf,simprocAttr,aZ,aU,Try.facts,s0,s1,s5,dT,dF,qT,qF,nT,nF,Bool.false_and,Bool.and_false,hld,hle,hlc,hld2,hle2,hmc,he]
          exact ⟨mm - 1,by omega,i + 1,by omega,by rw [ht1,ht2,htk,hq],rfl⟩
        · rw [decide_eq_false hq] at he
          have hB2 : B = false := by rw [← hB]; exact decide_eq_false (hne hq)
          subst hB2
          simp (disch := omega) only [↓aI,aD,aG,ixA,aX,aV,ag,aT,ae,mkA,ab,bnd,aS,aH,aK,cvO,aJ,aY,↓aO,aW,aE,aF,aM,aA,aC,aB,aN,ad,frz,aR,aL,AV.cellsOf,AV.fine,AV.one,aQ,indexK.aggOf,simprocAttr,aZ,aU,Try.facts,s0,s1,s5,dT,dF,qT,qF,nT,nF,Bool.false_and,Bool.and_false,hld,hle,hlc,hld2,hle2,hmc,he]
          exact Abs.Sub.refl _
      · obtain rfl : i = l.length := by omega
        rw [List.take_length,hlen,List.take_length] at htk
        have hB2 : B = true := by rw [← hB]; exact decide_eq_true htk
        subst hB2
        simp (disch := omega) only [↓aI,aD,aG,ixA,aX,aV,ag,aT,ae,mkA,ab,bnd,aS,aH,aK,cvO,aJ,aY,↓aO,aW,aE,aF,aM,aA,aC,aB,aN,ad,frz,aR,aL,AV.cellsOf,AV.fine,AV.one,aQ,indexK.aggOf,simprocAttr,aZ,aU,Try.facts,s0,s1,s5,dT,dF,qT,qF,nT,nF,Bool.false_and,Bool.and_false]
        exact Abs.Sub.refl _
  · have hB2 : B = false := by rw [← hB]; exact decide_eq_false (fun e => hlen (by rw [e]))
    subst hB2
    simp (disch := omega) only [↓aI,aD,aG,ixA,aX,aV,ag,aT,ae,mkA,ab,bnd,aS,aH,aK,cvO,aJ,aY,↓aO,aW,aE,aF,aM,aA,aC,aB,aN,ad,frz,aR,aL,AV.cellsOf,AV.fine,AV.one,aQ,indexK.aggOf,simprocAttr,aZ,aU,Try.facts,dT,dF,qT,qF,nT,nF,Bool.false_and,Bool.and_false]
    exact Abs.Sub.refl _
end Go.Proofs.Ytimonfakmadhpaa
end
