/-
  PaperTexts: the walk, and the call, of the arguments as they are read.
  Conditions: none. Lemmas only.
-/
import Derived.Test.YtimonfakmadhpaaPapGB
import Derived.Test.YtimonfakmadhpaaPapG4
import Derived.Test.YtimonfakmadhpaaPapGA
set_option linter.all false
set_option linter.unusedSimpArgs false
set_option linter.unusedVariables false
set_option maxRecDepth 20000
set_option maxHeartbeats 8000000
namespace Go.Proofs.Ytimonfakmadhpaa
open Go Go.Abs Go.Proofs Go.Fug
theorem texts_walk (l : List (List Opn)) (hl : l.length ≤ 1100000) : APure Try.prog 5 [opssV l] (.sc (.bool true)) := by
  have haw := awake_pure
  have hsp := small_pure l (by omega)
  have hml : (l.map opsV).length = l.length := by simp
  cases hsm : smallB l
  · rw [hsm] at hsp
    refine az (c := ⟨Try.prog,54,[(10,[0,2,0,0,0,0,0,2,0,0,0,0,0,0,0,2,0,2,0,0,0]),(1000009,[7])],[],[(10,(.op 0 0 (.op 2 0 (.op 1 2 (.op 3 0 (.op 4 0 (.op 5 0 (.op 6 0 (.op 8 0 (.op 7 2 (.op 9 0 (.op 10 0 (.op 11 0 (.op 12 0 (.op 13 0 (.op 14 0 (.or (.op 15 2 (.op 16 2 (.op 17 2 (.op 18 0 (.op 19 0 (.op 20 0 .nil)))))) (.op 16 2 (.op 15 2 (.op 17 2 (.op 18 0 (.op 19 0 (.op 20 0 .nil)))))))))))))))))))))))]⟩) (rs := [ResultVar.tmp 2]) Try.mixed Try.func5 rfl rfl rfl (Nat.le_of_ble_eq_true rfl) (by kernel_rfl) fun H => ?_
    simp (disch := omega) only [↓aI,aD,aG,ixA,aX,aV,ag,aT,ae,mkA,ab,bnd,aS,aH,aK,cvO,aJ,aY,↓aO,aW,aE,aF,aM,aA,aC,aB,aN,ad,frz,aR,aL,AV.cellsOf,AV.fine,AV.one,aQ,indexK.aggOf,simprocAttr,aZ,aU,Try.facts,dT,dF,qT,qF,nT,nF,Bool.false_and,Bool.and_false]
    first | refine CallK.p (hsp) ?_ | refine CallP.i (hsp) ?_
    simp (disch := omega) only [↓aI,aD,aG,ixA,aX,aV,ag,aT,ae,mkA,ab,bnd,aS,aH,aK,cvO,aJ,aY,↓aO,aW,aE,aF,aM,aA,aC,aB,aN,ad,frz,aR,aL,AV.cellsOf,AV.fine,AV.one,aQ,indexK.aggOf,simprocAttr,aZ,aU,Try.facts,dT,dF,qT,qF,nT,nF,Bool.false_and,Bool.and_false]
    first | refine CallK.p (haw) ?_ | refine CallP.i (haw) ?_
    simp (disch := omega) only [↓aI,aD,aG,ixA,aX,aV,ag,aT,ae,mkA,ab,bnd,aS,aH,aK,cvO,aJ,aY,↓aO,aW,aE,aF,aM,aA,aC,aB,aN,ad,frz,aR,aL,AV.cellsOf,AV.fine,AV.one,aQ,indexK.aggOf,simprocAttr,aZ,aU,Try.facts,dT,dF,qT,qF,nT,nF,Bool.false_and,Bool.and_false]
    exact Abs.Sub.refl _
  · rw [hsm] at hsp
    have hs0 := smallF_sum l 0 (by simpa [smallB] using hsm)
    have hnew := pnew_live
    refine az (c := ⟨Try.prog,54,[(10,[0,2,0,0,0,0,0,2,0,0,0,0,0,0,0,2,0,2,0,0,0]),(1000009,[7])],[],[(10,(.op 0 0 (.op 2 0 (.op 1 2 (.op 3 0 (.op 4 0 (.op 5 0 (.op 6 0 (.op 8 0 (.op 7 2 (.op 9 0 (.op 10 0 (.op 11 0 (.op 12 0 (.op 13 0 (.op 14 0 (.or (.op 15 2 (.op 16 2 (.op 17 2 (.op 18 0 (.op 19 0 (.op 20 0 .nil)))))) (.op 16 2 (.op 15 2 (.op 17 2 (.op 18 0 (.op 19 0 (.op 20 0 .nil)))))))))))))))))))))))]⟩) (rs := [ResultVar.tmp 2]) Try.mixed Try.func5 rfl rfl rfl (Nat.le_of_ble_eq_true rfl) (by kernel_rfl) fun H => ?_
    simp (disch := omega) only [↓aI,aD,aG,ixA,aX,aV,ag,aT,ae,mkA,ab,bnd,aS,aH,aK,cvO,aJ,aY,↓aO,aW,aE,aF,aM,aA,aC,aB,aN,ad,frz,aR,aL,AV.cellsOf,AV.fine,AV.one,aQ,indexK.aggOf,simprocAttr,aZ,aU,Try.facts,dT,dF,qT,qF,nT,nF,Bool.false_and,Bool.and_false]
    first | refine CallK.p (hsp) ?_ | refine CallP.i (hsp) ?_
    simp (disch := omega) only [↓aI,aD,aG,ixA,aX,aV,ag,aT,ae,mkA,ab,bnd,aS,aH,aK,cvO,aJ,aY,↓aO,aW,aE,aF,aM,aA,aC,aB,aN,ad,frz,aR,aL,AV.cellsOf,AV.fine,AV.one,aQ,indexK.aggOf,simprocAttr,aZ,aU,Try.facts,dT,dF,qT,qF,nT,nF,Bool.false_and,Bool.and_false]
    refine CallK.i (hnew _) ?_
    rintro v H1 ⟨h,rfl,hh0,p⟩
    simp (disch := omega) only [↓aI,aD,aG,ixA,aX,aV,ag,aT,ae,mkA,ab,bnd,aS,aH,aK,cvO,aJ,aY,↓aO,aW,aE,aF,aM,aA,aC,aB,aN,ad,frz,aR,aL,AV.cellsOf,AV.fine,AV.one,aQ,indexK.aggOf,simprocAttr,aZ,aU,Try.facts]
    intro b6 hb60 hb6
    have hB0 := p.sub.free hb6
    try simp (disch := omega) only [↓aI,aD,aG,ixA,aX,aV,ag,aT,ae,mkA,ab,bnd,aS,aH,aK,cvO,aJ,aY,↓aO,aW,aE,aF,aM,aA,aC,aB,aN,ad,frz,aR,aL,AV.cellsOf,AV.fine,AV.one,aQ,indexK.aggOf,simprocAttr,aZ,aU,Try.facts,ah,hml]
    refine nil_t b6 0 set_get rfl ?_
    have p0 := p.box (.cells [opsV []] 30 1) (.inl hb6)
    rw [show (H1.set b6 (.cells [.sc (.slice none 0 0)] 30 1)).set b6 (.cells ([.sc (.slice none 0 0)].set 0 (.imm 0 [] 0)) 30 1) = H1.set b6 (.cells [opsV []] 30 1) from box_twice]
    have hBn : ∀ c,Abs.Sub H (H.set b6 c) := fun c => Sub.set_new hB0
    clear p hb6
    generalize hc0 : H1.set b6 (.cells [opsV []] 30 1) = Hc at *
    refine br (c := ⟨Try.prog,54,[(10,[0,2,0,0,0,0,0,2,0,0,0,0,0,0,0,2,0,2,0,0,0]),(1000009,[7])],[],[(10,(.op 0 0 (.op 2 0 (.op 1 2 (.op 3 0 (.op 4 0 (.op 5 0 (.op 6 0 (.op 8 0 (.op 7 2 (.op 9 0 (.op 10 0 (.op 11 0 (.op 12 0 (.op 13 0 (.op 14 0 (.or (.op 15 2 (.op 16 2 (.op 17 2 (.op 18 0 (.op 19 0 (.op 20 0 .nil)))))) (.op 16 2 (.op 15 2 (.op 17 2 (.op 18 0 (.op 19 0 (.op 20 0 .nil)))))))))))))))))))))))]⟩) Try.mixed (by kernel_rfl) (fun mm σ H' => ∃ (i : Nat) (P : List Opn) (s : PS),i + mm = l.length ∧ Rel P s ∧ InvP s ∧ P.length ≤ ((l.take i).map List.length).sum ∧ IsP (H.set b6 (.cells [opsV P] 30 1)) H' h s ∧
      σ 3 = .ptr h.p 0 ∧ σ 4 = .ptr b6 0 ∧ σ 14 = opssV l ∧ σ 15 = .sc (.int .i64 (l.length : Nat)) ∧ σ 16 = .sc (.int .i64 (i : Nat))) l.length ?_ ?_
    · refine ⟨0,[],ps0,by omega,Rel.nil,InvP.nil,Nat.zero_le _,p0,?_⟩
      simp (disch := omega) only [↓aI,aD,aG,ixA,aX,aV,ag,aT,ae,mkA,ab,bnd,aS,aH,aK,cvO,aJ,aY,↓aO,aW,aE,aF,aM,aA,aC,aB,aN,ad,frz,aR,aL,AV.cellsOf,AV.fine,AV.one,aQ,indexK.aggOf,simprocAttr,aZ,aU,Try.facts]
      try rfl
    · clear p0 hc0
      rintro mm σ H' ⟨i,P,s,him,rel,inv,hPl,p,s3,s4,s14,s15,s16⟩
      have hsum : ∀ j,((l.take j).map List.length).sum ≤ 60 := fun j => by
        have e : l.take j ++ l.drop j = l := List.take_append_drop j l
        rw [← e,List.map_append,List.sum_append] at hs0
        omega
      have hs1 := hsum i
      have v6 : H' b6 = some (.cells [opsV P] 30 1) := p.sub _ _ set_get
      by_cases hlt : i < l.length
      · have hg := opss_get hlt
        have hs2 := hsum (i + 1)
        have hsm2 : ((l.take (i + 1)).map List.length).sum = ((l.take i).map List.length).sum + l[i].length := by
          rw [List.take_succ_eq_append_getElem hlt,List.map_append,List.sum_append]; simp
        have hz := rel.size
        have z2 := rdo_len P l[i]
        have rel2 := rel.do_ l[i]
        have inv2 := inv.do_ l[i] (by omega)
        generalize l[i] = q at *
        have hrd := rdo_pure P q (by omega) (by omega)
        have hqo := cq q
        have hdo := do_live _ _ h s q p (by omega) (by omega)
        generalize doP s q = DD at *
        obtain ⟨de,DS⟩ := DD
        generalize rDo P q = RR at *
        obtain ⟨re,RP⟩ := RR
        simp only at rel2 inv2 z2 hrd hdo
        obtain ⟨-,rel2⟩ := rel2
        simp (disch := omega) only [↓aI,aD,aG,ixA,aX,aV,ag,aT,ae,mkA,ab,bnd,aS,aH,aK,cvO,aJ,aY,↓aO,aW,aE,aF,aM,aA,aC,aB,aN,ad,frz,aR,aL,AV.cellsOf,AV.fine,AV.one,aQ,indexK.aggOf,simprocAttr,aZ,aU,Try.facts,s3,s4,s14,s15,s16,dT,dF,qT,qF,nT,nF,Bool.false_and,Bool.and_false,hg,hml]
        refine CallK.i hdo ?_
        rintro v H2 ⟨rfl,p2⟩
        have v62 : H2 b6 = some (.cells [opsV P] 30 1) := p2.sub _ _ set_get
        simp (disch := omega) only [↓aI,aD,aG,ixA,aX,aV,ag,aT,ae,mkA,ab,bnd,aS,aH,aK,cvO,aJ,aY,↓aO,aW,aE,aF,aM,aA,aC,aB,aN,ad,frz,aR,aL,AV.cellsOf,AV.fine,AV.one,aQ,indexK.aggOf,simprocAttr,aZ,aU,Try.facts,s3,s4,s14,s15,s16,dT,dF,qT,qF,nT,nF,Bool.false_and,Bool.and_false,hg,hml,v62]
        first | refine CallK.p (hrd) ?_ | refine CallP.i (hrd) ?_
        simp (disch := omega) only [↓aI,aD,aG,ixA,aX,aV,ag,aT,ae,mkA,ab,bnd,aS,aH,aK,cvO,aJ,aY,↓aO,aW,aE,aF,aM,aA,aC,aB,aN,ad,frz,aR,aL,AV.cellsOf,AV.fine,AV.one,aQ,indexK.aggOf,simprocAttr,aZ,aU,Try.facts,s3,s4,s14,s15,s16,dT,dF,qT,qF,nT,nF,Bool.false_and,Bool.and_false,hg,hml,v62,ah]
        have p3 := p2.box (b := b6) (.cells [opsV RP] 30 1) (.inr (by rw [set_get]; simp))
        rw [box_twice] at p3
        have hz2 := rel2.size
        have hin := (rTree_in RP).1
        have hLl := hin.le
        have hGl : (rTreeG RP).length ≤ RP.length := by
          have := rDrops_len (rTreeL RP) RP []
          simpa [rTreeG] using this
        have htr := rtree_pure RP (by omega)
        have htx2 := rtext_pure (rTreeL RP) (rTreeG RP) (by omega) (by omega) hin.g
        have hlv2 := rlive_pure (rTreeL RP) (rTreeG RP) (by omega) (by omega) hin.g
        have hrn2 := rpruns_pure RP (by omega)
        have hsame := tree_same rel2 inv2 p2.t.g p2.nd (by omega)
        have htx1 := ptext_live _ _ h DS p3
        have hln1 := plen_live _ _ h DS p3
        have hrn1 := pruns_live _ _ h DS p3 hh0
        have hll : (live (bF DS.L DS.G)).length = DS.L.length - DS.G.length := live_len p2.t.g p2.t.gs p2.t.gn
        rw [← hll] at hln1
        unfold textP at htx1
        rw [rel2.m] at hrn1
        rw [hsame] at htx1 hrn1 hln1 hll
        have hNl : (bF (rTreeL RP) (rTreeG RP)).length ≤ 4096 := by
          have h1 := nodes_sum hin.g (rTreeG RP) fun _ => 1
          simp only [List.map_const',List.sum_replicate_nat] at h1
          omega
        have hrl : (runsN (bF (rTreeL RP) (rTreeG RP)) (rMarks RP)).length ≤ 100000 := by
          unfold runsN
          rw [List.length_reverse]
          have := runsR_len (styN (bF (rTreeL RP) (rTreeG RP)) (rMarks RP)) (ixd 0 (bF (rTreeL RP) (rTreeG RP)))
          rw [ixd_length] at this
          omega
        have hsr := rsame_pure _ _ hrl hrl
        rw [decide_eq_true rfl] at hsr
        have hnc := c7 (live (bF (rTreeL RP) (rTreeG RP)))
        generalize runsN (bF (rTreeL RP) (rTreeG RP)) (rMarks RP) = RN at *
        generalize cW (live (bF (rTreeL RP) (rTreeG RP))) = TX at *
        generalize live (bF (rTreeL RP) (rTreeG RP)) = LV at *
        first | refine CallK.p (htr) ?_ | refine CallP.i (htr) ?_
        simp (disch := omega) only [↓aI,aD,aG,ixA,aX,aV,ag,aT,ae,mkA,ab,bnd,aS,aH,aK,cvO,aJ,aY,↓aO,aW,aE,aF,aM,aA,aC,aB,aN,ad,frz,aR,aL,AV.cellsOf,AV.fine,AV.one,aQ,indexK.aggOf,simprocAttr,aZ,aU,Try.facts,s3,s4,s14,s15,s16,dT,dF,qT,qF,nT,nF,Bool.false_and,Bool.and_false,hg,hml]
        intro b7 hb70 hb7
        try simp (disch := omega) only [↓aI,aD,aG,ixA,aX,aV,ag,aT,ae,mkA,ab,bnd,aS,aH,aK,cvO,aJ,aY,↓aO,aW,aE,aF,aM,aA,aC,aB,aN,ad,frz,aR,aL,AV.cellsOf,AV.fine,AV.one,aQ,indexK.aggOf,simprocAttr,aZ,aU,Try.facts,s3,s4,s14,s15,s16,dT,dF,qT,qF,nT,nF,Bool.false_and,Bool.and_false,hg,hml,aj hb7,ah]
        have v63 : (H2.set b6 (.cells [opsV RP] 30 1)) b6 = some (.cells [opsV RP] 30 1) := set_get
        refine eI (fun σ F => F = H2.set b6 (.cells [opsV RP] 30 1) ∧ σ 3 = .ptr h.p 0 ∧ σ 4 = .ptr b6 0 ∧ σ 14 = opssV l ∧ σ 15 = .sc (.int .i64 (l.length : Nat)) ∧ σ 16 = .sc (.int .i64 (i : Nat)) ∧ σ 51 = .sc (.bool false)) ?_ ?_
        · simp (disch := omega) only [↓aI,aD,aG,ixA,aX,aV,ag,aT,ae,mkA,ab,bnd,aS,aH,aK,cvO,aJ,aY,↓aO,aW,aE,aF,aM,aA,aC,aB,aN,ad,frz,aR,aL,AV.cellsOf,AV.fine,AV.one,aQ,indexK.aggOf,simprocAttr,aZ,aU,Try.facts,s3,s4,s14,s15,s16,dT,dF,qT,qF,nT,nF,Bool.false_and,Bool.and_false,ah]
          refine CallK.i htx1 ?_
          rintro v E ⟨rfl,hE⟩
          subst hE
          simp (disch := omega) only [↓aI,aD,aG,ixA,aX,aV,ag,aT,ae,mkA,ab,bnd,aS,aH,aK,cvO,aJ,aY,↓aO,aW,aE,aF,aM,aA,aC,aB,aN,ad,frz,aR,aL,AV.cellsOf,AV.fine,AV.one,aQ,indexK.aggOf,simprocAttr,aZ,aU,Try.facts,s3,s4,s14,s15,s16,dT,dF,qT,qF,nT,nF,Bool.false_and,Bool.and_false,ah]
          first | refine CallK.p (htx2) ?_ | refine CallP.i (htx2) ?_
          simp (disch := omega) only [↓aI,aD,aG,ixA,aX,aV,ag,aT,ae,mkA,ab,bnd,aS,aH,aK,cvO,aJ,aY,↓aO,aW,aE,aF,aM,aA,aC,aB,aN,ad,frz,aR,aL,AV.cellsOf,AV.fine,AV.one,aQ,indexK.aggOf,simprocAttr,aZ,aU,Try.facts,s3,s4,s14,s15,s16,dT,dF,qT,qF,nT,nF,Bool.false_and,Bool.and_false,ah,bne_self_eq_false]
          refine CallK.i hln1 ?_
          rintro v E ⟨rfl,hE⟩
          subst hE
          simp (disch := omega) only [↓aI,aD,aG,ixA,aX,aV,ag,aT,ae,mkA,ab,bnd,aS,aH,aK,cvO,aJ,aY,↓aO,aW,aE,aF,aM,aA,aC,aB,aN,ad,frz,aR,aL,AV.cellsOf,AV.fine,AV.one,aQ,indexK.aggOf,simprocAttr,aZ,aU,Try.facts,s3,s4,s14,s15,s16,dT,dF,qT,qF,nT,nF,Bool.false_and,Bool.and_false,ah]
          first | refine CallK.p (hlv2) ?_ | refine CallP.i (hlv2) ?_
          simp (disch := omega) only [↓aI,aD,aG,ixA,aX,aV,ag,aT,ae,mkA,ab,bnd,aS,aH,aK,cvO,aJ,aY,↓aO,aW,aE,aF,aM,aA,aC,aB,aN,ad,frz,aR,aL,AV.cellsOf,AV.fine,AV.one,aQ,indexK.aggOf,simprocAttr,aZ,aU,Try.facts,s3,s4,s14,s15,s16,dT,dF,qT,qF,nT,nF,Bool.false_and,Bool.and_false,ah,hnc,v63]
          refine And.intro ?_ ?_
          all_goals
            refine CallK.i hrn1 ?_
            rintro v E ⟨rfl,hE⟩
            subst hE
            simp (disch := omega) only [↓aI,aD,aG,ixA,aX,aV,ag,aT,ae,mkA,ab,bnd,aS,aH,aK,cvO,aJ,aY,↓aO,aW,aE,aF,aM,aA,aC,aB,aN,ad,frz,aR,aL,AV.cellsOf,AV.fine,AV.one,aQ,indexK.aggOf,simprocAttr,aZ,aU,Try.facts,s3,s4,s14,s15,s16,dT,dF,qT,qF,nT,nF,Bool.false_and,Bool.and_false,ah,v63]
            first | refine CallK.p (hrn2) ?_ | refine CallP.i (hrn2) ?_
            simp (disch := omega) only [↓aI,aD,aG,ixA,aX,aV,ag,aT,ae,mkA,ab,bnd,aS,aH,aK,cvO,aJ,aY,↓aO,aW,aE,aF,aM,aA,aC,aB,aN,ad,frz,aR,aL,AV.cellsOf,AV.fine,AV.one,aQ,indexK.aggOf,simprocAttr,aZ,aU,Try.facts,s3,s4,s14,s15,s16,dT,dF,qT,qF,nT,nF,Bool.false_and,Bool.and_false,ah,v63]
            first | refine CallK.p (hsr) ?_ | refine CallP.i (hsr) ?_
            simp (disch := omega) only [↓aI,aD,aG,ixA,aX,aV,ag,aT,ae,mkA,ab,bnd,aS,aH,aK,cvO,aJ,aY,↓aO,aW,aE,aF,aM,aA,aC,aB,aN,ad,frz,aR,aL,AV.cellsOf,AV.fine,AV.one,aQ,indexK.aggOf,simprocAttr,aZ,aU,Try.facts,s3,s4,s14,s15,s16,dT,dF,qT,qF,nT,nF,Bool.false_and,Bool.and_false,ah,v63]
            try trivial
        · rintro σ F ⟨rfl,s3,s4,s14,s15,s16,s51⟩
          simp (disch := omega) only [↓aI,aD,aG,ixA,aX,aV,ag,aT,ae,mkA,ab,bnd,aS,aH,aK,cvO,aJ,aY,↓aO,aW,aE,aF,aM,aA,aC,aB,aN,ad,frz,aR,aL,AV.cellsOf,AV.fine,AV.one,aQ,indexK.aggOf,simprocAttr,aZ,aU,Try.facts,s3,s4,s14,s15,s16,s51,dT,dF,qT,qF,nT,nF,Bool.false_and,Bool.and_false]
          exact ⟨mm - 1,by omega,i + 1,RP,DS,by omega,rel2,inv2,by omega,p3,rfl⟩
      · obtain rfl : i = l.length := by omega
        simp (disch := omega) only [↓aI,aD,aG,ixA,aX,aV,ag,aT,ae,mkA,ab,bnd,aS,aH,aK,cvO,aJ,aY,↓aO,aW,aE,aF,aM,aA,aC,aB,aN,ad,frz,aR,aL,AV.cellsOf,AV.fine,AV.one,aQ,indexK.aggOf,simprocAttr,aZ,aU,Try.facts,s3,s4,s14,s15,s16,dT,dF,qT,qF,nT,nF,Bool.false_and,Bool.and_false]
        first | refine CallK.p (haw) ?_ | refine CallP.i (haw) ?_
        simp (disch := omega) only [↓aI,aD,aG,ixA,aX,aV,ag,aT,ae,mkA,ab,bnd,aS,aH,aK,cvO,aJ,aY,↓aO,aW,aE,aF,aM,aA,aC,aB,aN,ad,frz,aR,aL,AV.cellsOf,AV.fine,AV.one,aQ,indexK.aggOf,simprocAttr,aZ,aU,Try.facts,dT,dF,qT,qF,nT,nF,Bool.false_and,Bool.and_false]
        exact (hBn _).trans p.sub
theorem paper_texts (x0 : List (List OpX)) (hb : Try.ty22.size x0 ≤ 1048576) : APure Try.prog 5 [(Try.ty22.enc x0).getD 0 .any] (.sc (.bool true)) := by
  have h1 := opss_len x0
  rw [opss_enc]
  exact texts_walk _ (by omega)
end Go.Proofs.Ytimonfakmadhpaa
