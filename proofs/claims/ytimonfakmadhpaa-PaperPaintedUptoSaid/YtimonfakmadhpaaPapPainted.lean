/-
  PaperPainted: the walk, and the call, of the arguments as they are read.
  Conditions: none. Lemmas only.
-/
import Derived.Test.YtimonfakmadhpaaPapGC
import Derived.Test.YtimonfakmadhpaaPapG4
import Derived.Test.YtimonfakmadhpaaPapGA
set_option linter.all false
set_option linter.unusedSimpArgs false
set_option linter.unusedVariables false
set_option maxRecDepth 20000
set_option maxHeartbeats 8000000
namespace Go.Proofs.Ytimonfakmadhpaa
open Go Go.Abs Go.Proofs Go.Fug
theorem stysC_cut (l : List Sty) (i : Nat) (h : i ≤ l.length) : (stysC l).drop (i * 5) = stysC (l.drop i) := by
  have e : stysC l = stysC (l.take i) ++ stysC (l.drop i) := by unfold stysC; rw [← List.flatMap_append,List.take_append_drop]
  have e2 : (stysC (l.take i)).length = i * 5 := by rw [stysC_length,List.length_take]; congr 1; omega
  rw [e]
  exact List.drop_left' e2
theorem stysC_load {l : List Sty} {i : Nat} (h : i < l.length) : ((stysC l).drop (i * 5)).take 5 = styC (l[i]).1 (l[i]).2.1 (l[i]).2.2.1 (l[i]).2.2.2 := by
  rw [stysC_cut l i (by omega),List.drop_eq_getElem_cons h]
  show (styC (l[i]).1 (l[i]).2.1 (l[i]).2.2.1 (l[i]).2.2.2 ++ stysC _).take 5 = _
  exact List.take_left' rfl
theorem nodes_let2 {L : List Ins} {G : List EId} (h : ∀ i ∈ L,letO i.rune = true) (nd : (L.map (·.id)).Nodup) : ∀ n ∈ bF L G,letO n.rune = true := fun n hn => by
  obtain ⟨y,hy,e⟩ := mem_below hn
  obtain ⟨i,hi,rfl⟩ := List.mem_map.1 hy
  rw [e,ndOf_mem nd G hi]
  exact h i hi
theorem painted_walk (l : List (List Opn)) (w : Wsh) (hl : l.length ≤ 1100000) : APure Try.prog 6 [opssV l,.agg (wishC w)] (.sc (.bool true)) := by
  have haw := awake_pure
  have hsp := small_pure l (by omega)
  obtain ⟨at_,n,name,value,author,txt⟩ := w
  simp only [wishC]
  cases hsm : smallB l
  · rw [hsm] at hsp
    refine az (c := ⟨Try.prog,127,[(18,[0,0,0,1,1,0]),(1000000,[3]),(1000003,[6]),(4000018,[3,8,12,93,94,124]),(4000017,[3,8,12,13,14,93,94]),(4000016,[3,8,12,13,14,93,94,113]),(4000015,[3,8,12,13,14,93,94]),(4000010,[3,8,12,91]),(4000008,[4]),(4000007,[3,5,8,9,10,11,52]),(4000006,[3,5,8,9,10,11]),(4000003,[3,5])],[],[]⟩) (rs := [ResultVar.tmp 4]) Try.mixed Try.func6 rfl rfl rfl (Nat.le_of_ble_eq_true rfl) (by kernel_rfl) fun H => ?_
    simp (disch := omega) only [↓aI,aD,aG,ixA,aX,aV,ag,aT,ae,mkA,ab,bnd,aS,aH,aK,cvO,aJ,aY,↓aO,aW,aE,aF,aM,aA,aC,aB,aN,ad,frz,aR,aL,AV.cellsOf,AV.fine,AV.one,aQ,indexK.aggOf,simprocAttr,aZ,aU,Try.facts,dT,dF,qT,qF,nT,nF,Bool.false_and,Bool.and_false]
    intro k hk0 hk
    simp (disch := omega) only [↓aI,aD,aG,ixA,aX,aV,ag,aT,ae,mkA,ab,bnd,aS,aH,aK,cvO,aJ,aY,↓aO,aW,aE,aF,aM,aA,aC,aB,aN,ad,frz,aR,aL,AV.cellsOf,AV.fine,AV.one,aQ,indexK.aggOf,simprocAttr,aZ,aU,Try.facts,dT,dF,qT,qF,nT,nF,Bool.false_and,Bool.and_false,aj hk]
    first | refine CallK.p (hsp) ?_ | refine CallP.i (hsp) ?_
    simp (disch := omega) only [↓aI,aD,aG,ixA,aX,aV,ag,aT,ae,mkA,ab,bnd,aS,aH,aK,cvO,aJ,aY,↓aO,aW,aE,aF,aM,aA,aC,aB,aN,ad,frz,aR,aL,AV.cellsOf,AV.fine,AV.one,aQ,indexK.aggOf,simprocAttr,aZ,aU,Try.facts,dT,dF,qT,qF,nT,nF,Bool.false_and,Bool.and_false,aj hk]
    first | refine CallK.p (haw) ?_ | refine CallP.i (haw) ?_
    simp (disch := omega) only [↓aI,aD,aG,ixA,aX,aV,ag,aT,ae,mkA,ab,bnd,aS,aH,aK,cvO,aJ,aY,↓aO,aW,aE,aF,aM,aA,aC,aB,aN,ad,frz,aR,aL,AV.cellsOf,AV.fine,AV.one,aQ,indexK.aggOf,simprocAttr,aZ,aU,Try.facts,dT,dF,qT,qF,nT,nF,Bool.false_and,Bool.and_false]
    exact Abs.Sub.refl _
  · rw [hsm] at hsp
    have hsum := smallF_sum l 0 (by simpa [smallB] using hsm)
    obtain ⟨inv,hz⟩ := both_inv l (by omega)
    have hlet : ∀ i ∈ (bothS l).L,letO i.rune = true := fun i hi => by
      have := inv.ok i (inv.mid.pm.mem_iff.1 (by simp [hi]))
      unfold insO at this
      simp only [Bool.and_eq_true] at this
      exact this.1.2
    have hbl := fun H => both_live H l (by omega) (by omega)
    generalize bothS l = S at *
    generalize bothR l = R at *
    generalize bothOk l = OK at *
    refine az (c := ⟨Try.prog,127,[(18,[0,0,0,1,1,0]),(1000000,[3]),(1000003,[6]),(4000018,[3,8,12,93,94,124]),(4000017,[3,8,12,13,14,93,94]),(4000016,[3,8,12,13,14,93,94,113]),(4000015,[3,8,12,13,14,93,94]),(4000010,[3,8,12,91]),(4000008,[4]),(4000007,[3,5,8,9,10,11,52]),(4000006,[3,5,8,9,10,11]),(4000003,[3,5])],[],[]⟩) (rs := [ResultVar.tmp 4]) Try.mixed Try.func6 rfl rfl rfl (Nat.le_of_ble_eq_true rfl) (by kernel_rfl) fun H => ?_
    simp (disch := omega) only [↓aI,aD,aG,ixA,aX,aV,ag,aT,ae,mkA,ab,bnd,aS,aH,aK,cvO,aJ,aY,↓aO,aW,aE,aF,aM,aA,aC,aB,aN,ad,frz,aR,aL,AV.cellsOf,AV.fine,AV.one,aQ,indexK.aggOf,simprocAttr,aZ,aU,Try.facts,dT,dF,qT,qF,nT,nF,Bool.false_and,Bool.and_false]
    intro k hk0 hk
    simp (disch := omega) only [↓aI,aD,aG,ixA,aX,aV,ag,aT,ae,mkA,ab,bnd,aS,aH,aK,cvO,aJ,aY,↓aO,aW,aE,aF,aM,aA,aC,aB,aN,ad,frz,aR,aL,AV.cellsOf,AV.fine,AV.one,aQ,indexK.aggOf,simprocAttr,aZ,aU,Try.facts,dT,dF,qT,qF,nT,nF,Bool.false_and,Bool.and_false,aj hk]
    first | refine CallK.p (hsp) ?_ | refine CallP.i (hsp) ?_
    simp (disch := omega) only [↓aI,aD,aG,ixA,aX,aV,ag,aT,ae,mkA,ab,bnd,aS,aH,aK,cvO,aJ,aY,↓aO,aW,aE,aF,aM,aA,aC,aB,aN,ad,frz,aR,aL,AV.cellsOf,AV.fine,AV.one,aQ,indexK.aggOf,simprocAttr,aZ,aU,Try.facts,dT,dF,qT,qF,nT,nF,Bool.false_and,Bool.and_false,aj hk]
    refine CallK.i (hbl _) ?_
    rintro v H1 ⟨h,hh0,rfl,p⟩
    have hpt := paint_live _ _ h S at_ n name value author p hh0
    have htx := ptext_live _ _ h S p
    have hrn := pruns_live _ _ h S p hh0
    have hll : (live (bF S.L S.G)).length = S.L.length - S.G.length := live_len p.t.g p.t.gs p.t.gn
    have hpl : (plcs (bF S.L S.G)).length = (live (bF S.L S.G)).length := by rw [← plcs_live,List.length_map]
    have hlet2 := nodes_let2 (G := S.G) hlet p.t.g.nd
    have hLs : S.L.length ≤ 60 := by
      have h1 := inv.mid.pm.length_eq
      rw [List.length_append] at h1
      have h2 : S.I.length ≤ sizP S := by unfold sizP; omega
      omega
    have hNl : (bF S.L S.G).length ≤ 60 := by
      have h1 := nodes_sum p.t.g S.G fun _ => 1
      simp only [List.map_const',List.sum_replicate_nat] at h1
      omega
    have hst : ∀ M,stysR (runsN (bF S.L S.G) M) = (plcs (bF S.L S.G)).map fun q => styN (bF S.L S.G) M q.1 := fun M => stys_runs _ M fun n hn _ => hlet2 n hn
    have hsy : ∀ M,APure Try.prog 30 [rnsV (runsN (bF S.L S.G) M)] (stysV ((plcs (bF S.L S.G)).map fun q => styN (bF S.L S.G) M q.1)) := fun M => by
      have h1 : (runsN (bF S.L S.G) M).length ≤ 60 := by
        unfold runsN
        rw [List.length_reverse]
        have := runsR_len (styN (bF S.L S.G) M) (ixd 0 (bF S.L S.G))
        rw [ixd_length] at this
        omega
      have h2 : ∀ r ∈ runsN (bF S.L S.G) M,r.txt.length ≤ 1000000 := fun r hr => by
        have := runsR_txt (styN (bF S.L S.G) M) (ixd 0 (bF S.L S.G)) r (by unfold runsN at hr; exact List.mem_reverse.1 hr)
        rw [ixd_length] at this
        omega
      have h3 := styles_pure (runsN (bF S.L S.G) M) (by omega) h2 (by rw [hst M,List.length_map]; omega)
      rw [hst M] at h3
      exact h3
    simp (disch := omega) only [↓aI,aD,aG,ixA,aX,aV,ag,aT,ae,mkA,ab,bnd,aS,aH,aK,cvO,aJ,aY,↓aO,aW,aE,aF,aM,aA,aC,aB,aN,ad,frz,aR,aL,AV.cellsOf,AV.fine,AV.one,aQ,indexK.aggOf,simprocAttr,aZ,aU,Try.facts,dT,dF,qT,qF,nT,nF,Bool.false_and,Bool.and_false]
    intro k6 hk60 hk6
    try simp (disch := omega) only [↓aI,aD,aG,ixA,aX,aV,ag,aT,ae,mkA,ab,bnd,aS,aH,aK,cvO,aJ,aY,↓aO,aW,aE,aF,aM,aA,aC,aB,aN,ad,frz,aR,aL,AV.cellsOf,AV.fine,AV.one,aQ,indexK.aggOf,simprocAttr,aZ,aU,Try.facts,dT,dF,qT,qF,nT,nF,Bool.false_and,Bool.and_false,aj hk6,ah]
    refine CallK.i hrn ?_
    rintro v E ⟨rfl,rfl⟩
    have hsy0 := hsy S.l
    simp (disch := omega) only [↓aI,aD,aG,ixA,aX,aV,ag,aT,ae,mkA,ab,bnd,aS,aH,aK,cvO,aJ,aY,↓aO,aW,aE,aF,aM,aA,aC,aB,aN,ad,frz,aR,aL,AV.cellsOf,AV.fine,AV.one,aQ,indexK.aggOf,simprocAttr,aZ,aU,Try.facts,dT,dF,qT,qF,nT,nF,Bool.false_and,Bool.and_false]
    first | refine CallK.p (hsy0) ?_ | refine CallP.i (hsy0) ?_
    simp (disch := omega) only [↓aI,aD,aG,ixA,aX,aV,ag,aT,ae,mkA,ab,bnd,aS,aH,aK,cvO,aJ,aY,↓aO,aW,aE,aF,aM,aA,aC,aB,aN,ad,frz,aR,aL,AV.cellsOf,AV.fine,AV.one,aQ,indexK.aggOf,simprocAttr,aZ,aU,Try.facts,dT,dF,qT,qF,nT,nF,Bool.false_and,Bool.and_false]
    refine CallK.i htx ?_
    rintro v E ⟨rfl,rfl⟩
    simp (disch := omega) only [↓aI,aD,aG,ixA,aX,aV,ag,aT,ae,mkA,ab,bnd,aS,aH,aK,cvO,aJ,aY,↓aO,aW,aE,aF,aM,aA,aC,aB,aN,ad,frz,aR,aL,AV.cellsOf,AV.fine,AV.one,aQ,indexK.aggOf,simprocAttr,aZ,aU,Try.facts,dT,dF,qT,qF,nT,nF,Bool.false_and,Bool.and_false]
    refine CallK.i hpt ?_
    rintro v H2 ⟨rfl,hs2⟩
    have p2 := p.mono hs2
    by_cases he0 : (paintP S at_ n name value author).2 = 0
    · obtain ⟨a, q, rfl, rfl, hq0, haq, hrm, hPP⟩ : ∃ a q : Nat, at_ = (a : Int) ∧ n = (q : Int) ∧ 0 < q ∧ a + q ≤ (live (bF S.L S.G)).length ∧ cQ (paintM S a q name value author) = true ∧ paintP S (a : Int) (q : Int) name value author = ([opM (paintM S a q name value author)], 0) := by
        unfold paintP at he0
        split at he0
        · cases he0
        · rename_i c1
          split at he0
          · cases he0
          · rename_i c2
            split at he0
            · cases he0
            · rename_i c3
              have hwi : withinP S at_ n = true := by
                cases e : withinP S at_ n
                · exact absurd (.inl e) c1
                · rfl
              have hn0 : n ≠ 0 := fun e => c1 (.inr e)
              have hwi2 := hwi
              unfold withinP at hwi
              simp only [decide_eq_true_eq] at hwi
              refine ⟨at_.toNat,n.toNat,by omega,by omega,by omega,by omega,by simpa using c3,?_⟩
              rw [show ((at_.toNat : Nat) : Int) = at_ by omega,show ((n.toNat : Nat) : Int) = n by omega]
              unfold paintP
              rw [if_neg c1,if_neg c2,if_neg c3]
      obtain ⟨h1,h2,h3⟩ := painted_law inv p.g p.t.g (by omega) hq0 haq hrm
      have hnm : 1 ≤ name ∧ name ≤ 4 := by
        have : (paintM S a q name value author).name = name := rfl
        unfold cQ at hrm
        simp only [Bool.and_eq_true,decide_eq_true_eq,this] at hrm
        omega
      rw [hPP]
      have hdo := do_live _ _ h S [opM (paintM S a q name value author)] p2 (by simp) (by omega)
      rw [h1,h2] at hdo
      have hsy1 := hsy (S.l ++ [paintM S a q name value author])
      have hrn3 := fun H' p => pruns_live H H' h { S with l := S.l ++ [paintM S a q name value author] } p hh0
      have htx3 := fun H' p => ptext_live H H' h { S with l := S.l ++ [paintM S a q name value author] } p
      rw [show textP { S with l := S.l ++ [paintM S a q name value author] } = textP S from rfl] at htx3
      generalize hm : paintM S a q name value author = m at *
      simp only at hrn3
      generalize runsN (bF S.L S.G) (S.l ++ [m]) = RN1 at *
      have hl0 : ((plcs (bF S.L S.G)).map fun q => styN (bF S.L S.G) S.l q.1).length = (plcs (bF S.L S.G)).length := List.length_map _
      have hl1 : ((plcs (bF S.L S.G)).map fun q => styN (bF S.L S.G) (S.l ++ [m]) q.1).length = (plcs (bF S.L S.G)).length := List.length_map _
      have hS : ∀ j (hj0 : j < ((plcs (bF S.L S.G)).map fun q => styN (bF S.L S.G) S.l q.1).length) (hj1 : j < ((plcs (bF S.L S.G)).map fun q => styN (bF S.L S.G) (S.l ++ [m]) q.1).length),
          ((plcs (bF S.L S.G)).map fun q => styN (bF S.L S.G) (S.l ++ [m]) q.1)[j] = if a ≤ j ∧ j < a + q then setSty (((plcs (bF S.L S.G)).map fun q => styN (bF S.L S.G) S.l q.1)[j]) name value else ((plcs (bF S.L S.G)).map fun q => styN (bF S.L S.G) S.l q.1)[j] := fun j hj0 hj1 => by
        rw [List.getElem_map,List.getElem_map]
        exact h3 j (by rw [hl0] at hj0; exact hj0)
      have hl01 := hl0.trans hl1.symm
      have hl60 := hl0.trans hpl
      clear h1 h2 h3 hl0 hl1 hst hsy hpl he0 hPP hpt
      generalize ((plcs (bF S.L S.G)).map fun q => styN (bF S.L S.G) (S.l ++ [m]) q.1) = S1 at *
      generalize ((plcs (bF S.L S.G)).map fun q => styN (bF S.L S.G) S.l q.1) = S0 at *
      have hc0 := stysC_length S0
      have hc1 := stysC_length S1
      generalize textP S = TX at *
      simp (disch := omega) only [↓aI,aD,aG,ixA,aX,aV,ag,aT,ae,mkA,ab,bnd,aS,aH,aK,cvO,aJ,aY,↓aO,aW,aE,aF,aM,aA,aC,aB,aN,ad,frz,aR,aL,AV.cellsOf,AV.fine,AV.one,aQ,indexK.aggOf,simprocAttr,aZ,aU,Try.facts,dT,dF,qT,qF,nT,nF,Bool.false_and,Bool.and_false]
      refine CallK.i hdo ?_
      rintro v H3 ⟨rfl,p3⟩
      simp (disch := omega) only [↓aI,aD,aG,ixA,aX,aV,ag,aT,ae,mkA,ab,bnd,aS,aH,aK,cvO,aJ,aY,↓aO,aW,aE,aF,aM,aA,aC,aB,aN,ad,frz,aR,aL,AV.cellsOf,AV.fine,AV.one,aQ,indexK.aggOf,simprocAttr,aZ,aU,Try.facts,dT,dF,qT,qF,nT,nF,Bool.false_and,Bool.and_false]
      refine CallK.i (hrn3 _ p3) ?_
      rintro v E3 ⟨rfl,rfl⟩
      simp (disch := omega) only [↓aI,aD,aG,ixA,aX,aV,ag,aT,ae,mkA,ab,bnd,aS,aH,aK,cvO,aJ,aY,↓aO,aW,aE,aF,aM,aA,aC,aB,aN,ad,frz,aR,aL,AV.cellsOf,AV.fine,AV.one,aQ,indexK.aggOf,simprocAttr,aZ,aU,Try.facts,dT,dF,qT,qF,nT,nF,Bool.false_and,Bool.and_false]
      first | refine CallK.p (hsy1) ?_ | refine CallP.i (hsy1) ?_
      simp (disch := omega) only [↓aI,aD,aG,ixA,aX,aV,ag,aT,ae,mkA,ab,bnd,aS,aH,aK,cvO,aJ,aY,↓aO,aW,aE,aF,aM,aA,aC,aB,aN,ad,frz,aR,aL,AV.cellsOf,AV.fine,AV.one,aQ,indexK.aggOf,simprocAttr,aZ,aU,Try.facts,dT,dF,qT,qF,nT,nF,Bool.false_and,Bool.and_false]
      refine CallK.i (htx3 _ p3) ?_
      rintro v E3 ⟨rfl,rfl⟩
      have hK : (S1.length : Int) = S0.length := by omega
      have hK2 : S1.length = S0.length := by omega
      simp (disch := omega) only [↓aI,aD,aG,ixA,aX,aV,ag,aT,ae,mkA,ab,bnd,aS,aH,aK,cvO,aJ,aY,↓aO,aW,aE,aF,aM,aA,aC,aB,aN,ad,frz,aR,aL,AV.cellsOf,AV.fine,AV.one,aQ,indexK.aggOf,simprocAttr,aZ,aU,Try.facts,dT,dF,qT,qF,nT,nF,Bool.false_and,Bool.and_false,bne_self_eq_false,hK2]
      refine br (c := ⟨Try.prog,127,[(18,[0,0,0,1,1,0]),(1000000,[3]),(1000003,[6]),(4000018,[3,8,12,93,94,124]),(4000017,[3,8,12,13,14,93,94]),(4000016,[3,8,12,13,14,93,94,113]),(4000015,[3,8,12,13,14,93,94]),(4000010,[3,8,12,91]),(4000008,[4]),(4000007,[3,5,8,9,10,11,52]),(4000006,[3,5,8,9,10,11]),(4000003,[3,5])],[],[]⟩) Try.mixed (by kernel_rfl) (fun mm σ H' => Abs.Sub E3 H' ∧ ∃ i : Nat,i + mm = S0.length ∧ σ 3 = .ip [.sc (.int .i64 (a : Nat)),.sc (.int .i64 (q : Nat)),.sc (.int .i64 name),.sc (.int .i64 value),.sc (.int .i64 author),.sc (.string ⟨txt.toArray⟩)] 0 ∧ σ 8 = stysV S0 ∧ σ 12 = stysV S1 ∧ σ 93 = .sc (.int .i64 (S0.length : Nat)) ∧ σ 94 = .sc (.int .i64 (i : Nat))) S0.length ?_ ?_
      · refine ⟨Abs.Sub.refl _,0,by omega,?_⟩
        simp (disch := omega) only [↓aI,aD,aG,ixA,aX,aV,ag,aT,ae,mkA,ab,bnd,aS,aH,aK,cvO,aJ,aY,↓aO,aW,aE,aF,aM,aA,aC,aB,aN,ad,frz,aR,aL,AV.cellsOf,AV.fine,AV.one,aQ,indexK.aggOf,simprocAttr,aZ,aU,Try.facts,hK2]
        try rfl
      · rintro mm σ H' ⟨hs,i,him,s3,s8,s12,s93,s94⟩
        by_cases hlt : i < S0.length
        · have hlt1 : i < S1.length := by omega
          have hl0 := stysC_load hlt
          have hl1 := stysC_load hlt1
          have hle0 : i * 5 + 5 ≤ S0.length * 5 := by omega
          have hle1 : i * 5 + 5 ≤ S1.length * 5 := by omega
          have hSi := hS i hlt hlt1
          generalize S0[i] = x at *
          generalize S1[i] = y at *
          obtain ⟨xa,xb,xc,xd⟩ := x
          by_cases hin : a ≤ i ∧ i < a + q
          · rw [if_pos hin] at hSi
            subst hSi
            unfold setSty at hl1
            obtain ⟨hin1,hin2⟩ := hin
            have hn4 : name = 1 ∨ name = 2 ∨ name = 3 ∨ name = 4 := by omega
            rcases hn4 with rfl | rfl | rfl | rfl
            all_goals
              simp at hl1
              simp (disch := omega) only [↓aI,aD,aG,ixA,aX,aV,ag,aT,ae,mkA,ab,bnd,aS,aH,aK,cvO,aJ,aY,↓aO,aW,aE,aF,aM,aA,aC,aB,aN,ad,frz,aR,aL,AV.cellsOf,AV.fine,AV.one,aQ,indexK.aggOf,simprocAttr,aZ,aU,Try.facts,s3,s8,s12,s93,s94,dT,dF,qT,qF,nT,nF,Bool.false_and,Bool.and_false,hc0,hl0,hle0]
              intro b14 hb140 hb14
              simp (disch := omega) only [↓aI,aD,aG,ixA,aX,aV,ag,aT,ae,mkA,ab,bnd,aS,aH,aK,cvO,aJ,aY,↓aO,aW,aE,aF,aM,aA,aC,aB,aN,ad,frz,aR,aL,AV.cellsOf,AV.fine,AV.one,aQ,indexK.aggOf,simprocAttr,aZ,aU,Try.facts,s3,s8,s12,s93,s94,dT,dF,qT,qF,nT,nF,Bool.false_and,Bool.and_false,hc1,hl1,hle0,hK2,ah,set_set,beq_self_eq_true]
              exact ⟨mm - 1,by omega,hs.trans (Sub.set_new hb14),i + 1,by omega,rfl⟩
          · rw [if_neg hin] at hSi
            subst hSi
            simp only at hl1
            by_cases hin1 : a ≤ i
            · have hin2 : ¬ i < a + q := fun h => hin ⟨hin1,h⟩
              simp (disch := omega) only [↓aI,aD,aG,ixA,aX,aV,ag,aT,ae,mkA,ab,bnd,aS,aH,aK,cvO,aJ,aY,↓aO,aW,aE,aF,aM,aA,aC,aB,aN,ad,frz,aR,aL,AV.cellsOf,AV.fine,AV.one,aQ,indexK.aggOf,simprocAttr,aZ,aU,Try.facts,s3,s8,s12,s93,s94,dT,dF,qT,qF,nT,nF,Bool.false_and,Bool.and_false,hc0,hl0,hle0]
              intro b14 hb140 hb14
              simp (disch := omega) only [↓aI,aD,aG,ixA,aX,aV,ag,aT,ae,mkA,ab,bnd,aS,aH,aK,cvO,aJ,aY,↓aO,aW,aE,aF,aM,aA,aC,aB,aN,ad,frz,aR,aL,AV.cellsOf,AV.fine,AV.one,aQ,indexK.aggOf,simprocAttr,aZ,aU,Try.facts,s3,s8,s12,s93,s94,dT,dF,qT,qF,nT,nF,Bool.false_and,Bool.and_false,hc1,hl1,hle0,hK2,ah,set_set,beq_self_eq_true]
              exact ⟨mm - 1,by omega,hs.trans (Sub.set_new hb14),i + 1,by omega,rfl⟩
            · simp (disch := omega) only [↓aI,aD,aG,ixA,aX,aV,ag,aT,ae,mkA,ab,bnd,aS,aH,aK,cvO,aJ,aY,↓aO,aW,aE,aF,aM,aA,aC,aB,aN,ad,frz,aR,aL,AV.cellsOf,AV.fine,AV.one,aQ,indexK.aggOf,simprocAttr,aZ,aU,Try.facts,s3,s8,s12,s93,s94,dT,dF,qT,qF,nT,nF,Bool.false_and,Bool.and_false,hc0,hl0,hle0]
              intro b14 hb140 hb14
              simp (disch := omega) only [↓aI,aD,aG,ixA,aX,aV,ag,aT,ae,mkA,ab,bnd,aS,aH,aK,cvO,aJ,aY,↓aO,aW,aE,aF,aM,aA,aC,aB,aN,ad,frz,aR,aL,AV.cellsOf,AV.fine,AV.one,aQ,indexK.aggOf,simprocAttr,aZ,aU,Try.facts,s3,s8,s12,s93,s94,dT,dF,qT,qF,nT,nF,Bool.false_and,Bool.and_false,hc1,hl1,hle0,hK2,ah,set_set,beq_self_eq_true]
              exact ⟨mm - 1,by omega,hs.trans (Sub.set_new hb14),i + 1,by omega,rfl⟩
        · obtain rfl : i = S0.length := by omega
          simp (disch := omega) only [↓aI,aD,aG,ixA,aX,aV,ag,aT,ae,mkA,ab,bnd,aS,aH,aK,cvO,aJ,aY,↓aO,aW,aE,aF,aM,aA,aC,aB,aN,ad,frz,aR,aL,AV.cellsOf,AV.fine,AV.one,aQ,indexK.aggOf,simprocAttr,aZ,aU,Try.facts,s3,s8,s12,s93,s94,dT,dF,qT,qF,nT,nF,Bool.false_and,Bool.and_false]
          first | refine CallK.p (haw) ?_ | refine CallP.i (haw) ?_
          simp (disch := omega) only [↓aI,aD,aG,ixA,aX,aV,ag,aT,ae,mkA,ab,bnd,aS,aH,aK,cvO,aJ,aY,↓aO,aW,aE,aF,aM,aA,aC,aB,aN,ad,frz,aR,aL,AV.cellsOf,AV.fine,AV.one,aQ,indexK.aggOf,simprocAttr,aZ,aU,Try.facts,dT,dF,qT,qF,nT,nF,Bool.false_and,Bool.and_false]
          exact p3.sub.trans hs
    · have hO : (paintP S at_ n name value author).1 = [] := by
        unfold paintP at he0 ⊢
        split
        · rfl
        · rename_i c1
          rw [if_neg c1] at he0
          split
          · rfl
          · rename_i c2
            rw [if_neg c2] at he0
            split
            · rfl
            · rename_i c3
              rw [if_neg c3] at he0
              exact absurd rfl he0
      rw [hO]
      generalize (paintP S at_ n name value author).2 = e at *
      simp (disch := omega) only [↓aI,aD,aG,ixA,aX,aV,ag,aT,ae,mkA,ab,bnd,aS,aH,aK,cvO,aJ,aY,↓aO,aW,aE,aF,aM,aA,aC,aB,aN,ad,frz,aR,aL,AV.cellsOf,AV.fine,AV.one,aQ,indexK.aggOf,simprocAttr,aZ,aU,Try.facts,dT,dF,qT,qF,nT,nF,Bool.false_and,Bool.and_false,he0,dL,List.flatMap_nil]
      first | refine CallK.p (haw) ?_ | refine CallP.i (haw) ?_
      simp (disch := omega) only [↓aI,aD,aG,ixA,aX,aV,ag,aT,ae,mkA,ab,bnd,aS,aH,aK,cvO,aJ,aY,↓aO,aW,aE,aF,aM,aA,aC,aB,aN,ad,frz,aR,aL,AV.cellsOf,AV.fine,AV.one,aQ,indexK.aggOf,simprocAttr,aZ,aU,Try.facts,dT,dF,qT,qF,nT,nF,Bool.false_and,Bool.and_false]
      exact p2.sub
theorem paper_painted (x0 : List (List OpX)) (x1 : WishX) (hb : Try.ty22.size x0 + Try.ty24.size x1 ≤ 1048576) : APure Try.prog 6 [(Try.ty22.enc x0).getD 0 .any,.agg (Try.ty24.enc x1)] (.sc (.bool true)) := by
  rw [wish_enc,opss_enc]
  exact painted_walk _ _ (both_len x0 x1 hb).1
end Go.Proofs.Ytimonfakmadhpaa
