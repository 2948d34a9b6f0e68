/-
  Several texts in one: each says what it proves.
  Conditions: none. Lemmas only.
-/
import Derived.Test.YtjlnpngaiphnmaaGreatRosG2
import Derived.Test.YtjlnpngaiphnmaaGreatRosG1
set_option linter.all false
section
set_option linter.unusedSimpArgs false
set_option linter.unusedVariables false
set_option maxRecDepth 20000
set_option maxHeartbeats 8000000
namespace Go.Proofs.YtjlnpngaiphnmaaGreat
open Go Go.Abs Go.Proofs
def jF (e : Ent) : Bool := decide (e.prev.length = 32) || (decide (e.n = 1) && decide (e.prev.length = 0))
def boxOk (b : List UInt8) : Bool := decide (b.length = 48)
def gK (e : Ent) : Bool := decide (1 ≤ e.n) && (decide (e.n ≤ 65536) && (jF e && (gV e.members e.ends && (e.boxes.all boxOk && (decide (e.once.length = 32) && (decide (e.boxes.length = e.members.length) && decide (e.sig.length = 64)))))))
theorem ie (e : Ent) (hm : e.members.length ≤ 1000000) (he : e.ends.length ≤ 1000000) (hb : e.boxes.length ≤ 1000000) : APure Tryz.prog 10 [.agg (fX e)] (.sc (.bool (gK e))) := by
  have hp := parts_pure e.members e.ends hm he
  have hR : gK e = (decide (1 ≤ e.n) && (decide (e.n ≤ 65536) && (jF e && (gV e.members e.ends && (e.boxes.all boxOk && (decide (e.once.length = 32) && (decide (e.boxes.length = e.members.length) && decide (e.sig.length = 64)))))))) := rfl
  have hpo : jF e = (decide (e.prev.length = 32) || (decide (e.n = 1) && decide (e.prev.length = 0))) := rfl
  generalize gK e = R at *
  generalize jF e = po at *
  generalize gV e.members e.ends = pt at *
  obtain ⟨n,prev,ms,es,once,bs,sig⟩ := e
  simp only [fX] at *
  have hbl : (bs.map eu).length = bs.length := by simp
  have hcase : (po = true ∧ ((n = 1 ∧ prev.length = 0) ∨ (n = 1 ∧ ¬ prev.length = 0 ∧ prev.length = 32) ∨ (¬ n = 1 ∧ prev.length = 32))) ∨ (po = false ∧ ((n = 1 ∧ ¬ prev.length = 0 ∧ ¬ prev.length = 32) ∨ (¬ n = 1 ∧ ¬ prev.length = 32))) := by
    by_cases c1 : n = 1
    · by_cases c2 : prev.length = 0
      · exact .inl ⟨by rw [hpo]; simp [c1,c2],.inl ⟨c1,c2⟩⟩
      · by_cases c3 : prev.length = 32
        · exact .inl ⟨by rw [hpo]; simp [c3],.inr (.inl ⟨c1,c2,c3⟩)⟩
        · exact .inr ⟨by rw [hpo]; simp [c2,c3],.inl ⟨c1,c2,c3⟩⟩
    · by_cases c3 : prev.length = 32
      · exact .inl ⟨by rw [hpo]; simp [c3],.inr (.inr ⟨c1,c3⟩)⟩
      · exact .inr ⟨by rw [hpo]; simp [c1,c3],.inr ⟨c1,c3⟩⟩
  by_cases n1 : 1 ≤ n
  · by_cases n2 : n ≤ 65536
    · rcases hcase with ⟨rfl,hc⟩ | ⟨rfl,hc⟩
      · cases pt
        · obtain rfl : R = false := by rw [hR]; simp
          rcases hc with ⟨q1,q2⟩ | ⟨q1,q2,q3⟩ | ⟨q1,q3⟩
          all_goals
            refine az (c := ⟨Tryz.prog,71,[(1000000,[1]),(4000010,[2]),(4000002,[1,40]),(4000001,[1,3])],[],[]⟩) (rs := [ResultVar.tmp 2]) Tryz.mixed Tryz.func10 rfl rfl rfl (Nat.le_of_ble_eq_true rfl) (by kernel_rfl) fun H => ?_
            simp (disch := omega) only [↓aI,↓zP,aD,zD,aS,simprocAttr,Tryz.facts,zA]
            intro k hk0 hk
            try simp (disch := omega) only [↓aI,↓zP,aD,zD,aS,simprocAttr,Tryz.facts,zA,aj hk]
            first | refine CallK.p (hp) ?_ | refine CallP.i (hp) ?_
            simp (disch := omega) only [↓aI,↓zP,aD,zD,aS,simprocAttr,Tryz.facts,zA]
            first | exact Abs.Sub.refl _ | exact ⟨rfl,Abs.Sub.refl _⟩ | (trace_state; fail)
        · rw [decide_eq_true n1,decide_eq_true n2,Bool.true_and,Bool.true_and,Bool.true_and,Bool.true_and] at hR
          rcases hc with ⟨q1,q2⟩ | ⟨q1,q2,q3⟩ | ⟨q1,q3⟩
          all_goals
            refine az (c := ⟨Tryz.prog,71,[(1000000,[1]),(4000010,[2]),(4000002,[1,40]),(4000001,[1,3])],[],[]⟩) (rs := [ResultVar.tmp 2]) Tryz.mixed Tryz.func10 rfl rfl rfl (Nat.le_of_ble_eq_true rfl) (by kernel_rfl) fun H => ?_
            simp (disch := omega) only [↓aI,↓zP,aD,zD,aS,simprocAttr,Tryz.facts,zA]
            intro k hk0 hk
            try simp (disch := omega) only [↓aI,↓zP,aD,zD,aS,simprocAttr,Tryz.facts,zA,aj hk]
            first | refine CallK.p (hp) ?_ | refine CallP.i (hp) ?_
            simp (disch := omega) only [↓aI,↓zP,aD,zD,aS,simprocAttr,Tryz.facts,zA]
            refine br (c := ⟨Tryz.prog,71,[(1000000,[1]),(4000010,[2]),(4000002,[1,40]),(4000001,[1,3])],[],[]⟩) Tryz.mixed (by kernel_rfl) (fun mm σ H' => H' = H ∧ ∃ (i : Nat),i + mm = bs.length ∧ ((bs.drop i).all boxOk && (decide (once.length = 32) && (decide (bs.length = ms.length) && decide (sig.length = 64)))) = R ∧ σ 1 = .ip [.sc (.int .i64 n),eu prev,fE ms,fY es,eu once,fZ bs,eu sig] 0 ∧ σ 42 = fZ bs ∧ σ 43 = .sc (.int .i64 (bs.length : Nat)) ∧ σ 44 = .sc (.int .i64 (i : Nat))) bs.length ?_ ?_
            · first | refine ⟨aj hk,0,by omega,hR.symm,?_⟩ | refine ⟨rfl,0,by omega,hR.symm,?_⟩
              simp (disch := omega) only [↓aI,↓zP,aD,zD,aS,simprocAttr,Tryz.facts,zA]
              try rfl
            · rintro mm σ H' ⟨rfl,i,him,hf,s1,s42,s43,s44⟩
              by_cases hlt : i < bs.length
              · have hd : bs.drop i = bs[i] :: bs.drop (i + 1) := List.drop_eq_getElem_cons hlt
                have hg : (bs.map eu)[i]? = some (eu bs[i]) := by simp [hlt]
                rw [hd,List.all_cons] at hf
                generalize bs[i] = x at *
                unfold boxOk at hf
                by_cases b1 : x.length = 48
                · rw [decide_eq_true b1,Bool.true_and] at hf
                  simp (disch := omega) only [↓aI,↓zP,aD,zD,aS,simprocAttr,Tryz.facts,zA,s1,s42,s43,s44,hbl,hg]
                  exact ⟨mm - 1,by omega,i + 1,by omega,hf,rfl⟩
                · obtain rfl : R = false := by rw [← hf]; simp [b1]
                  simp (disch := omega) only [↓aI,↓zP,aD,zD,aS,simprocAttr,Tryz.facts,zA,s1,s42,s43,s44,hbl,hg]
                  exact Abs.Sub.refl _
              · obtain rfl : i = bs.length := by omega
                rw [List.drop_length,List.all_nil,Bool.true_and] at hf
                by_cases b1 : once.length = 32
                · skip
                  by_cases b2 : bs.length = ms.length
                  · skip
                    by_cases b3 : sig.length = 64
                    · skip
                      obtain rfl : R = true := by rw [← hf]; simp [b1,b2,b3]
                      simp (disch := omega) only [↓aI,↓zP,aD,zD,aS,simprocAttr,Tryz.facts,zA,s1,s42,s43,s44]
                      exact Abs.Sub.refl _
                    · skip
                      obtain rfl : R = false := by rw [← hf]; simp [b3]
                      simp (disch := omega) only [↓aI,↓zP,aD,zD,aS,simprocAttr,Tryz.facts,zA,s1,s42,s43,s44]
                      exact Abs.Sub.refl _
                  · skip
                    obtain rfl : R = false := by rw [← hf]; simp [b2]
                    simp (disch := omega) only [↓aI,↓zP,aD,zD,aS,simprocAttr,Tryz.facts,zA,s1,s42,s43,s44]
                    exact Abs.Sub.refl _
                · skip
                  obtain rfl : R = false := by rw [← hf]; simp [b1]
                  simp (disch := omega) only [↓aI,↓zP,aD,zD,aS,simprocAttr,Tryz.facts,zA,s1,s42,s43,s44]
                  exact Abs.Sub.refl _
      · obtain rfl : R = false := by rw [hR]; simp
        rcases hc with ⟨q1,q2,q3⟩ | ⟨q1,q3⟩
        all_goals
          refine az (c := ⟨Tryz.prog,71,[(1000000,[1]),(4000010,[2]),(4000002,[1,40]),(4000001,[1,3])],[],[]⟩) (rs := [ResultVar.tmp 2]) Tryz.mixed Tryz.func10 rfl rfl rfl (Nat.le_of_ble_eq_true rfl) (by kernel_rfl) fun H => ?_
          simp (disch := omega) only [↓aI,↓zP,aD,zD,aS,simprocAttr,Tryz.facts,zA]
          intro k hk0 hk
          try simp (disch := omega) only [↓aI,↓zP,aD,zD,aS,simprocAttr,Tryz.facts,zA,aj hk]
          first | exact Abs.Sub.refl _ | exact ⟨rfl,Abs.Sub.refl _⟩ | (trace_state; fail)
    · obtain rfl : R = false := by rw [hR]; simp [n2]
      have q1 : ¬ n = 1 := by omega
      refine az (c := ⟨Tryz.prog,71,[(1000000,[1]),(4000010,[2]),(4000002,[1,40]),(4000001,[1,3])],[],[]⟩) (rs := [ResultVar.tmp 2]) Tryz.mixed Tryz.func10 rfl rfl rfl (Nat.le_of_ble_eq_true rfl) (by kernel_rfl) fun H => ?_
      simp (disch := omega) only [↓aI,↓zP,aD,zD,aS,simprocAttr,Tryz.facts,zA]
      intro k hk0 hk
      try simp (disch := omega) only [↓aI,↓zP,aD,zD,aS,simprocAttr,Tryz.facts,zA,aj hk]
      first | exact Abs.Sub.refl _ | exact ⟨rfl,Abs.Sub.refl _⟩ | (trace_state; fail)
  · obtain rfl : R = false := by rw [hR]; simp [n1]
    have q1 : ¬ n = 1 := by omega
    refine az (c := ⟨Tryz.prog,71,[(1000000,[1]),(4000010,[2]),(4000002,[1,40]),(4000001,[1,3])],[],[]⟩) (rs := [ResultVar.tmp 2]) Tryz.mixed Tryz.func10 rfl rfl rfl (Nat.le_of_ble_eq_true rfl) (by kernel_rfl) fun H => ?_
    simp (disch := omega) only [↓aI,↓zP,aD,zD,aS,simprocAttr,Tryz.facts,zA]
    intro k hk0 hk
    try simp (disch := omega) only [↓aI,↓zP,aD,zD,aS,simprocAttr,Tryz.facts,zA,aj hk]
    first | exact Abs.Sub.refl _ | exact ⟨rfl,Abs.Sub.refl _⟩ | (trace_state; fail)
end Go.Proofs.YtjlnpngaiphnmaaGreat
end
section
set_option linter.unusedSimpArgs false
set_option linter.unusedVariables false
set_option maxRecDepth 20000
set_option maxHeartbeats 8000000
namespace Go.Proofs.YtjlnpngaiphnmaaGreat
open Go Go.Abs Go.Proofs
theorem jx (e : Ent) (hm : e.members.length ≤ 1000000) (he : e.ends.length ≤ 1000000) (hb : e.boxes.length ≤ 1000000) : APure Tryz.prog 11 [.agg (fX e)] (.sc (.bool (gK e))) := by
  have hp := rparts_pure e.members e.ends hm he
  have hR : gK e = (decide (1 ≤ e.n) && (decide (e.n ≤ 65536) && (jF e && (gV e.members e.ends && (e.boxes.all boxOk && (decide (e.once.length = 32) && (decide (e.boxes.length = e.members.length) && decide (e.sig.length = 64)))))))) := rfl
  have hpo : jF e = (decide (e.prev.length = 32) || (decide (e.n = 1) && decide (e.prev.length = 0))) := rfl
  generalize gK e = R at *
  generalize jF e = po at *
  generalize gV e.members e.ends = pt at *
  obtain ⟨n,prev,ms,es,once,bs,sig⟩ := e
  simp only [fX] at *
  have hbl : (bs.map eu).length = bs.length := by simp
  have hcase : (po = true ∧ ((n = 1 ∧ prev.length = 0) ∨ (n = 1 ∧ ¬ prev.length = 0 ∧ prev.length = 32) ∨ (¬ n = 1 ∧ prev.length = 32))) ∨ (po = false ∧ ((n = 1 ∧ ¬ prev.length = 0 ∧ ¬ prev.length = 32) ∨ (¬ n = 1 ∧ ¬ prev.length = 32))) := by
    by_cases c1 : n = 1
    · by_cases c2 : prev.length = 0
      · exact .inl ⟨by rw [hpo]; simp [c1,c2],.inl ⟨c1,c2⟩⟩
      · by_cases c3 : prev.length = 32
        · exact .inl ⟨by rw [hpo]; simp [c3],.inr (.inl ⟨c1,c2,c3⟩)⟩
        · exact .inr ⟨by rw [hpo]; simp [c2,c3],.inl ⟨c1,c2,c3⟩⟩
    · by_cases c3 : prev.length = 32
      · exact .inl ⟨by rw [hpo]; simp [c3],.inr (.inr ⟨c1,c3⟩)⟩
      · exact .inr ⟨by rw [hpo]; simp [c1,c3],.inr ⟨c1,c3⟩⟩
  by_cases n1 : 1 ≤ n
  · by_cases n2 : n ≤ 65536
    · rcases hcase with ⟨rfl,hc⟩ | ⟨rfl,hc⟩
      · cases pt
        · obtain rfl : R = false := by rw [hR]; simp
          rcases hc with ⟨q1,q2⟩ | ⟨q1,q2,q3⟩ | ⟨q1,q3⟩
          all_goals
            refine az (c := ⟨Tryz.prog,75,[(1000000,[1]),(4000007,[1,4,74]),(4000005,[1,4,65]),(4000002,[1,60]),(4000001,[1,3])],[],[]⟩) (rs := [ResultVar.tmp 2]) Tryz.mixed Tryz.func11 rfl rfl rfl (Nat.le_of_ble_eq_true rfl) (by kernel_rfl) fun H => ?_
            simp (disch := omega) only [↓aI,↓zP,aD,zD,aS,simprocAttr,Tryz.facts,zA]
            intro k hk0 hk
            try simp (disch := omega) only [↓aI,↓zP,aD,zD,aS,simprocAttr,Tryz.facts,zA,aj hk]
            first | refine CallK.p (hp) ?_ | refine CallP.i (hp) ?_
            simp (disch := omega) only [↓aI,↓zP,aD,zD,aS,simprocAttr,Tryz.facts,zA]
            first | exact Abs.Sub.refl _ | exact ⟨rfl,Abs.Sub.refl _⟩ | (trace_state; fail)
        · rw [decide_eq_true n1,decide_eq_true n2,Bool.true_and,Bool.true_and,Bool.true_and,Bool.true_and] at hR
          rcases hc with ⟨q1,q2⟩ | ⟨q1,q2,q3⟩ | ⟨q1,q3⟩
          all_goals
            by_cases b1 : once.length = 32
            · skip
              by_cases b2 : sig.length = 64
              · skip
                by_cases b3 : bs.length = ms.length
                · skip
                  rw [decide_eq_true b1,decide_eq_true b2,decide_eq_true b3,Bool.and_true,Bool.and_true,Bool.and_true] at hR
                  refine az (c := ⟨Tryz.prog,75,[(1000000,[1]),(4000007,[1,4,74]),(4000005,[1,4,65]),(4000002,[1,60]),(4000001,[1,3])],[],[]⟩) (rs := [ResultVar.tmp 2]) Tryz.mixed Tryz.func11 rfl rfl rfl (Nat.le_of_ble_eq_true rfl) (by kernel_rfl) fun H => ?_
                  simp (disch := omega) only [↓aI,↓zP,aD,zD,aS,simprocAttr,Tryz.facts,zA]
                  intro k hk0 hk
                  try simp (disch := omega) only [↓aI,↓zP,aD,zD,aS,simprocAttr,Tryz.facts,zA,aj hk]
                  first | refine CallK.p (hp) ?_ | refine CallP.i (hp) ?_
                  simp (disch := omega) only [↓aI,↓zP,aD,zD,aS,simprocAttr,Tryz.facts,zA]
                  refine br (c := ⟨Tryz.prog,75,[(1000000,[1]),(4000007,[1,4,74]),(4000005,[1,4,65]),(4000002,[1,60]),(4000001,[1,3])],[],[]⟩) Tryz.mixed (by kernel_rfl) (fun mm σ H' => H' = H ∧ ∃ (i : Nat),i + mm = bs.length ∧ (bs.drop i).all boxOk = R ∧ σ 1 = .ip [.sc (.int .i64 n),eu prev,fE ms,fY es,eu once,fZ bs,eu sig] 0 ∧ σ 4 = .sc (.int .i64 (i : Nat))) bs.length ?_ ?_
                  · first | refine ⟨aj hk,0,by omega,hR.symm,?_⟩ | refine ⟨rfl,0,by omega,hR.symm,?_⟩
                    simp (disch := omega) only [↓aI,↓zP,aD,zD,aS,simprocAttr,Tryz.facts,zA]
                    try rfl
                  · rintro mm σ H' ⟨rfl,i,him,hf,s1,s4⟩
                    by_cases hlt : i < bs.length
                    · have hd : bs.drop i = bs[i] :: bs.drop (i + 1) := List.drop_eq_getElem_cons hlt
                      have hg : (bs.map eu)[i]? = some (eu bs[i]) := by simp [hlt]
                      rw [hd,List.all_cons] at hf
                      generalize bs[i] = x at *
                      unfold boxOk at hf
                      by_cases b1 : x.length = 48
                      · rw [decide_eq_true b1,Bool.true_and] at hf
                        simp (disch := omega) only [↓aI,↓zP,aD,zD,aS,simprocAttr,Tryz.facts,zA,s1,s4,hbl,hg]
                        exact ⟨mm - 1,by omega,i + 1,by omega,hf,rfl⟩
                      · obtain rfl : R = false := by rw [← hf]; simp [b1]
                        simp (disch := omega) only [↓aI,↓zP,aD,zD,aS,simprocAttr,Tryz.facts,zA,s1,s4,hbl,hg]
                        exact Abs.Sub.refl _
                    · obtain rfl : i = bs.length := by omega
                      rw [List.drop_length,List.all_nil] at hf
                      subst hf
                      simp (disch := omega) only [↓aI,↓zP,aD,zD,aS,simprocAttr,Tryz.facts,zA,s1,s4]
                      exact Abs.Sub.refl _
                · skip
                  obtain rfl : R = false := by rw [hR]; simp [b3]
                  refine az (c := ⟨Tryz.prog,75,[(1000000,[1]),(4000007,[1,4,74]),(4000005,[1,4,65]),(4000002,[1,60]),(4000001,[1,3])],[],[]⟩) (rs := [ResultVar.tmp 2]) Tryz.mixed Tryz.func11 rfl rfl rfl (Nat.le_of_ble_eq_true rfl) (by kernel_rfl) fun H => ?_
                  simp (disch := omega) only [↓aI,↓zP,aD,zD,aS,simprocAttr,Tryz.facts,zA]
                  intro k hk0 hk
                  try simp (disch := omega) only [↓aI,↓zP,aD,zD,aS,simprocAttr,Tryz.facts,zA,aj hk]
                  first | refine CallK.p (hp) ?_ | refine CallP.i (hp) ?_
                  simp (disch := omega) only [↓aI,↓zP,aD,zD,aS,simprocAttr,Tryz.facts,zA]
                  first | exact Abs.Sub.refl _ | exact ⟨rfl,Abs.Sub.refl _⟩ | (trace_state; fail)
              · skip
                obtain rfl : R = false := by rw [hR]; simp [b2]
                refine az (c := ⟨Tryz.prog,75,[(1000000,[1]),(4000007,[1,4,74]),(4000005,[1,4,65]),(4000002,[1,60]),(4000001,[1,3])],[],[]⟩) (rs := [ResultVar.tmp 2]) Tryz.mixed Tryz.func11 rfl rfl rfl (Nat.le_of_ble_eq_true rfl) (by kernel_rfl) fun H => ?_
                simp (disch := omega) only [↓aI,↓zP,aD,zD,aS,simprocAttr,Tryz.facts,zA]
                intro k hk0 hk
                try simp (disch := omega) only [↓aI,↓zP,aD,zD,aS,simprocAttr,Tryz.facts,zA,aj hk]
                first | refine CallK.p (hp) ?_ | refine CallP.i (hp) ?_
                simp (disch := omega) only [↓aI,↓zP,aD,zD,aS,simprocAttr,Tryz.facts,zA]
                first | exact Abs.Sub.refl _ | exact ⟨rfl,Abs.Sub.refl _⟩ | (trace_state; fail)
            · skip
              obtain rfl : R = false := by rw [hR]; simp [b1]
              refine az (c := ⟨Tryz.prog,75,[(1000000,[1]),(4000007,[1,4,74]),(4000005,[1,4,65]),(4000002,[1,60]),(4000001,[1,3])],[],[]⟩) (rs := [ResultVar.tmp 2]) Tryz.mixed Tryz.func11 rfl rfl rfl (Nat.le_of_ble_eq_true rfl) (by kernel_rfl) fun H => ?_
              simp (disch := omega) only [↓aI,↓zP,aD,zD,aS,simprocAttr,Tryz.facts,zA]
              intro k hk0 hk
              try simp (disch := omega) only [↓aI,↓zP,aD,zD,aS,simprocAttr,Tryz.facts,zA,aj hk]
              first | refine CallK.p (hp) ?_ | refine CallP.i (hp) ?_
              simp (disch := omega) only [↓aI,↓zP,aD,zD,aS,simprocAttr,Tryz.facts,zA]
              first | exact Abs.Sub.refl _ | exact ⟨rfl,Abs.Sub.refl _⟩ | (trace_state; fail)
      · obtain rfl : R = false := by rw [hR]; simp
        rcases hc with ⟨q1,q2,q3⟩ | ⟨q1,q3⟩
        all_goals
          refine az (c := ⟨Tryz.prog,75,[(1000000,[1]),(4000007,[1,4,74]),(4000005,[1,4,65]),(4000002,[1,60]),(4000001,[1,3])],[],[]⟩) (rs := [ResultVar.tmp 2]) Tryz.mixed Tryz.func11 rfl rfl rfl (Nat.le_of_ble_eq_true rfl) (by kernel_rfl) fun H => ?_
          simp (disch := omega) only [↓aI,↓zP,aD,zD,aS,simprocAttr,Tryz.facts,zA]
          intro k hk0 hk
          try simp (disch := omega) only [↓aI,↓zP,aD,zD,aS,simprocAttr,Tryz.facts,zA,aj hk]
          first | exact Abs.Sub.refl _ | exact ⟨rfl,Abs.Sub.refl _⟩ | (trace_state; fail)
    · obtain rfl : R = false := by rw [hR]; simp [n2]
      have q1 : ¬ n = 1 := by omega
      by_cases q3 : prev.length = 32
      · skip
        refine az (c := ⟨Tryz.prog,75,[(1000000,[1]),(4000007,[1,4,74]),(4000005,[1,4,65]),(4000002,[1,60]),(4000001,[1,3])],[],[]⟩) (rs := [ResultVar.tmp 2]) Tryz.mixed Tryz.func11 rfl rfl rfl (Nat.le_of_ble_eq_true rfl) (by kernel_rfl) fun H => ?_
        simp (disch := omega) only [↓aI,↓zP,aD,zD,aS,simprocAttr,Tryz.facts,zA]
        intro k hk0 hk
        try simp (disch := omega) only [↓aI,↓zP,aD,zD,aS,simprocAttr,Tryz.facts,zA,aj hk]
        first | exact Abs.Sub.refl _ | exact ⟨rfl,Abs.Sub.refl _⟩ | (trace_state; fail)
      · skip
        refine az (c := ⟨Tryz.prog,75,[(1000000,[1]),(4000007,[1,4,74]),(4000005,[1,4,65]),(4000002,[1,60]),(4000001,[1,3])],[],[]⟩) (rs := [ResultVar.tmp 2]) Tryz.mixed Tryz.func11 rfl rfl rfl (Nat.le_of_ble_eq_true rfl) (by kernel_rfl) fun H => ?_
        simp (disch := omega) only [↓aI,↓zP,aD,zD,aS,simprocAttr,Tryz.facts,zA]
        intro k hk0 hk
        try simp (disch := omega) only [↓aI,↓zP,aD,zD,aS,simprocAttr,Tryz.facts,zA,aj hk]
        first | exact Abs.Sub.refl _ | exact ⟨rfl,Abs.Sub.refl _⟩ | (trace_state; fail)
  · obtain rfl : R = false := by rw [hR]; simp [n1]
    have q1 : ¬ n = 1 := by omega
    by_cases q3 : prev.length = 32
    · skip
      refine az (c := ⟨Tryz.prog,75,[(1000000,[1]),(4000007,[1,4,74]),(4000005,[1,4,65]),(4000002,[1,60]),(4000001,[1,3])],[],[]⟩) (rs := [ResultVar.tmp 2]) Tryz.mixed Tryz.func11 rfl rfl rfl (Nat.le_of_ble_eq_true rfl) (by kernel_rfl) fun H => ?_
      simp (disch := omega) only [↓aI,↓zP,aD,zD,aS,simprocAttr,Tryz.facts,zA]
      intro k hk0 hk
      try simp (disch := omega) only [↓aI,↓zP,aD,zD,aS,simprocAttr,Tryz.facts,zA,aj hk]
      first | exact Abs.Sub.refl _ | exact ⟨rfl,Abs.Sub.refl _⟩ | (trace_state; fail)
    · skip
      refine az (c := ⟨Tryz.prog,75,[(1000000,[1]),(4000007,[1,4,74]),(4000005,[1,4,65]),(4000002,[1,60]),(4000001,[1,3])],[],[]⟩) (rs := [ResultVar.tmp 2]) Tryz.mixed Tryz.func11 rfl rfl rfl (Nat.le_of_ble_eq_true rfl) (by kernel_rfl) fun H => ?_
      simp (disch := omega) only [↓aI,↓zP,aD,zD,aS,simprocAttr,Tryz.facts,zA]
      intro k hk0 hk
      try simp (disch := omega) only [↓aI,↓zP,aD,zD,aS,simprocAttr,Tryz.facts,zA,aj hk]
      first | exact Abs.Sub.refl _ | exact ⟨rfl,Abs.Sub.refl _⟩ | (trace_state; fail)
end Go.Proofs.YtjlnpngaiphnmaaGreat
end
section
set_option linter.unusedSimpArgs false
set_option linter.unusedVariables false
set_option maxRecDepth 20000
set_option maxHeartbeats 4000000
namespace Go.Proofs.YtjlnpngaiphnmaaGreat
open Go Go.Abs Go.Proofs
def gG (ms : List Mem) (id : Int) : Bool := (fu ms id).2
def jr : Bool → List (List Mem) → Int → Bool
  | _,[],_ => false
  | was,ms :: l,id => if was && !gG ms id then true else jr (gG ms id) l id
def j6 : List (List Mem) → Int → Bool
  | [],_ => false
  | ms :: l,id => (gG ms id && l.any fun k => !gG k id) || j6 l id
theorem gone_left : ∀ (l : List (List Mem)) (was : Bool) (id : Int),jr was l id = ((was && l.any fun k => !gG k id) || j6 l id)
  | [],was,id => by simp [jr,j6]
  | ms :: l,was,id => by
    have ih := gone_left l (gG ms id) id
    rw [show jr was (ms :: l) id = if was && !gG ms id then true else jr (gG ms id) l id from rfl,ih]
    rw [show j6 (ms :: l) id = ((gG ms id && l.any fun k => !gG k id) || j6 l id) from rfl,List.any_cons]
    generalize j6 l id = a
    generalize (l.any fun k => !gG k id) = b
    cases was <;> cases gG ms id <;> cases a <;> cases b <;> rfl
def diffM (a b : Mem) : Bool := !(a.pub == b.pub) || !(a.sgn == b.sgn)
def folD (last ms : List Mem) (lf : Int → Bool) : List Int → List Nd → Bool
  | [],es => es.isEmpty
  | id :: ids,es =>
    if gG ms id && lf id then false
    else if gG last id && gG ms id && diffM (fu last id).1 (fu ms id).1 then false
    else if gG last id && !gG ms id then (match es with | [] => false | x :: r => if x.author = id then folD last ms lf ids r else false)
    else folD last ms lf ids es
def okP (last : List Mem) (lf : Int → Bool) (m : Mem) : Bool := !(lf m.id) && !(gG last m.id && diffM (fu last m.id).1 m)
def jR (last ms : List Mem) : List Int := (last.filter fun m => !gG ms m.id).map Mem.id
def folP (last ms : List Mem) (lf : Int → Bool) (es : List Nd) : Bool := ms.all (okP last lf) && decide (jR last ms = es.map Nd.author)
theorem folD_eq (last ms : List Mem) (lf : Int → Bool) : ∀ (ids : List Int) (es : List Nd), folD last ms lf ids es =
    ((ids.all fun id => !(gG ms id) || (!(lf id) && !(gG last id && diffM (fu last id).1 (fu ms id).1))) && decide ((ids.filter fun id => gG last id && !gG ms id) = es.map Nd.author))
  | [],es => by cases es <;> simp [folD]
  | id :: ids,es => by
    have ih := folD_eq last ms lf ids
    unfold folD
    rw [List.all_cons,List.filter_cons]
    generalize lf id = a
    generalize diffM (fu last id).1 (fu ms id).1 = b
    generalize gG last id = c
    generalize gG ms id = e
    cases a <;> cases b <;> cases c <;> cases e
    all_goals try (simp only [Bool.and_self,Bool.and_true,Bool.and_false,Bool.true_and,Bool.false_and,Bool.not_true,Bool.not_false,Bool.true_or,Bool.false_or,Bool.or_true,Bool.or_false,if_true,if_false,Bool.false_eq_true]; rw [ih]; done)
    all_goals try (simp; done)
    all_goals
      cases es with
      | nil => simp
      | cons x r =>
        simp only [Bool.and_self,Bool.and_true,Bool.and_false,Bool.true_and,Bool.false_and,Bool.not_true,Bool.not_false,Bool.true_or,Bool.false_or,Bool.or_true,Bool.or_false,if_true,if_false,Bool.false_eq_true,List.map_cons,List.cons.injEq]
        by_cases h : x.author = id
        · rw [if_pos h,ih]
          simp [h]
        · rw [if_neg h]
          have h2 : ¬ id = x.author := fun e => h e.symm
          simp [h2]
theorem find_mem : ∀ {ms : List Mem} {id : Int},(fu ms id).2 = true → (fu ms id).1 ∈ ms ∧ (fu ms id).1.id = id
  | [],id,h => by simp [fu] at h
  | m :: l,id,h => by
    unfold fu at h ⊢
    by_cases c : m.id = id
    · rw [if_pos c]; exact ⟨by simp,c⟩
    · rw [if_neg c] at h ⊢
      have := find_mem h
      exact ⟨by simp [this.1],this.2⟩
theorem jp : ∀ {l : List Int} {last : Int},gC last l = true → ∀ x ∈ l,last < x ∧ x < 5
  | [],_,_,x,hx => by cases hx
  | n :: l,last,h,x,hx => by
    unfold gC at h
    rw [Bool.and_eq_true,Bool.and_eq_true,decide_eq_true_eq,decide_eq_true_eq] at h
    rcases List.mem_cons.1 hx with rfl | hx
    · exact ⟨h.1,h.2.1⟩
    · have := jp h.2.2 x hx
      exact ⟨by omega,this.2⟩
theorem rise_low : ∀ {l : List Int} {last k : Int},gC last l = true → (∀ x ∈ l,k < x) → gC k l = true
  | [],_,_,_,_ => rfl
  | n :: l,last,k,h,hk => by
    unfold gC at h ⊢
    rw [Bool.and_eq_true,Bool.and_eq_true,decide_eq_true_eq] at h ⊢
    exact ⟨hk n (by simp),h.2⟩
theorem find_of : ∀ {ms : List Mem} {last : Int},gC last (ms.map Mem.id) = true → ∀ m ∈ ms,fu ms m.id = (m,true)
  | [],_,_,m,hm => by cases hm
  | x :: l,last,h,m,hm => by
    rw [List.map_cons] at h
    have hr : gC x.id (l.map Mem.id) = true := by
      unfold gC at h
      rw [Bool.and_eq_true,Bool.and_eq_true] at h
      exact h.2.2
    unfold fu
    rcases List.mem_cons.1 hm with rfl | hm
    · rw [if_pos rfl]
    · have h1 := (jp hr m.id (List.mem_map.2 ⟨m,hm,rfl⟩)).1
      rw [if_neg (by omega)]
      exact find_of hr m hm
theorem memb_iff {ms : List Mem} {last : Int} (h : gC last (ms.map Mem.id) = true) (id : Int) : gG ms id = decide (id ∈ ms.map Mem.id) := by
  rw [Bool.eq_iff_iff,decide_eq_true_eq]
  constructor
  · intro hm
    have := find_mem hm
    exact List.mem_map.2 ⟨_,this.1,this.2⟩
  · intro hm
    obtain ⟨m,h1,rfl⟩ := List.mem_map.1 hm
    unfold gG
    rw [find_of h m h1]
theorem rise_filter (l : List Int) (h : gC (-1) l = true) : l = [0,1,2,3,4].filter fun id => decide (id ∈ l) := by
  have step : ∀ (ids : List Int) (k : Int),(∀ l,gC k l = true → l = ids.filter fun id => decide (id ∈ l)) → (∀ y ∈ ids,k < y) → ∀ l,gC (k - 1) l = true → l = (k :: ids).filter fun id => decide (id ∈ l) := by
    intro ids k ih hid l hl
    by_cases hk : k ∈ l
    · cases l with
      | nil => cases hk
      | cons x r =>
        have hx := (jp hl x (by simp)).1
        have hr : gC x r = true := by
          unfold gC at hl
          rw [Bool.and_eq_true,Bool.and_eq_true] at hl
          exact hl.2.2
        have hxk : x = k := by
          rcases List.mem_cons.1 hk with e | e
          · exact e.symm
          · have := (jp hr k e).1; omega
        subst hxk
        rw [List.filter_cons,if_pos (by simp)]
        congr 1
        have h1 := ih r hr
        have h2 : (ids.filter fun id => decide (id ∈ x :: r)) = ids.filter fun id => decide (id ∈ r) := List.filter_congr fun y hy => by
          have := hid y hy
          have hne : ¬ y = x := by omega
          simp [hne]
        rw [h2]
        exact h1
    · have hl2 : gC k l = true := rise_low hl fun x hx => by
        have := (jp hl x hx).1
        have : x ≠ k := fun e => hk (e ▸ hx)
        omega
      rw [List.filter_cons,if_neg (by simp [hk])]
      exact ih l hl2
  have h5 : ∀ l,gC 4 l = true → l = ([] : List Int).filter fun id => decide (id ∈ l) := fun l hl => by
    cases l with
    | nil => rfl
    | cons x r => have := jp hl x (by simp); omega
  have h4 := step [] 4 h5 (fun _ h => by cases h)
  have h3 := step [4] 3 h4 (fun y hy => by simp at hy; omega)
  have h2 := step [3,4] 2 h3 (fun y hy => by simp at hy; omega)
  have h1 := step [2,3,4] 1 h2 (fun y hy => by simp at hy; omega)
  have h0 := step [1,2,3,4] 0 h1 (fun y hy => by simp at hy; omega)
  exact h0 l h
theorem went_eq {last ms : List Mem} (h : gC (-1) (last.map Mem.id) = true) : jR last ms = [0,1,2,3,4].filter fun id => gG last id && !gG ms id := by
  unfold jR
  have e : (last.filter fun m => !gG ms m.id).map Mem.id = (last.map Mem.id).filter fun id => !gG ms id := by
    rw [List.filter_map]; rfl
  rw [e]
  have h2 := rise_filter _ h
  have h3 : (last.map Mem.id).filter (fun id => !gG ms id) = ([0,1,2,3,4].filter fun id => decide (id ∈ last.map Mem.id)).filter (fun id => !gG ms id) := by
    rw [← h2]
  rw [h3,List.filter_filter]
  refine List.filter_congr fun id _ => ?_
  rw [memb_iff h,Bool.and_comm]
theorem all_eq {ms : List Mem} (h : gC (-1) (ms.map Mem.id) = true) (p : Mem → Bool) : ms.all p = [0,1,2,3,4].all fun id => !(gG ms id) || p (fu ms id).1 := by
  rw [Bool.eq_iff_iff,List.all_eq_true,List.all_eq_true]
  constructor
  · intro hp id _
    rcases hm : gG ms id with _ | _
    · rfl
    · have := find_mem (show (fu ms id).2 = true from hm)
      simp [hp _ this.1]
  · intro hp m hm
    have hr := jp h m.id (List.mem_map.2 ⟨m,hm,rfl⟩)
    have hf := find_of h m hm
    have h0 : m.id ∈ ([0,1,2,3,4] : List Int) := by
      have : m.id = 0 ∨ m.id = 1 ∨ m.id = 2 ∨ m.id = 3 ∨ m.id = 4 := by omega
      simp [this]
    have h1 := hp m.id h0
    have hmm : gG ms m.id = true := by unfold gG; rw [hf]
    rw [hmm,hf] at h1
    simpa using h1
theorem fol_eq {last ms : List Mem} (lf : Int → Bool) (es : List Nd) (hl : gC (-1) (last.map Mem.id) = true) (hm : gC (-1) (ms.map Mem.id) = true) : folD last ms lf [0,1,2,3,4] es = folP last ms lf es := by
  rw [folD_eq]
  unfold folP
  rw [went_eq hl,all_eq hm]
  congr 1
  rw [Bool.eq_iff_iff,List.all_eq_true,List.all_eq_true]
  have key : ∀ id ∈ ([0,1,2,3,4] : List Int),(!(gG ms id) || (!(lf id) && !(gG last id && diffM (fu last id).1 (fu ms id).1))) = (!(gG ms id) || okP last lf (fu ms id).1) := fun id _ => by
    rcases hh : gG ms id with _ | _
    · rfl
    · have := (find_mem (show (fu ms id).2 = true from hh)).2
      unfold okP
      rw [this]
  constructor
  · intro h id hid
    rw [← key id hid]; exact h id hid
  · intro h id hid
    rw [key id hid]; exact h id hid
end Go.Proofs.YtjlnpngaiphnmaaGreat
end
section
set_option linter.unusedSimpArgs false
set_option linter.unusedVariables false
set_option maxRecDepth 20000
set_option maxHeartbeats 8000000
namespace Go.Proofs.YtjlnpngaiphnmaaGreat
open Go Go.Abs Go.Proofs
abbrev lgB (a : AV) (k : Nat) (es : List Ent) (d : AV) : AObj := .cells [a,.imm k (es.flatMap fX) es.length,d] 97 3
theorem ent_load {es : List Ent} {i : Nat} (h : i < es.length) : List.take 7 (List.drop (i * 7) (es.flatMap fX)) = [.sc (.int .i64 (es[i]).n),eu (es[i]).prev,fE (es[i]).members,fY (es[i]).ends,eu (es[i]).once,fZ (es[i]).boxes,eu (es[i]).sig] := jZ i7 h
theorem gone_live (H : AH) (r k : Nat) (a d : AV) (es : List Ent) (id : Int) (hl : es.length ≤ 1000000) (hm : ∀ e ∈ es,e.members.length ≤ 1000000) (hr : H r = some (lgB a k es d)) : ACalls Tryz.prog 84 [.ptr r 0,.sc (.int .i64 id)] H fun v H' => v = .sc (.bool (jr false (es.map Ent.members) id)) ∧ H' = H := by
  have hcl : (es.flatMap fX).length = es.length * 7 := fF i7 es
  have hld := fun i (h : i < es.length) => ent_load h
  generalize hR : jr false (es.map Ent.members) id = R at *
  refine ao (c := ⟨Tryz.prog,33,[(1000004,[7]),(1000005,[8])],[],[]⟩) (rs := [ResultVar.tmp 4]) Tryz.mixed Tryz.func84 rfl rfl rfl (Nat.le_of_ble_eq_true rfl) (by kernel_rfl) ?_
  simp (disch := omega) only [↓aI,↓zP,aD,zD,aS,simprocAttr,Tryz.facts,hr]
  refine br (c := ⟨Tryz.prog,33,[(1000004,[7]),(1000005,[8])],[],[]⟩) Tryz.mixed (by kernel_rfl) (fun mm σ H' => H' = H ∧ ∃ (i : Nat) (was : Bool),i + mm = es.length ∧ jr was ((es.drop i).map Ent.members) id = R ∧
    σ 1 = .sc (.int .i64 id) ∧ σ 5 = .sc (.bool was) ∧ σ 13 = .imm k (es.flatMap fX) es.length ∧ σ 14 = .sc (.int .i64 (es.length : Nat)) ∧ σ 15 = .sc (.int .i64 (i : Nat))) es.length ?_ ?_
  · refine ⟨rfl,0,false,by omega,hR,?_⟩
    simp (disch := omega) only [↓aI,↓zP,aD,zD,aS,simprocAttr,Tryz.facts,zA]
  · rintro mm σ H' ⟨rfl,i,was,him,hf,s1,s5,s13,s14,s15⟩
    by_cases hlt : i < es.length
    · have hd : es.drop i = es[i] :: es.drop (i + 1) := List.drop_eq_getElem_cons hlt
      have hl := hld i hlt
      have hc3 : i * 7 + 7 ≤ es.length * 7 := by omega
      have hml := hm _ (List.getElem_mem hlt)
      rw [hd,List.map_cons] at hf
      have hfd := find_pure (es[i]).members id hml
      unfold jr at hf
      rw [show gG (es[i]).members id = (fu (es[i]).members id).2 from rfl] at hf
      generalize fu (es[i]).members id = fm at *
      obtain ⟨⟨mi,mp,mg⟩,was2⟩ := fm
      simp only [fL] at hfd hf
      generalize es[i] = e at *
      obtain ⟨n,prev,ms,ns,once,bs,sig⟩ := e
      simp only [] at hf hl hfd hml
      cases was
      all_goals cases was2
      all_goals
        simp only [Bool.false_and,Bool.true_and,Bool.not_true,Bool.not_false,if_true,if_false,Bool.false_eq_true] at hf
        simp (disch := omega) only [↓aI,↓zP,aD,zD,aS,simprocAttr,Tryz.facts,zA,s1,s5,s13,s14,s15,hcl,hl,hc3,ah]
        intro k7 hk70 hk7
        try simp (disch := omega) only [↓aI,↓zP,aD,zD,aS,simprocAttr,Tryz.facts,zA,s1,s5,s13,s14,s15,hcl,hl,hc3,ah]
        first | refine CallK.p (hfd) ?_ | refine CallP.i (hfd) ?_
        simp (disch := omega) only [↓aI,↓zP,aD,zD,aS,simprocAttr,Tryz.facts,zA,s1,s5,s13,s14,s15]
        rw [aj hk7]
        intro k8 hk80 hk8
        try simp (disch := omega) only [↓aI,↓zP,aD,zD,aS,simprocAttr,Tryz.facts,zA,s1,s5,s13,s14,s15,aj hk8]
        first | exact ⟨mm - 1,by omega,i + 1,_,by omega,hf,rfl,rfl⟩ | (subst hf; exact ⟨_,rfl,_,Abs.Sub.refl _,rfl,rfl⟩) | (trace_state; fail)
    · obtain rfl : i = es.length := by omega
      rw [List.drop_length,List.map_nil] at hf
      unfold jr at hf
      subst hf
      simp (disch := omega) only [↓aI,↓zP,aD,zD,aS,simprocAttr,Tryz.facts,zA,s1,s5,s13,s14,s15,hcl]
      exact ⟨_,rfl,_,Abs.Sub.refl _,rfl,rfl⟩
end Go.Proofs.YtjlnpngaiphnmaaGreat
end
