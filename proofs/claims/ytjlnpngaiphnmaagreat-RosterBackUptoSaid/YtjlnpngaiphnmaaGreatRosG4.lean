/-
  Several texts in one: each says what it proves.
  Conditions: none. Lemmas only.
-/
import Derived.Test.YtjlnpngaiphnmaaGreatRosG3
import Derived.Test.YtjlnpngaiphnmaaGreatRosG1
set_option linter.all false
section
set_option linter.unusedSimpArgs false
set_option linter.unusedVariables false
set_option maxRecDepth 20000
set_option maxHeartbeats 8000000
namespace Go.Proofs.YtjlnpngaiphnmaaGreat
open Go Go.Abs Go.Proofs
def iK (es : List Ent) : List Mem := (es.getLast?.map Ent.members).getD []
theorem went_cons (m : Mem) (l ms : List Mem) : jR (m :: l) ms = if gG ms m.id then jR l ms else m.id :: jR l ms := by
  unfold jR
  rw [List.filter_cons]
  cases gG ms m.id <;> rfl
theorem follows_live (H : AH) (r k : Nat) (a d : AV) (es : List Ent) (ms : List Mem) (ns : List Nd) (hl : es.length ≤ 1000000) (hm : ∀ e ∈ es,e.members.length ≤ 1000000) (hms : ms.length ≤ 1000000) (hns : ns.length ≤ 1000000) (hr : H r = some (lgB a k es d)) : ACalls Tryz.prog 54 [.ptr r 0,fE ms,fY ns] H fun v H' => v = .sc (.bool (folP (iK es) ms (jr false (es.map Ent.members)) ns)) ∧ H' = H := by
  have hcl : (es.flatMap fX).length = es.length * 7 := fF i7 es
  have hml : (ms.flatMap fL).length = ms.length * 3 := fF fU ms
  have hnl : (ns.flatMap ndC).length = ns.length * 2 := fF gZ ns
  have hmd := fun i (h : i < ms.length) => iJ h
  have hnd := fun i (h : i < ns.length) => nd_load h
  have hfm := fun id => find_pure ms id hms
  have hll : (iK es).length ≤ 1000000 := by
    unfold iK
    rcases h : es.getLast? with _ | e
    · simp
    · exact hm e (List.mem_of_getLast? h)
  have hgo := fun id H' (h : H' r = some (lgB a k es d)) => gone_live H' r k a d es id hl hm h
  obtain ⟨lf,hlf⟩ : ∃ lf,lf = jr false (es.map Ent.members) := ⟨_,rfl⟩
  rw [← hlf] at hgo ⊢
  obtain ⟨R1,hR1⟩ : ∃ R1,ms.all (okP (iK es) lf) = R1 := ⟨_,rfl⟩
  obtain ⟨R,hR⟩ : ∃ R,folP (iK es) ms lf ns = R := ⟨_,rfl⟩
  have hR' : (R1 && decide (jR (iK es) ms = ns.map Nd.author)) = R := by rw [← hR1,← hR]; rfl
  rw [hR]
  have hfn := fun id => find_pure (iK es) id hll
  have hne : ∀ h : 0 < es.length,(es[es.length - 1]).members = iK es := fun h => by
    unfold iK
    rw [List.getLast?_eq_getElem?,List.getElem?_eq_getElem (by omega)]
    rfl
  have hld : ∀ h : 0 < es.length,(es.flatMap fX)[(es.length - 1) * 7 + 2]? = some (fE (es[es.length - 1]).members) := fun h => by
    rw [gu i7 (by omega) (by omega)]
    rfl
  have hemp : es.length = 0 → iK es = [] := fun h => by
    rw [List.length_eq_zero_iff] at h
    rw [h]; rfl
  generalize iK es = last at *
  by_cases h0 : 0 < es.length
  have hl1 := hld h0
  rw [hne h0] at hl1
  have hA0 : (fE last = .sc (.slice none 0 0) ∧ last = []) ∨ fE last = fE last := .inr rfl
  refine ao (c := ⟨Tryz.prog,116,[(3,[0,0,0,1,0,0,0,1,1,0,0,0,1,0]),(24,[0,1,0,0,0,1,0]),(1000006,[9]),(1000007,[10]),(1000014,[14]),(1000015,[15]),(1000023,[18]),(4000024,[12,101,102,103,114]),(4000023,[12,17,18,101,102,103]),(4000019,[2,12,100]),(4000017,[1,2,12,75,76,77]),(4000015,[1,2,12,14,16,75,76,77]),(4000008,[0,1,2,7,38,39,40,73]),(4000007,[0,1,2,7,9,10,11,38,39,40]),(4000003,[0,1,2,7]),(4000002,[0,1,2,7,24])],[],[]⟩) (rs := [ResultVar.tmp 6]) Tryz.mixed Tryz.func54 rfl rfl rfl (Nat.le_of_ble_eq_true rfl) (by kernel_rfl) ?_
  simp (disch := omega) only [↓aI,↓zP,aD,zD,aS,simprocAttr,Tryz.facts,zA,hr,hcl,hl1]
  rotate_left
  have hA0 : (AV.sc (.slice none 0 0) = .sc (.slice none 0 0) ∧ last = []) ∨ AV.sc (.slice none 0 0) = fE last := .inl ⟨rfl,hemp (by omega)⟩
  refine ao (c := ⟨Tryz.prog,116,[(3,[0,0,0,1,0,0,0,1,1,0,0,0,1,0]),(24,[0,1,0,0,0,1,0]),(1000006,[9]),(1000007,[10]),(1000014,[14]),(1000015,[15]),(1000023,[18]),(4000024,[12,101,102,103,114]),(4000023,[12,17,18,101,102,103]),(4000019,[2,12,100]),(4000017,[1,2,12,75,76,77]),(4000015,[1,2,12,14,16,75,76,77]),(4000008,[0,1,2,7,38,39,40,73]),(4000007,[0,1,2,7,9,10,11,38,39,40]),(4000003,[0,1,2,7]),(4000002,[0,1,2,7,24])],[],[]⟩) (rs := [ResultVar.tmp 6]) Tryz.mixed Tryz.func54 rfl rfl rfl (Nat.le_of_ble_eq_true rfl) (by kernel_rfl) ?_
  simp (disch := omega) only [↓aI,↓zP,aD,zD,aS,simprocAttr,Tryz.facts,zA,hr]
  all_goals
    refine br (c := ⟨Tryz.prog,116,[(3,[0,0,0,1,0,0,0,1,1,0,0,0,1,0]),(24,[0,1,0,0,0,1,0]),(1000006,[9]),(1000007,[10]),(1000014,[14]),(1000015,[15]),(1000023,[18]),(4000024,[12,101,102,103,114]),(4000023,[12,17,18,101,102,103]),(4000019,[2,12,100]),(4000017,[1,2,12,75,76,77]),(4000015,[1,2,12,14,16,75,76,77]),(4000008,[0,1,2,7,38,39,40,73]),(4000007,[0,1,2,7,9,10,11,38,39,40]),(4000003,[0,1,2,7]),(4000002,[0,1,2,7,24])],[],[]⟩) Tryz.mixed (by kernel_rfl) (fun mm σ H' => H' = H ∧ ∃ (i : Nat) (A : AV),i + mm = ms.length ∧ ((A = .sc (.slice none 0 0) ∧ last = []) ∨ A = fE last) ∧ (ms.drop i).all (okP last lf) = R1 ∧ σ 0 = .ptr r 0 ∧ σ 1 = fE ms ∧ σ 2 = fY ns ∧ σ 7 = A ∧ σ 38 = fE ms ∧ σ 39 = .sc (.int .i64 (ms.length : Nat)) ∧ σ 40 = .sc (.int .i64 (i : Nat))) ms.length ?_ ?_
    · refine ⟨rfl,0,_,by omega,hA0,hR1,?_⟩
      simp (disch := omega) only [↓aI,↓zP,aD,zD,aS,simprocAttr,Tryz.facts,zA]
    · rintro mm σ H' ⟨rfl,i,A,him,hA,hf,s0,s1,s2,s7,s38,s39,s40⟩
      have hst : A.strip = fE last := by rcases hA with ⟨rfl,rfl⟩ | rfl <;> rfl
      have hlA : aV (some (TypeDesc.slice 30)) A = some (.sc (.int .i64 (last.length : Nat))) := by rcases hA with ⟨rfl,rfl⟩ | rfl <;> rfl
      by_cases hlt : i < ms.length
      · have hd : ms.drop i = ms[i] :: ms.drop (i + 1) := List.drop_eq_getElem_cons hlt
        have hl := hmd i hlt
        have hc3 : i * 3 + 3 ≤ ms.length * 3 := by omega
        rw [hd,List.all_cons] at hf
        have hfx := hfn (ms[i]).id
        unfold okP at hf
        rw [show gG last (ms[i]).id = (fu last (ms[i]).id).2 from rfl] at hf
        generalize fu last (ms[i]).id = fm at *
        have hgx := hgo (ms[i]).id
        generalize lf (ms[i]).id = g at *
        generalize ms[i] = m at *
        obtain ⟨⟨fi,fp,fg⟩,f⟩ := fm
        obtain ⟨mi,mp,mg⟩ := m
        unfold diffM at hf
        simp only [fL] at hfx hgx hf hl
        have e1 := iX fp mp
        have e2 := iX fg mg
        generalize (fp == mp) = q1 at *
        generalize (fg == mg) = q2 at *
        simp (disch := omega) only [↓aI,↓zP,aD,zD,aS,simprocAttr,Tryz.facts,zA,s0,s1,s2,s7,s38,s39,s40,hml,hl,hc3,ah,hst]
        intro k7 hk70 hk7
        try simp (disch := omega) only [↓aI,↓zP,aD,zD,aS,simprocAttr,Tryz.facts,zA,s0,s1,s2,s7,s38,s39,s40,ah,hst]
        first | refine CallK.p (hfx) ?_ | refine CallP.i (hfx) ?_
        simp (disch := omega) only [↓aI,↓zP,aD,zD,aS,simprocAttr,Tryz.facts,zA,s0,s1,s2,s7,s38,s39,s40]
        rw [aj hk7]
        intro k8 hk80 hk8
        try simp (disch := omega) only [↓aI,↓zP,aD,zD,aS,simprocAttr,Tryz.facts,zA,s0,s1,s2,s7,s38,s39,s40,ah,aj hk8]
        refine CallK.i (hgx _ hr) ?_
        rintro v E ⟨rfl,rfl⟩
        cases g
        · cases f
          · simp only [Bool.not_false,Bool.false_and,Bool.true_and] at hf
            simp (disch := omega) only [↓aI,↓zP,aD,zD,aS,simprocAttr,Tryz.facts,zA,s0,s1,s2,s7,s38,s39,s40,aj hk8]
            first | exact ⟨mm - 1,by omega,i + 1,_,by omega,hA,hf,rfl,rfl⟩ | (trace_state; fail)
          · cases q1
            · simp only [Bool.not_false,Bool.not_true,Bool.true_or,Bool.false_or,Bool.false_and,Bool.true_and] at hf
              subst hf
              obtain rfl : R = false := by rw [← hR']; rfl
              simp (disch := omega) only [↓aI,↓zP,aD,zD,aS,simprocAttr,Tryz.facts,zA,s0,s1,s2,s7,s38,s39,s40,ah]
              first | refine CallK.p (e1) ?_ | refine CallP.i (e1) ?_
              simp (disch := omega) only [↓aI,↓zP,aD,zD,aS,simprocAttr,Tryz.facts,zA,s0,s1,s2,s7,s38,s39,s40,ah]
              first | exact ⟨_,rfl,_,Abs.Sub.refl _,rfl,rfl⟩ | (trace_state; fail)
            · cases q2
              · simp only [Bool.not_false,Bool.not_true,Bool.true_or,Bool.false_or,Bool.false_and,Bool.true_and] at hf
                subst hf
                obtain rfl : R = false := by rw [← hR']; rfl
                simp (disch := omega) only [↓aI,↓zP,aD,zD,aS,simprocAttr,Tryz.facts,zA,s0,s1,s2,s7,s38,s39,s40,ah]
                first | refine CallK.p (e1) ?_ | refine CallP.i (e1) ?_
                simp (disch := omega) only [↓aI,↓zP,aD,zD,aS,simprocAttr,Tryz.facts,zA,s0,s1,s2,s7,s38,s39,s40,ah]
                first | refine CallK.p (e2) ?_ | refine CallP.i (e2) ?_
                simp (disch := omega) only [↓aI,↓zP,aD,zD,aS,simprocAttr,Tryz.facts,zA,s0,s1,s2,s7,s38,s39,s40]
                first | exact ⟨_,rfl,_,Abs.Sub.refl _,rfl,rfl⟩ | (trace_state; fail)
              · simp only [Bool.not_false,Bool.not_true,Bool.true_or,Bool.false_or,Bool.false_and,Bool.true_and] at hf
                simp (disch := omega) only [↓aI,↓zP,aD,zD,aS,simprocAttr,Tryz.facts,zA,s0,s1,s2,s7,s38,s39,s40,ah]
                first | refine CallK.p (e1) ?_ | refine CallP.i (e1) ?_
                simp (disch := omega) only [↓aI,↓zP,aD,zD,aS,simprocAttr,Tryz.facts,zA,s0,s1,s2,s7,s38,s39,s40,ah]
                first | refine CallK.p (e2) ?_ | refine CallP.i (e2) ?_
                simp (disch := omega) only [↓aI,↓zP,aD,zD,aS,simprocAttr,Tryz.facts,zA,s0,s1,s2,s7,s38,s39,s40]
                first | exact ⟨mm - 1,by omega,i + 1,_,by omega,hA,hf,rfl,rfl⟩ | (trace_state; fail)
        · simp only [Bool.not_true,Bool.false_and] at hf
          subst hf
          obtain rfl : R = false := by rw [← hR']; rfl
          simp (disch := omega) only [↓aI,↓zP,aD,zD,aS,simprocAttr,Tryz.facts,zA,s0,s1,s2,s7,s38,s39,s40]
          first | exact ⟨_,rfl,_,Abs.Sub.refl _,rfl,rfl⟩ | (trace_state; fail)
      · obtain rfl : i = ms.length := by omega
        rw [List.drop_length,List.all_nil] at hf
        subst hf
        simp (disch := omega) only [↓aI,↓zP,aD,zD,aS,simprocAttr,Tryz.facts,zA,s0,s1,s2,s7,s38,s39,s40,hlA]
        rw [Bool.true_and] at hR'
        have hwd : jR (last.drop 0) ms = jR last ms := rfl
        have hld3 := fun i (h : i < last.length) => iJ h
        have hla : (last.flatMap fL).length = last.length * 3 := fF fU last
        · refine jn 12 (by simp (disch := omega) only [↓aI,↓zP,aD,zD,aS,simprocAttr,Tryz.facts]) fun kt hkt0 hkt => ?_
          refine br (c := ⟨Tryz.prog,116,[(3,[0,0,0,1,0,0,0,1,1,0,0,0,1,0]),(24,[0,1,0,0,0,1,0]),(1000006,[9]),(1000007,[10]),(1000014,[14]),(1000015,[15]),(1000023,[18]),(4000024,[12,101,102,103,114]),(4000023,[12,17,18,101,102,103]),(4000019,[2,12,100]),(4000017,[1,2,12,75,76,77]),(4000015,[1,2,12,14,16,75,76,77]),(4000008,[0,1,2,7,38,39,40,73]),(4000007,[0,1,2,7,9,10,11,38,39,40]),(4000003,[0,1,2,7]),(4000002,[0,1,2,7,24])],[],[]⟩) Tryz.mixed (by kernel_rfl) (fun mq σ E => ∃ (i : Nat) (acc : List Int) (kt : Nat) (o : AObj),i + mq = last.length ∧ acc.length ≤ i ∧ acc ++ jR (last.drop i) ms = jR last ms ∧ kt ≠ 0 ∧ H' kt = none ∧ E = H'.set kt o ∧ cy 3 1 o acc.length ∧ σ 1 = fE ms ∧ σ 2 = fY ns ∧ σ 12 = .imm kt (acc.map fun z => .sc (.int .i64 z)) acc.length ∧ σ 75 = A ∧ σ 76 = .sc (.int .i64 (last.length : Nat)) ∧ σ 77 = .sc (.int .i64 (i : Nat))) last.length ?_ ?_
          · refine ⟨0,[],kt,.nilt,by omega,by simp,rfl,hkt0,hkt,rfl,.inr ⟨rfl,rfl⟩,?_⟩
            simp (disch := omega) only [↓aI,↓zP,aD,zD,aS,simprocAttr,Tryz.facts,zA,s0,s1,s2,s7,s38,s39,s40]
          · rintro mq σ E ⟨i,acc,kt,o,hiq,hac,hw,hkt0,hkt,rfl,ho,s1,s2,s12,s75,s76,s77⟩
            have hcl2 : (acc.map fun z => (AV.sc (.int .i64 z))).length = acc.length := by simp
            by_cases hlt : i < last.length
            · obtain rfl : A = fE last := by
                rcases hA with ⟨_,rfl⟩ | h
                · simp at hlt
                · exact h
              have hd : last.drop i = last[i] :: last.drop (i + 1) := List.drop_eq_getElem_cons hlt
              have hl := hld3 i hlt
              have hc3 : i * 3 + 3 ≤ last.length * 3 := by omega
              rw [hd,went_cons] at hw
              have hfx := hfm (last[i]).id
              rw [show gG ms (last[i]).id = (fu ms (last[i]).id).2 from rfl] at hw
              generalize fu ms (last[i]).id = fm at *
              generalize last[i] = m at *
              obtain ⟨⟨fi,fp,fg⟩,f⟩ := fm
              obtain ⟨mi,mp,mg⟩ := m
              simp only [fL] at hfx hw hl
              simp (disch := omega) only [↓aI,↓zP,aD,zD,aS,simprocAttr,Tryz.facts,zA,s1,s2,s12,s75,s76,s77,hla,hl,hc3,ah]
              intro k7 hk70 hk7
              try simp (disch := omega) only [↓aI,↓zP,aD,zD,aS,simprocAttr,Tryz.facts,zA,s1,s2,s12,s75,s76,s77,ah]
              first | refine CallK.p (hfx) ?_ | refine CallP.i (hfx) ?_
              simp (disch := omega) only [↓aI,↓zP,aD,zD,aS,simprocAttr,Tryz.facts,zA,s1,s2,s12,s75,s76,s77]
              rw [aj hk7]
              intro k8 hk80 hk8
              try simp (disch := omega) only [↓aI,↓zP,aD,zD,aS,simprocAttr,Tryz.facts,zA,s1,s2,s12,s75,s76,s77,aj hk8]
              cases f
              · simp only [Bool.false_eq_true,if_false] at hw
                simp (disch := omega) only [↓aI,↓zP,aD,zD,aS,simprocAttr,Tryz.facts,zA,s1,s2,s12,s75,s76,s77,set_get,hcl2,ho,aj hk8]
                try intro k9 o9 hk90 hk9 ho9
                try simp (disch := omega) only [↓aI,↓zP,aD,zD,aS,simprocAttr,Tryz.facts,zA,s1,s2,s12,s75,s76,s77,aj hkt,aj hk8]
                exact ⟨mq - 1,by omega,i + 1,acc ++ [mi],k9,o9,by omega,by simp; omega,by rw [← hw]; simp,hk90,am hk9,rfl,by simpa using ho9,by simp,rfl⟩
              · simp only [if_true] at hw
                simp (disch := omega) only [↓aI,↓zP,aD,zD,aS,simprocAttr,Tryz.facts,zA,s1,s2,s12,s75,s76,s77,aj hk8]
                first | exact ⟨mq - 1,by omega,i + 1,acc,kt,o,by omega,by omega,hw,hkt0,hkt,rfl,ho,rfl,rfl⟩ | (trace_state; fail)
            · obtain rfl : i = last.length := by omega
              rw [List.drop_length] at hw
              have hw : acc = jR last ms := by rw [← hw]; simp [jR]
              subst hw
              by_cases hlen : (jR last ms).length = ns.length
              · generalize jR last ms = W at *
                simp (disch := omega) only [↓aI,↓zP,aD,zD,aS,simprocAttr,Tryz.facts,zA,s1,s2,s12,s75,s76,s77]
                refine br (c := ⟨Tryz.prog,116,[(3,[0,0,0,1,0,0,0,1,1,0,0,0,1,0]),(24,[0,1,0,0,0,1,0]),(1000006,[9]),(1000007,[10]),(1000014,[14]),(1000015,[15]),(1000023,[18]),(4000024,[12,101,102,103,114]),(4000023,[12,17,18,101,102,103]),(4000019,[2,12,100]),(4000017,[1,2,12,75,76,77]),(4000015,[1,2,12,14,16,75,76,77]),(4000008,[0,1,2,7,38,39,40,73]),(4000007,[0,1,2,7,9,10,11,38,39,40]),(4000003,[0,1,2,7]),(4000002,[0,1,2,7,24])],[],[]⟩) Tryz.mixed (by kernel_rfl) (fun mp σ E => E = H'.set kt o ∧ ∃ (i : Nat),i + mp = ns.length ∧ decide (W.drop i = (ns.drop i).map Nd.author) = R ∧ σ 12 = .imm kt (W.map fun z => .sc (.int .i64 z)) W.length ∧ σ 101 = fY ns ∧ σ 102 = .sc (.int .i64 (ns.length : Nat)) ∧ σ 103 = .sc (.int .i64 (i : Nat))) ns.length ?_ ?_
                · refine ⟨rfl,0,by omega,hR',?_⟩
                  simp (disch := omega) only [↓aI,↓zP,aD,zD,aS,simprocAttr,Tryz.facts,zA,s1,s2,s12,s75,s76,s77]
                · rintro mp σ E ⟨rfl,i,hip,hw,s12,s101,s102,s103⟩
                  by_cases hlt : i < ns.length
                  · have hd1 : ns.drop i = ns[i] :: ns.drop (i + 1) := List.drop_eq_getElem_cons hlt
                    have hd2 : W.drop i = W[i] :: W.drop (i + 1) := List.drop_eq_getElem_cons (by omega)
                    have hg : (W.map fun z => AV.sc (.int .i64 z))[i]? = some (.sc (.int .i64 (W[i]))) := by simp [hlen,hlt]
                    have hl := hnd i hlt
                    have hc3 : i * 2 + 2 ≤ ns.length * 2 := by omega
                    rw [hd1,hd2,List.map_cons] at hw
                    generalize W[i] = w at *
                    generalize ns[i] = x at *
                    obtain ⟨xa,xs⟩ := x
                    simp only [] at hw hl
                    simp (disch := omega) only [↓aI,↓zP,aD,zD,aS,simprocAttr,Tryz.facts,zA,s12,s101,s102,s103,hnl,hl,hc3,ah]
                    intro k7 hk70 hk7
                    by_cases hx : xa = w
                    · subst hx
                      try simp (disch := omega) only [↓aI,↓zP,aD,zD,aS,simprocAttr,Tryz.facts,zA,s12,s101,s102,s103,ah,aj hk7,hg,hlen]
                      have hw2 : decide (W.drop (i + 1) = (ns.drop (i + 1)).map Nd.author) = R := by rw [← hw]; simp
                      first | exact ⟨mp - 1,by omega,i + 1,by omega,hw2,rfl⟩ | exact ⟨mp - 1,by omega,i + 1,by omega,hw2,rfl,rfl⟩ | (trace_state; fail)
                    · obtain rfl : R = false := by rw [← hw,decide_eq_false]; intro e; exact hx (List.cons.inj e).1.symm
                      try simp (disch := omega) only [↓aI,↓zP,aD,zD,aS,simprocAttr,Tryz.facts,zA,s12,s101,s102,s103,ah,aj hk7,hg,hlen]
                      exact ⟨_,rfl,_,Sub.set_new hkt,rfl,rfl⟩
                  · obtain rfl : i = ns.length := by omega
                    obtain rfl : R = true := by
                      rw [← hw,decide_eq_true]
                      rw [List.drop_length,← hlen,List.drop_length]; rfl
                    simp (disch := omega) only [↓aI,↓zP,aD,zD,aS,simprocAttr,Tryz.facts,zA,s12,s101,s102,s103]
                    exact ⟨_,rfl,_,Sub.set_new hkt,rfl,rfl⟩
              · obtain rfl : R = false := by
                  rw [← hR',decide_eq_false]
                  intro e
                  exact hlen (by rw [e,List.length_map])
                simp (disch := omega) only [↓aI,↓zP,aD,zD,aS,simprocAttr,Tryz.facts,zA,s1,s2,s12,s75,s76,s77]
                first | exact ⟨_,rfl,_,Sub.set_new hkt,rfl,rfl⟩ | (trace_state; fail)
end Go.Proofs.YtjlnpngaiphnmaaGreat
end
section
set_option linter.unusedSimpArgs false
set_option linter.unusedVariables false
set_option maxRecDepth 20000
set_option maxHeartbeats 8000000
namespace Go.Proofs.YtjlnpngaiphnmaaGreat
open Go Go.Abs Go.Proofs
theorem jU (a b : AV) (ms : List Mem) (c d e f : AV) (id : Int) (hl : ms.length ≤ 1000000) : APure Tryz.prog 27 [.agg [a,b,fE ms,c,d,e,f],.sc (.int .i64 id)] (.tup [.agg (fL (fu ms id).1),.sc (.bool (fu ms id).2)]) := by
  have hcl : (ms.flatMap fL).length = ms.length * 3 := fF fU ms
  have hld := fun i (h : i < ms.length) => iJ h
  have hid := fun i (h : i < ms.length) => (show (ms.flatMap fL)[i * 3]? = some (.sc (.int .i64 (ms[i]).id)) from by
    have := gu fU h (j := 0) (by omega)
    rw [Nat.add_zero] at this
    rw [this]; rfl)
  generalize hR : fu ms id = R at *
  refine az (c := ⟨Tryz.prog,28,[(1000000,[2])],[],[]⟩) (rs := [ResultVar.cell 4 30,ResultVar.tmp 5]) Tryz.mixed Tryz.func27 rfl rfl rfl (Nat.le_of_ble_eq_true rfl) (by kernel_rfl) fun H => ?_
  simp (disch := omega) only [↓aI,↓zP,aD,zD,aS,simprocAttr,Tryz.facts,zA]
  intro k2 hk20 hk2
  try simp (disch := omega) only [↓aI,↓zP,aD,zD,aS,simprocAttr,Tryz.facts,zA]
  intro b4 hb40 hb4
  have n24 := bK hb4
  try simp (disch := omega) only [↓aI,↓zP,aD,zD,aS,simprocAttr,Tryz.facts,zA,aP n24,set_get]
  refine br (c := ⟨Tryz.prog,28,[(1000000,[2])],[],[]⟩) Tryz.mixed (by kernel_rfl) (fun mm σ H' => H' = H.set b4 (.cells [.sc (.int .i64 0),.sc (.slice none 0 0),.sc (.slice none 0 0)] 30 3) ∧ ∃ (i : Nat),i + mm = ms.length ∧ fu (ms.drop i) id = R ∧
    σ 1 = .sc (.int .i64 id) ∧ σ 2 = .ip [a,b,fE ms,c,d,e,f] 0 ∧ σ 4 = .ptr b4 0 ∧ σ 6 = .sc (.int .i64 (i : Nat))) ms.length ?_ ?_
  · skip
    refine ⟨?_,0,by omega,hR,?_⟩
    · exact bH hk2 n24
    simp (disch := omega) only [↓aI,↓zP,aD,zD,aS,simprocAttr,Tryz.facts,zA]
  · rintro mm σ H' ⟨rfl,i,him,hf,s1,s2,s4,s6⟩
    by_cases hlt : i < ms.length
    · have hd : ms.drop i = ms[i] :: ms.drop (i + 1) := List.drop_eq_getElem_cons hlt
      have hl := hld i hlt
      have hi := hid i hlt
      have hc3 : i * 3 + 3 ≤ ms.length * 3 := by omega
      rw [hd] at hf
      unfold fu at hf
      generalize ms[i] = m at *
      obtain ⟨mi,mp,mg⟩ := m
      simp only [] at hf hl hi
      by_cases cc : mi = id
      · rw [if_pos cc] at hf
        subst hf
        simp (disch := omega) only [↓aI,↓zP,aD,zD,aS,simprocAttr,Tryz.facts,zA,s1,s2,s4,s6,hcl,hl,hi,hc3,ah]
        exact ⟨rfl,Sub.set_new (am hb4)⟩
      · rw [if_neg cc] at hf
        simp (disch := omega) only [↓aI,↓zP,aD,zD,aS,simprocAttr,Tryz.facts,zA,s1,s2,s4,s6,hcl,hl,hi,hc3,ah]
        exact ⟨mm - 1,by omega,i + 1,by omega,hf,rfl⟩
    · obtain rfl : i = ms.length := by omega
      rw [List.drop_length] at hf
      rw [← hf]
      simp (disch := omega) only [↓aI,↓zP,aD,zD,aS,simprocAttr,Tryz.facts,zA,s1,s2,s4,s6,hcl,fu,ah]
      exact ⟨rfl,Sub.set_new (am hb4)⟩
end Go.Proofs.YtjlnpngaiphnmaaGreat
end
section
set_option linter.unusedSimpArgs false
set_option linter.unusedVariables false
set_option maxRecDepth 20000
set_option maxHeartbeats 8000000
namespace Go.Proofs.YtjlnpngaiphnmaaGreat
open Go Go.Abs Go.Proofs
abbrev lgD (a : AV) (es : List Ent) (d : AV) : List AV := [a,.imm 0 (es.flatMap fX) es.length,d]
theorem left_pure (a : AV) (es : List Ent) (d : AV) (id : Int) (hl : es.length ≤ 1000000) (hm : ∀ e ∈ es,e.members.length ≤ 1000000) : APure Tryz.prog 104 [.agg (lgD a es d),.sc (.int .i64 id)] (.sc (.bool (j6 (es.map Ent.members) id))) := by
  have hcl : (es.flatMap fX).length = es.length * 7 := fF i7 es
  have hld := fun i (h : i < es.length) => ent_load h
  generalize hR : j6 (es.map Ent.members) id = R at *
  refine az (c := ⟨Tryz.prog,52,[(1000000,[2]),(1000007,[7]),(1000008,[9])],[],[]⟩) (rs := [ResultVar.tmp 4]) Tryz.mixed Tryz.func104 rfl rfl rfl (Nat.le_of_ble_eq_true rfl) (by kernel_rfl) fun H => ?_
  simp (disch := omega) only [↓aI,↓zP,aD,zD,aS,simprocAttr,Tryz.facts,zA]
  intro k2 hk20 hk2
  try simp (disch := omega) only [↓aI,↓zP,aD,zD,aS,simprocAttr,Tryz.facts,zA]
  refine br (c := ⟨Tryz.prog,52,[(1000000,[2]),(1000007,[7]),(1000008,[9])],[],[]⟩) Tryz.mixed (by kernel_rfl) (fun mm σ H' => H' = H ∧ ∃ (i : Nat),i + mm = es.length ∧ j6 ((es.drop i).map Ent.members) id = R ∧
    σ 1 = .sc (.int .i64 id) ∧ σ 2 = .ip (lgD a es d) 0 ∧ σ 5 = .sc (.int .i64 (i : Nat))) es.length ?_ ?_
  · refine ⟨aj hk2,0,by omega,hR,?_⟩
    simp (disch := omega) only [↓aI,↓zP,aD,zD,aS,simprocAttr,Tryz.facts,zA]
  · rintro mm σ H' ⟨rfl,i,him,hf,s1,s2,s5⟩
    by_cases hlt : i < es.length
    · have hd : es.drop i = es[i] :: es.drop (i + 1) := List.drop_eq_getElem_cons hlt
      have hl1 := hld i hlt
      have hc1 : i * 7 + 7 ≤ es.length * 7 := by omega
      have hm1 := hm _ (List.getElem_mem hlt)
      have hs1 := jU (.sc (.int .i64 (es[i]).n)) (eu (es[i]).prev) (es[i]).members (fY (es[i]).ends) (eu (es[i]).once) (fZ (es[i]).boxes) (eu (es[i]).sig) id hm1
      rw [hd,List.map_cons] at hf
      unfold j6 at hf
      rw [show gG (es[i]).members id = (fu (es[i]).members id).2 from rfl] at hf
      generalize hL : j6 ((es.drop (i + 1)).map Ent.members) id = L at hf
      generalize fu (es[i]).members id = fm at *
      generalize es[i] = e1 at *
      obtain ⟨⟨fi,fp,fg⟩,f⟩ := fm
      simp only [fL] at hs1 hf
      simp (disch := omega) only [↓aI,↓zP,aD,zD,aS,simprocAttr,Tryz.facts,zA,s1,s2,s5]
      refine br (c := ⟨Tryz.prog,52,[(1000000,[2]),(1000007,[7]),(1000008,[9])],[],[]⟩) Tryz.mixed (by kernel_rfl) (fun mq σ E => E = H' ∧ ∃ (k : Nat),k + mq = es.length ∧ ((f && (((es.drop k).map Ent.members).any fun ms => !gG ms id)) || L) = R ∧
        σ 1 = .sc (.int .i64 id) ∧ σ 2 = .ip (lgD a es d) 0 ∧ σ 5 = .sc (.int .i64 (i : Nat)) ∧ σ 6 = .sc (.int .i64 (k : Nat))) (es.length - (i + 1)) ?_ ?_
      · refine ⟨rfl,i + 1,by omega,hf,?_⟩
        simp (disch := omega) only [↓aI,↓zP,aD,zD,aS,simprocAttr,Tryz.facts,zA,s1,s2,s5]
      · rintro mq σ E ⟨rfl,k,hkq,hf,s1,s2,s5,s6⟩
        by_cases hlk : k < es.length
        · have hd2 : es.drop k = es[k] :: es.drop (k + 1) := List.drop_eq_getElem_cons hlk
          have hl2 := hld k hlk
          have hc2 : k * 7 + 7 ≤ es.length * 7 := by omega
          have hm2 := hm _ (List.getElem_mem hlk)
          have hs2 := jU (.sc (.int .i64 (es[k]).n)) (eu (es[k]).prev) (es[k]).members (fY (es[k]).ends) (eu (es[k]).once) (fZ (es[k]).boxes) (eu (es[k]).sig) id hm2
          rw [hd2,List.map_cons,List.any_cons] at hf
          rw [show gG (es[k]).members id = (fu (es[k]).members id).2 from rfl] at hf
          generalize fu (es[k]).members id = gm at *
          generalize es[k] = e2 at *
          obtain ⟨⟨gi,gp,gg⟩,g⟩ := gm
          simp only [fL] at hs2 hf
          generalize hAn : (((es.drop (k + 1)).map Ent.members).any fun ms => !gG ms id) = an at hf
          cases f
          all_goals cases g
          all_goals
            simp only [Bool.not_true,Bool.not_false,Bool.true_and,Bool.false_and,Bool.true_or,Bool.false_or] at hf
            simp (disch := omega) only [↓aI,↓zP,aD,zD,aS,simprocAttr,Tryz.facts,zA,s1,s2,s5,s6,hcl,hl1,hl2,hc1,hc2,ah]
            first | refine CallK.p (hs1) ?_ | refine CallP.i (hs1) ?_
            simp (disch := omega) only [↓aI,↓zP,aD,zD,aS,simprocAttr,Tryz.facts,zA,s1,s2,s5,s6,hcl,hl2,hc2]
            intro k7 hk70 hk7
            try simp (disch := omega) only [↓aI,↓zP,aD,zD,aS,simprocAttr,Tryz.facts,zA,s1,s2,s5,s6,hcl,hl2,hc2,aj hk7]
            first | refine CallK.p (hs2) ?_ | refine CallP.i (hs2) ?_
            simp (disch := omega) only [↓aI,↓zP,aD,zD,aS,simprocAttr,Tryz.facts,zA,s1,s2,s5,s6]
            intro k8 hk80 hk8
            try simp (disch := omega) only [↓aI,↓zP,aD,zD,aS,simprocAttr,Tryz.facts,zA,s1,s2,s5,s6,aj hk8]
            first | exact ⟨mq - 1,by omega,k + 1,by omega,hf,rfl⟩ | exact ⟨mq - 1,by omega,k + 1,by omega,by rw [hAn]; exact hf,rfl⟩ | (subst hf; exact Abs.Sub.refl _) | (subst hf; exact ⟨rfl,Abs.Sub.refl _⟩) | (trace_state; fail)
        · obtain rfl : k = es.length := by omega
          rw [List.drop_length,List.map_nil,List.any_nil,Bool.and_false,Bool.false_or] at hf
          subst hf
          simp (disch := omega) only [↓aI,↓zP,aD,zD,aS,simprocAttr,Tryz.facts,zA,s1,s2,s5,s6]
          first | exact ⟨mm - 1,by omega,i + 1,by omega,hL,rfl⟩ | (trace_state; fail)
    · obtain rfl : i = es.length := by omega
      rw [List.drop_length,List.map_nil] at hf
      unfold j6 at hf
      subst hf
      simp (disch := omega) only [↓aI,↓zP,aD,zD,aS,simprocAttr,Tryz.facts,zA,s1,s2,s5]
      first | exact Abs.Sub.refl _ | exact ⟨rfl,Abs.Sub.refl _⟩ | (trace_state; fail)
end Go.Proofs.YtjlnpngaiphnmaaGreat
end
