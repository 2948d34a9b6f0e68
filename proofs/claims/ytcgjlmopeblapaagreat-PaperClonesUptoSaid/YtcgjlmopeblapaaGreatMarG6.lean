/-
  The walks of the marks layer: the document's runs of a text.
  Conditions: none. Lemmas only.
-/
import Derived.Test.YtcgjlmopeblapaaGreatMarG5
set_option linter.all false
set_option linter.unusedSimpArgs false
set_option linter.unusedVariables false
set_option maxRecDepth 8000
set_option maxHeartbeats 4000000
namespace Go.Proofs.YtcgjlmopeblapaaGreat
open Go Go.Abs Go.Proofs Go.Fug
theorem ixd_take_succ {ns : List Nd} {i : Nat} (h : i < ns.length) : (ixd 0 ns).take (i + 1) = (ixd 0 ns).take i ++ [(i,ns[i])] := by
  have h2 : i < (ixd 0 ns).length := by rw [ixd_length]; exact h
  rw [List.take_succ_eq_append_getElem h2]
  have := ixd_get (a := 0) h
  rw [List.getElem?_eq_getElem h2] at this
  simp only [Nat.zero_add,Option.some.injEq] at this
  rw [this]
def OwnR (H : AH) (R : List Rn) (v : AV) (H' : AH) : Prop :=
  (R = [] ∧ v = .sc (.slice none 0 0) ∧ H' = H) ∨
  (R ≠ [] ∧ ∃ k,v = .own k 0 R.length ∧ k ≠ 0 ∧ H k = none ∧ H' = H.set k (.cells (rnsC R.reverse) 99 6))
theorem rruns_pure (ns : List Nd) (l : List Mk) (hL : ns.length ≤ 4096) (hl : l.length ≤ 100000) : APure Tryz.prog 53 [ndsV ns,eM l] (rnsV (runsN ns l)) := fun H => by
  have hns := c7 ns
  have hsp := fun i => style_pure ns l i (by omega) hl
  have hR : ∀ i,styD ns l i = styC (styN ns l i).1 (styN ns l i).2.1 (styN ns l i).2.2.1 (styN ns l i).2.2.2 := fun _ => rfl
  unfold runsN
  simp only [hR] at hsp
  clear hR
  generalize styN ns l = sty at *
  have hrl := fun i => runsR_len sty ((ixd 0 ns).take i)
  have htx := fun i => runsR_txt sty ((ixd 0 ns).take i)
  simp only [List.length_take,ixd_length] at hrl htx
  obtain ⟨F,hF⟩ : ∃ F : Nat → List Rn,F = fun i => runsR sty ((ixd 0 ns).take i) := ⟨_,rfl⟩
  have hF0 : F 0 = [] := by rw [hF]; rfl
  have hFs : ∀ i (h : i < ns.length),F (i + 1) = runS sty (F i) (i,ns[i]) := fun i h => by
    rw [hF]
    simp only []
    rw [ixd_take_succ h,runsR_snoc]
  have hFe : runsR sty (ixd 0 ns) = F ns.length := by
    rw [hF]
    simp only []
    rw [List.take_of_length_le (by rw [ixd_length]; exact Nat.le_refl _)]
  have hFl : ∀ i,(F i).length ≤ 4096 := fun i => by rw [hF]; have := hrl i; simp only []; omega
  have hFt : ∀ i,i ≤ ns.length → TxtLe (4 * 4096) (F i) := fun i h r hr => by
    rw [hF] at hr
    have := htx i r hr
    omega
  rw [hFe]
  clear hrl htx hF hFe
  refine ACalls.freeze (R := fun v H' => (F ns.length = [] ∧ v = rnsV [] ∧ H' = H) ∨ ∃ k,v = .own k 0 (F ns.length).length ∧ H k = none ∧ H' k = some (.cells (rnsC (F ns.length).reverse) 99 6) ∧ Abs.Sub H H') ?_ ?_
  · refine ao (c := ⟨Tryz.prog,69,[(7,[0,1,0,0,0,0,1,0,0,0,1,1,0,0]),(8,[0,0,1,0,0,0,1,0,0,0,1,0,0,0,0,1,0,0,0,0,2]),(9,[0,0,0,0,0,1,0,1,0,0,2,0]),(1000006,[7]),(4000009,[0,1,5,6]),(4000008,[0,1,5,6]),(4000007,[0,1,5,6,7,36]),(4000006,[0,1,5,6,7]),(4000005,[0,1,5,6,18])],[1000067],[]⟩) (rs := [ResultVar.tmp 4]) Tryz.mixed Tryz.func53 rfl rfl rfl (Nat.le_of_ble_eq_true rfl) (by kernel_rfl) ?_
    simp (disch := omega) only [↓aI,↓zP,aD,zD,aS,simprocAttr,Tryz.facts]
    refine br (c := ⟨Tryz.prog,69,[(7,[0,1,0,0,0,0,1,0,0,0,1,1,0,0]),(8,[0,0,1,0,0,0,1,0,0,0,1,0,0,0,0,1,0,0,0,0,2]),(9,[0,0,0,0,0,1,0,1,0,0,2,0]),(1000006,[7]),(4000009,[0,1,5,6]),(4000008,[0,1,5,6]),(4000007,[0,1,5,6,7,36]),(4000006,[0,1,5,6,7]),(4000005,[0,1,5,6,18])],[1000067],[]⟩) Tryz.mixed (by kernel_rfl) (fun mm σ H' => ∃ i : Nat,i + mm = ns.length ∧ OwnR H (F i) (σ 5) H' ∧ σ 0 = ndsV ns ∧ σ 1 = eM l ∧ σ 6 = .sc (.int .i64 (i : Nat))) ns.length ?_ ?_
    · refine ⟨0,by omega,.inl ⟨hF0,rfl,rfl⟩,?_⟩
      simp (disch := omega) only [↓aI,↓zP,aD,zD,aS,simprocAttr,Tryz.facts]
      try rfl
    · rintro mm σ H' ⟨i,him,ho,s0,s1,s6⟩
      by_cases hlt : i < ns.length
      · have hst := hFs i hlt
        have hld := ndsC_get hlt (show 3 < 4 by omega)
        have hl2 := ndsC_get hlt (show 2 < 4 by omega)
        have hle3 : i * 4 + 3 < ns.length * 4 := by omega
        have hle2 : i * 4 + 2 < ns.length * 4 := by omega
        have hle4 : i * 4 + 4 ≤ ns.length * 4 := by omega
        have hsp1 := hsp i
        have hFl1 := hFl i
        have hFt1 := hFt i (by omega)
        have hFl2 := hFl (i + 1)
        generalize hR2 : F (i + 1) = R2 at *
        generalize F i = R at *
        generalize ns[i] = x at *
        obtain ⟨⟨x1,x2⟩,xu,xg⟩ := x
        simp only [ndC,List.getElem?_cons_succ,List.getElem?_cons_zero] at hld hl2
        unfold runS at hst
        simp only [] at hst
        have hr4 := runeB_len xu
        cases xg
        · simp only [Bool.false_eq_true,if_false] at hst
          generalize sty i = st at *
          obtain ⟨s1',s2',s3',s4'⟩ := st
          rcases ho with ⟨rfl,s5,rfl⟩ | ⟨hne,k,s5,hk0,hk,rfl⟩
          · simp only [] at hst
            simp (disch := omega) only [↓aI,↓zP,aD,zD,aS,simprocAttr,Tryz.facts,s0,s1,s5,s6,zA,hld,hl2,hle3,hle2,hle4,hns]
            first | refine CallK.p (hsp1) ?_ | refine CallP.i (hsp1) ?_
            simp (disch := omega) only [↓aI,↓zP,aD,zD,aS,simprocAttr,Tryz.facts,s0,s1,s5,s6,zA,hld,hl2,hle3,hle2,hle4,hns]
            intro kb hkb0 hkb
            simp (disch := omega) only [↓aI,↓zP,aD,zD,aS,simprocAttr,Tryz.facts,s0,s1,s5,s6,zA,hld,hl2,hle3,hle2,hle4,hns,aj hkb,ah]
            intro k hk0 hk
            try simp (disch := omega) only [↓aI,↓zP,aD,zD,aS,simprocAttr,Tryz.facts,s0,s1,s5,s6,zA,hld,hl2,hle3,hle2,hle4,hns]
            refine ⟨mm - 1,by omega,i + 1,by omega,.inr ?_,rfl⟩
            rw [hR2,hst]
            exact ⟨by simp,k,rfl,hk0,hk,rfl⟩
          · obtain ⟨r, R, rfl⟩ : ∃ r R', R = r :: R' := by
              cases R with
              | nil => exact absurd rfl hne
              | cons r R' => exact ⟨r,R',rfl⟩
            have hgt := rns_txt r R
            have hgs := rns_sty r R
            have hpt := rns_put r R
            have hcl := rns_revlen (r :: R)
            have hrt : r.txt.length ≤ 4 * 4096 := hFt1 r (by simp)
            simp only [List.length_cons] at hFl1 hcl s5
            have hz : R.length + 1 - 1 = R.length := rfl
            have hc : (⟨r.txt.toArray⟩ : ByteArray) ++ (⟨(dQ xu).toArray⟩ : ByteArray) = ⟨(r.txt ++ dQ xu).toArray⟩ := by
              apply ByteArray.ext
              simp
            have hle1 : R.length * 6 + 1 + 5 ≤ (R.length + 1) * 6 := by omega
            have hlt1 : R.length * 6 < (R.length + 1) * 6 := by omega
            have hle5 : R.length * 6 + 1 ≤ (R.length + 1) * 6 := by omega
            have hle6 : (R.length + 1) * 6 ≤ (R.length + 1) * 6 := by omega
            generalize hW : rnsC (r :: R).reverse = W at *
            obtain ⟨rt,ra,rb,rc,rd⟩ := r
            simp only [strR] at hgt hpt
            simp only [] at hrt hst hc
            have hpt2 : W.take (R.length * 6) ++ AV.sc (.string ⟨(rt ++ dQ xu).toArray⟩) :: W.drop (R.length * 6 + 1) = rnsC ((⟨rt ++ dQ xu,(ra,rb,rc,rd)⟩ : Rn) :: R).reverse := by
              rw [← hpt,ah]
              simp
            have htk : W.take ((R.length + 1) * 6) = W := List.take_of_length_le (by omega)
            by_cases he : ((ra,rb,rc,rd) : Sty) = (s1',s2',s3',s4')
            · have hq : (ra == s1' && (rb == s2' && (rc == s3' && rd == s4'))) = true := styEq_iff.2 he
              rw [if_pos he] at hst
              simp (disch := omega) only [↓aI,↓zP,aD,zD,aS,simprocAttr,Tryz.facts,s0,s1,s5,s6,zA,hld,hl2,hle3,hle2,hle4,hns]
              first | refine CallK.p (hsp1) ?_ | refine CallP.i (hsp1) ?_
              simp (disch := omega) only [↓aI,↓zP,aD,zD,aS,simprocAttr,Tryz.facts,s0,s1,s5,s6,zA,hld,hl2,hle3,hle2,hle4,hns]
              intro kb hkb0 hkb
              simp (disch := omega) only [↓aI,↓zP,aD,zD,aS,simprocAttr,Tryz.facts,s0,s1,s5,s6,zA,hld,hl2,hle3,hle2,hle4,hns,aj hkb,ah,set_get,hc,hz,hgt,hgs,hcl,hle1,hlt1,hle5,hq,beq_self_eq_true,Bool.true_and]
              refine ⟨mm - 1,by omega,i + 1,by omega,.inr ?_,rfl⟩
              rw [hR2,hst]
              refine ⟨by simp,k,rfl,hk0,hk,?_⟩
              rw [hpt2]
            · have hq : (ra == s1' && (rb == s2' && (rc == s3' && rd == s4'))) = false := by
                cases h : (ra == s1' && (rb == s2' && (rc == s3' && rd == s4'))) with
                | false => rfl
                | true => exact absurd (styEq_iff (x := (ra,rb,rc,rd)) (y := (s1',s2',s3',s4')).1 h) he
              rw [if_neg he] at hst
              simp (disch := omega) only [↓aI,↓zP,aD,zD,aS,simprocAttr,Tryz.facts,s0,s1,s5,s6,zA,hld,hl2,hle3,hle2,hle4,hns]
              first | refine CallK.p (hsp1) ?_ | refine CallP.i (hsp1) ?_
              simp (disch := omega) only [↓aI,↓zP,aD,zD,aS,simprocAttr,Tryz.facts,s0,s1,s5,s6,zA,hld,hl2,hle3,hle2,hle4,hns]
              intro kb hkb0 hkb
              simp (disch := omega) only [↓aI,↓zP,aD,zD,aS,simprocAttr,Tryz.facts,s0,s1,s5,s6,zA,hld,hl2,hle3,hle2,hle4,hns,aj hkb,ah,set_get,hc,hz,hgt,hgs,hcl,hle1,hlt1,hle5,hle6,hq,htk,beq_self_eq_true,Bool.true_and]
              intro k' hk'
              obtain ⟨hk'0,hk'E⟩ : k' ≠ 0 ∧ H k' = none := by
                rcases hk' with rfl | ⟨h1,h2⟩
                · exact ⟨hk0,hk⟩
                · exact ⟨h1,am h2⟩
              refine ⟨mm - 1,by omega,i + 1,by omega,.inr ?_,rfl⟩
              rw [hR2,hst]
              refine ⟨by simp,k',rfl,hk'0,hk'E,?_⟩
              rw [rns_last,hW]
              rfl
        · simp (disch := omega) only [↓aI,↓zP,aD,zD,aS,simprocAttr,Tryz.facts,s0,s1,s6,zA,hld,hl2,hle3,hle2,hle4,hns]
          simp only [if_true] at hst
          subst hst
          exact ⟨mm - 1,by omega,i + 1,by omega,by rw [hR2]; exact ho,rfl⟩
      · obtain rfl : i = ns.length := by omega
        rcases ho with ⟨he,s5,rfl⟩ | ⟨hne,k,s5,hk0,hk,rfl⟩
        · simp (disch := omega) only [↓aI,↓zP,aD,zD,aS,simprocAttr,Tryz.facts,s0,s1,s5,s6,zA,hns]
          exact ⟨_,rfl,_,Abs.Sub.refl _,.inl ⟨he,rfl,rfl⟩⟩
        · simp (disch := omega) only [↓aI,↓zP,aD,zD,aS,simprocAttr,Tryz.facts,s0,s1,s5,s6,zA,hns]
          exact ⟨_,rfl,_,Abs.Sub.refl _,.inr ⟨k,rfl,hk,set_get,Sub.set_new hk⟩⟩
  · rintro v H' (⟨he,rfl,rfl⟩ | ⟨k,rfl,hk,hc,hs⟩)
    · refine ⟨_,H',Abs.Sub.refl _,Frz.same,?_,rfl⟩
      rw [he]; rfl
    · refine ⟨_,H,hs,Frz.own hc hk (by rw [rns_revlen]; exact Nat.le_refl _),?_,rfl⟩
      rw [List.take_of_length_le (by rw [rns_revlen]; exact Nat.le_refl _)]
      simp
end Go.Proofs.YtcgjlmopeblapaaGreat
