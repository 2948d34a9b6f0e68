/-
  Several texts in one: each says what it proves.
  Conditions: none. Lemmas only.
-/
import Derived.Test.YtjlnpngaiphnmaaGreatRosG4
set_option linter.all false
section
set_option linter.unusedSimpArgs false
set_option linter.unusedVariables false
set_option maxRecDepth 20000
set_option maxHeartbeats 8000000
namespace Go.Proofs.YtjlnpngaiphnmaaGreat
open Go Go.Abs Go.Proofs
theorem kL (H : AH) (r k : Nat) (a d : AV) (es : List Ent) (hr0 : r ≠ 0) (hr : H r = some (lgB a k es d)) : ACalls Tryz.prog 24 [.ptr r 0] H fun v H' => v = .sc (.int .i64 (es.length : Nat)) ∧ H' = H := by
  refine ao (c := ⟨Tryz.prog,10,[],[],[]⟩) (rs := [ResultVar.tmp 2]) Tryz.mixed Tryz.func24 rfl rfl rfl (Nat.le_of_ble_eq_true rfl) (by kernel_rfl) ?_
  simp (disch := omega) only [↓aI,↓zP,aD,zD,aS,simprocAttr,Tryz.facts,zA,hr]
  first | exact ⟨_,rfl,_,Abs.Sub.refl _,rfl,rfl⟩ | exact ⟨rfl,Abs.Sub.refl _⟩ | (trace_state; fail)
end Go.Proofs.YtjlnpngaiphnmaaGreat
end
section
set_option linter.unusedSimpArgs false
set_option linter.unusedVariables false
set_option maxRecDepth 20000
set_option maxHeartbeats 8000000
namespace Go.Proofs.YtjlnpngaiphnmaaGreat
open Go Go.Abs Go.Proofs
theorem box_get' {bs : List (List UInt8)} {i : Nat} (h : i < bs.length) : (bs.map eu)[i]? = some (eu bs[i]) := by simp [h]
theorem digest_live (H : AH) (r k kd : Nat) (a : AV) (es : List Ent) (ds : List (List UInt8)) (i : Nat) (hi : i < ds.length) (hd : es.length = ds.length) (hdl : ∀ x ∈ ds,x.length ≤ 1000000) (hds : ds.length ≤ 1000000) (hr0 : r ≠ 0) (hr : H r = some (lgB a k es (.imm kd (ds.map eu) ds.length))) : ACalls Tryz.prog 25 [.ptr r 0,.sc (.int .i64 ((i + 1 : Nat) : Int))] H fun v H' => v = eu ds[i] ∧ H' = H := by
  have h2 := kL H r k a (.imm kd (ds.map eu) ds.length) es hr0 hr
  have hg := box_get' hi
  have hx := hdl _ (List.getElem_mem hi)
  generalize ds[i] = x at *
  refine ao (c := ⟨Tryz.prog,23,[],[13],[]⟩) (rs := [ResultVar.tmp 4]) Tryz.mixed Tryz.func25 rfl rfl rfl (Nat.le_of_ble_eq_true rfl) (by kernel_rfl) ?_
  simp (disch := omega) only [↓aI,↓zP,aD,zD,aS,simprocAttr,Tryz.facts,zA,hr,hg]
  refine CallK.i h2 ?_
  rintro v E ⟨rfl,rfl⟩
  rw [hd]
  simp (disch := omega) only [↓aI,↓zP,aD,zD,aS,simprocAttr,Tryz.facts,zA,hr,hg]
  intro k1 hk10 hk1
  have n1 := bA hr hk1
  try simp (disch := omega) only [↓aI,↓zP,aD,zD,aS,simprocAttr,Tryz.facts,zA,aP n1,hr,hg,set_get,fO,Nat.add_sub_cancel]
  intro k2 o2 hk20 hk2 ho2
  exact ⟨_,rfl,_,Sub.set_new (am hk2),rfl,rfl⟩
end Go.Proofs.YtjlnpngaiphnmaaGreat
end
section
set_option linter.unusedSimpArgs false
set_option linter.unusedVariables false
set_option maxRecDepth 20000
set_option maxHeartbeats 8000000
namespace Go.Proofs.YtjlnpngaiphnmaaGreat
open Go Go.Abs Go.Proofs
theorem rfollows_pure (a : AV) (es : List Ent) (d : AV) (ms : List Mem) (ns : List Nd) (hl : es.length ≤ 1000000) (hm : ∀ e ∈ es,e.members.length ≤ 1000000) (hms : ms.length ≤ 1000000) (hns : ns.length ≤ 1000000) : APure Tryz.prog 93 [.agg (lgD a es d),fE ms,fY ns] (.sc (.bool (folD (iK es) ms (j6 (es.map Ent.members)) [0,1,2,3,4] ns))) := by
  have hcl : (es.flatMap fX).length = es.length * 7 := fF i7 es
  have hnl : (ns.flatMap ndC).length = ns.length * 2 := fF gZ ns
  have hlf := fun id => left_pure a.strip0 es d.strip0 id hl hm
  have hid := fun i (h : i < ns.length) => (show (ns.flatMap ndC)[i * 2]? = some (.sc (.int .i64 (ns[i]).author)) from by
    have := gu gZ h (j := 0) (by omega)
    rw [Nat.add_zero] at this
    rw [this]; rfl)
  have hll : (iK es).length ≤ 1000000 := by
    unfold iK
    rcases h : es.getLast? with _ | e
    · simp
    · exact hm e (List.mem_of_getLast? h)
  have hne : ∀ h : 0 < es.length,(es[es.length - 1]).members = iK es := fun h => by
    unfold iK
    rw [List.getLast?_eq_getElem?,List.getElem?_eq_getElem (by omega)]
    rfl
  have hld := fun (h : 0 < es.length) => ent_load (es := es) (i := es.length - 1) (by omega)
  have hemp : es.length = 0 → iK es = [] := fun h => by
    rw [List.length_eq_zero_iff] at h
    rw [h]; rfl
  generalize hR : folD (iK es) ms (j6 (es.map Ent.members)) [0,1,2,3,4] ns = R at *
  generalize j6 (es.map Ent.members) = lf at *
  generalize iK es = last at *
  have hdrop : ∀ a,a < 5 → ([0,1,2,3,4] : List Int).drop a = (a : Int) :: ([0,1,2,3,4] : List Int).drop (a + 1) := by decide
  have hil := fun y0 y1 y3 y4 y5 y6 id => jU y0 y1 last y3 y4 y5 y6 id hll
  have him := fun y0 y1 y3 y4 y5 y6 id => jU y0 y1 ms y3 y4 y5 y6 id hms
  refine az (c := ⟨Tryz.prog,98,[(1000000,[3]),(1000001,[7]),(1000009,[11]),(1000010,[13]),(4000019,[6]),(4000016,[2,3,7,8,9,10,91]),(4000015,[2,3,7,8,9,10,78]),(4000013,[2,3,7,8,9,10,12,14,73]),(4000011,[2,3,7,8,9,10,11,12,13,14,51]),(4000010,[2,3,7,8,9,10,11,12,13,14]),(4000009,[2,3,7,8,9,10,11,12]),(4000004,[2,3,7,8])],[],[]⟩) (rs := [ResultVar.tmp 6]) Tryz.mixed Tryz.func93 rfl rfl rfl (Nat.le_of_ble_eq_true rfl) (by kernel_rfl) fun H => ?_
  simp (disch := omega) only [↓aI,↓zP,aD,zD,aS,simprocAttr,Tryz.facts,zA]
  intro k2 hk20 hk2
  try simp (disch := omega) only [↓aI,↓zP,aD,zD,aS,simprocAttr,Tryz.facts,zA]
  intro k3 hk30 hk3
  try simp (disch := omega) only [↓aI,↓zP,aD,zD,aS,simprocAttr,Tryz.facts,zA]
  rw [aj hk2] at hk3
  intro k4 hk40 hk4
  rw [aj hk3] at hk4
  try simp (disch := omega) only [↓aI,↓zP,aD,zD,aS,simprocAttr,Tryz.facts,zA,aj hk2,aj hk3,ah]
  by_cases h0 : 0 < es.length
  have hl1 := hld h0
  rw [hne h0] at hl1
  generalize es[es.length - 1] = e at *
  have hc1 : (es.length - 1) * 7 + 7 ≤ es.length * 7 := by omega
  simp (disch := omega) only [↓aI,↓zP,aD,zD,aS,simprocAttr,Tryz.facts,zA,hcl,hl1,hc1,ah,aj hk2,aj hk3]
  have hC : ∃ y0 y1 y2 y3 y4 y5 y6 : AV,[AV.sc (.int .i64 e.n),eu e.prev,fE last,fY e.ends,eu e.once,fZ e.boxes,eu e.sig] = [y0,y1,y2,y3,y4,y5,y6] ∧ y2.strip0 = fE last := ⟨_,_,_,_,_,_,_,rfl,rfl⟩
  rotate_left
  have hle := hemp (by omega)
  simp (disch := omega) only [↓aI,↓zP,aD,zD,aS,simprocAttr,Tryz.facts,zA,ah,aj hk2,aj hk3]
  have hC : ∃ y0 y1 y2 y3 y4 y5 y6 : AV,[AV.sc (.int .i64 0),.sc (.slice none 0 0),.sc (.slice none 0 0),.sc (.slice none 0 0),.sc (.slice none 0 0),.sc (.slice none 0 0),.sc (.slice none 0 0)] = [y0,y1,y2,y3,y4,y5,y6] ∧ y2.strip0 = fE last := ⟨_,_,_,_,_,_,_,rfl,by rw [hle]; rfl⟩
  all_goals
    obtain ⟨y0,y1,y2,y3,y4,y5,y6,hC,hy⟩ := hC
    refine br (c := ⟨Tryz.prog,98,[(1000000,[3]),(1000001,[7]),(1000009,[11]),(1000010,[13]),(4000019,[6]),(4000016,[2,3,7,8,9,10,91]),(4000015,[2,3,7,8,9,10,78]),(4000013,[2,3,7,8,9,10,12,14,73]),(4000011,[2,3,7,8,9,10,11,12,13,14,51]),(4000010,[2,3,7,8,9,10,11,12,13,14]),(4000009,[2,3,7,8,9,10,11,12]),(4000004,[2,3,7,8])],[],[]⟩) Tryz.mixed (by kernel_rfl) (fun mm σ H' => H' = H.set k4 (.cells [y0,y1,y2,y3,y4,y5,y6] 27 7) ∧ ∃ (i r : Nat),i + mm = 5 ∧ r ≤ ns.length ∧ folD last ms lf (([0,1,2,3,4] : List Int).drop i) (ns.drop r) = R ∧
      σ 2 = fY ns ∧ σ 3 = .ip (lgD a es d) 0 ∧ σ 7 = .ip [.sc (.int .i64 0),.sc (.slice none 0 0),fE ms,.sc (.slice none 0 0),.sc (.slice none 0 0),.sc (.slice none 0 0),.sc (.slice none 0 0)] 0 ∧ σ 8 = .ptr k4 0 ∧ σ 9 = .sc (.int .i64 (r : Nat)) ∧ σ 10 = .sc (.int .i64 (i : Nat))) 5 ?_ ?_
    · rw [← hC]
      refine ⟨rfl,0,0,by omega,by omega,hR,?_⟩
      simp (disch := omega) only [↓aI,↓zP,aD,zD,aS,simprocAttr,Tryz.facts,zA]
    · rintro mm σ H' ⟨rfl,i,r,him5,hr,hf,s2,s3,s7,s8,s9,s10⟩
      by_cases hlt : i < 5
      · rw [hdrop i hlt] at hf
        unfold folD at hf
        have h1 := hil y0.strip0 y1.strip0 y3.strip0 y4.strip0 y5.strip0 y6.strip0 (i : Int)
        have h2 := him (.sc (.int .i64 0)) (.imm 0 [] 0) (.imm 0 [] 0) (.imm 0 [] 0) (.imm 0 [] 0) (.imm 0 [] 0) (i : Int)
        have h3 := hlf (i : Int)
        rw [show gG ms (i : Int) = (fu ms (i : Int)).2 from rfl,show gG last (i : Int) = (fu last (i : Int)).2 from rfl] at hf
        generalize lf (i : Int) = g at *
        generalize fu ms (i : Int) = fm at *
        generalize fu last (i : Int) = fl at *
        obtain ⟨⟨ai,ap,ag⟩,M⟩ := fm
        obtain ⟨⟨bi,bp,bg⟩,L⟩ := fl
        unfold diffM at hf
        simp only [fL] at h1 h2 hf
        simp (disch := omega) only [↓aI,↓zP,aD,zD,aS,simprocAttr,Tryz.facts,zA,s2,s3,s7,s8,s9,s10,set_get,hy]
        first | refine CallK.p (h1) ?_ | refine CallP.i (h1) ?_
        simp (disch := omega) only [↓aI,↓zP,aD,zD,aS,simprocAttr,Tryz.facts,zA,s2,s3,s7,s8,s9,s10]
        intro k5 hk50 hk5
        try simp (disch := omega) only [↓aI,↓zP,aD,zD,aS,simprocAttr,Tryz.facts,zA,s2,s3,s7,s8,s9,s10,aj hk5,ah]
        first | refine CallK.p (h2) ?_ | refine CallP.i (h2) ?_
        simp (disch := omega) only [↓aI,↓zP,aD,zD,aS,simprocAttr,Tryz.facts,zA,s2,s3,s7,s8,s9,s10]
        try rw [aj hk5]
        intro k6 hk60 hk6
        try simp (disch := omega) only [↓aI,↓zP,aD,zD,aS,simprocAttr,Tryz.facts,zA,s2,s3,s7,s8,s9,s10,aj hk5,aj hk6,ah]
        cases M
        · cases L
          · simp only [Bool.false_and,Bool.false_eq_true,if_false,Bool.and_false,Bool.not_false,Bool.and_true] at hf
            simp (disch := omega) only [↓aI,↓zP,aD,zD,aS,simprocAttr,Tryz.facts,zA,s2,s3,s7,s8,s9,s10,aj hk6,ah]
            first | exact ⟨mm - 1,by omega,i + 1,r,by omega,hr,hf,rfl,rfl⟩ | (trace_state; fail)
          · simp only [Bool.false_and,Bool.true_and,Bool.false_eq_true,if_false,Bool.and_false,Bool.not_false,if_true] at hf
            by_cases hlr : r < ns.length
            · have hd : ns.drop r = ns[r] :: ns.drop (r + 1) := List.drop_eq_getElem_cons hlr
              have hi := hid r hlr
              have hc2 : r * 2 + 2 ≤ ns.length * 2 := by omega
              rw [hd] at hf
              simp only [] at hf
              generalize ns[r] = x at *
              obtain ⟨xa,xs⟩ := x
              simp only [] at hf hi
              by_cases hx : xa = (i : Int)
              · rw [if_pos hx] at hf
                subst hx
                simp (disch := omega) only [↓aI,↓zP,aD,zD,aS,simprocAttr,Tryz.facts,zA,s2,s3,s7,s8,s9,s10,aj hk6,ah,hnl,hi,hc2]
                first | exact ⟨mm - 1,by omega,i + 1,r + 1,by omega,by omega,hf,rfl,rfl⟩ | (trace_state; fail)
              · rw [if_neg hx] at hf
                subst hf
                simp (disch := omega) only [↓aI,↓zP,aD,zD,aS,simprocAttr,Tryz.facts,zA,s2,s3,s7,s8,s9,s10,aj hk6,ah,hnl,hi,hc2]
                first | exact Sub.set_new hk4 | exact ⟨rfl,Sub.set_new hk4⟩ | (trace_state; fail)
            · obtain rfl : r = ns.length := by omega
              rw [List.drop_length] at hf
              simp only [] at hf
              subst hf
              simp (disch := omega) only [↓aI,↓zP,aD,zD,aS,simprocAttr,Tryz.facts,zA,s2,s3,s7,s8,s9,s10,aj hk6,ah,hnl]
              first | exact Sub.set_new hk4 | exact ⟨rfl,Sub.set_new hk4⟩ | (trace_state; fail)
        · cases g
          · cases L
            · simp only [Bool.false_and,Bool.true_and,Bool.false_eq_true,if_false,Bool.and_false,Bool.not_true] at hf
              simp (disch := omega) only [↓aI,↓zP,aD,zD,aS,simprocAttr,Tryz.facts,zA,s2,s3,s7,s8,s9,s10,aj hk6,ah]
              first | refine CallK.p (h3) ?_ | refine CallP.i (h3) ?_
              simp (disch := omega) only [↓aI,↓zP,aD,zD,aS,simprocAttr,Tryz.facts,zA,s2,s3,s7,s8,s9,s10]
              first | exact ⟨mm - 1,by omega,i + 1,r,by omega,hr,hf,rfl,rfl⟩ | (trace_state; fail)
            · simp (disch := omega) only [↓aI,↓zP,aD,zD,aS,simprocAttr,Tryz.facts,zA,s2,s3,s7,s8,s9,s10,aj hk6,ah]
              first | refine CallK.p (h3) ?_ | refine CallP.i (h3) ?_
              simp (disch := omega) only [↓aI,↓zP,aD,zD,aS,simprocAttr,Tryz.facts,zA,s2,s3,s7,s8,s9,s10,ah,bO]
              simp only [Bool.true_and,Bool.false_and,Bool.false_eq_true,if_false,Bool.and_false,Bool.not_true] at hf
              by_cases c1 : bp = ap
              · subst c1
                by_cases c2 : bg = ag
                · subst c2
                  simp only [beq_self_eq_true,Bool.not_true,Bool.or_false,Bool.false_eq_true,if_false] at hf
                  simp (disch := omega) only [↓aI,↓zP,aD,zD,aS,simprocAttr,Tryz.facts,zA,s2,s3,s7,s8,s9,s10,aj hk6,ah,bO,beq_self_eq_true]
                  first | exact ⟨mm - 1,by omega,i + 1,r,by omega,hr,hf,rfl,rfl⟩ | (trace_state; fail)
                · have c3 := beq_false_of_ne c2
                  simp only [c3,beq_self_eq_true,Bool.not_true,Bool.not_false,Bool.or_true,if_true] at hf
                  subst hf
                  simp (disch := omega) only [↓aI,↓zP,aD,zD,aS,simprocAttr,Tryz.facts,zA,s2,s3,s7,s8,s9,s10,aj hk6,ah,bO,beq_self_eq_true,c3]
                  first | exact Sub.set_new hk4 | exact ⟨rfl,Sub.set_new hk4⟩ | (trace_state; fail)
              · have c3 := beq_false_of_ne c1
                simp only [c3,Bool.not_false,Bool.true_or,if_true] at hf
                subst hf
                simp (disch := omega) only [↓aI,↓zP,aD,zD,aS,simprocAttr,Tryz.facts,zA,s2,s3,s7,s8,s9,s10,aj hk6,ah,bO,c3]
                first | exact Sub.set_new hk4 | exact ⟨rfl,Sub.set_new hk4⟩ | (trace_state; fail)
          · simp only [Bool.true_and,if_true] at hf
            subst hf
            simp (disch := omega) only [↓aI,↓zP,aD,zD,aS,simprocAttr,Tryz.facts,zA,s2,s3,s7,s8,s9,s10,aj hk6,ah]
            first | refine CallK.p (h3) ?_ | refine CallP.i (h3) ?_
            simp (disch := omega) only [↓aI,↓zP,aD,zD,aS,simprocAttr,Tryz.facts,zA,s2,s3,s7,s8,s9,s10]
            first | exact Sub.set_new hk4 | exact ⟨rfl,Sub.set_new hk4⟩ | (trace_state; fail)
      · obtain rfl : i = 5 := by omega
        have hf : (ns.drop r).isEmpty = R := hf
        by_cases hlr : r < ns.length
        · obtain rfl : R = false := by
            rw [← hf,List.drop_eq_getElem_cons hlr]; rfl
          simp (disch := omega) only [↓aI,↓zP,aD,zD,aS,simprocAttr,Tryz.facts,zA,s2,s3,s7,s8,s9,s10]
          first | exact Sub.set_new hk4 | exact ⟨rfl,Sub.set_new hk4⟩ | (trace_state; fail)
        · obtain rfl : r = ns.length := by omega
          obtain rfl : R = true := by
            rw [← hf,List.drop_length]; rfl
          simp (disch := omega) only [↓aI,↓zP,aD,zD,aS,simprocAttr,Tryz.facts,zA,s2,s3,s7,s8,s9,s10]
          first | exact Sub.set_new hk4 | exact ⟨rfl,Sub.set_new hk4⟩ | (trace_state; fail)
end Go.Proofs.YtjlnpngaiphnmaaGreat
end
