/-
  Rosters: whether any entry may be, its bytes, and any bytes read as an entry.
  Conditions: none. Lemmas only.
-/
import Derived.Test.YtjlnpngaiphnmaaGreatRzG3
import Derived.Test.YtjlnpngaiphnmaaGreatRtG7
set_option linter.all false
set_option linter.unusedSimpArgs false
set_option linter.unusedVariables false
set_option maxRecDepth 20000
set_option maxHeartbeats 16000000
namespace Go.Proofs.YtjlnpngaiphnmaaGreat
open Go Go.Abs Go.Proofs
theorem read13_pure (b : List UInt8) : APure Tryz.prog 9 [eu b] (rsV (b,0)) := by
  refine az (c := ⟨Tryz.prog,5,[],[],[]⟩) (rs := [ResultVar.cell 2 36]) Tryz.mixed Tryz.func9 rfl rfl rfl (Nat.le_of_ble_eq_true rfl) (by kernel_rfl) fun H => ?_
  simp (disch := omega) only [↓aI,↓zP,aD,zD,aS,simprocAttr,Tryz.facts]
  intro k hk0 hk
  try simp (disch := omega) only [↓aI,↓zP,aD,zD,aS,simprocAttr,Tryz.facts,ah]
  first | exact ⟨rfl,Sub.set_new hk⟩ | exact Sub.set_new hk | (trace_state; fail)
theorem rdRep_all {α : Type} {one : RS → RS × α} {p : α → Prop} (h : ∀ s,p (one s).2) (s : RS) : ∀ n,∀ x ∈ (ig one n s).2,p x
  | 0,x,hx => by cases hx
  | n + 1,x,hx => by
    rcases List.mem_append.1 (show x ∈ (ig one n s).2 ++ [_] from hx) with hx | hx
    · exact rdRep_all h s n x hx
    · rw [List.mem_singleton.1 hx]; exact h _
theorem rdEnt_ok (s : RS) : OkE (jq s).2 := by
  unfold jq fixE
  split
  · refine ⟨Nat.le_trans (kE _ _) (by decide),Nat.le_trans (iS _ _) (by decide),?_,Nat.le_trans (iS _ _) (by decide),Nat.le_trans (kE _ _) (by decide),Nat.le_trans (iS _ _) (by decide),?_,Nat.le_trans (kE _ _) (by decide)⟩
    · exact rdRep_all (p := fun m : Mem => m.pub.length ≤ 5000 ∧ m.sgn.length ≤ 5000) (fun s => ⟨Nat.le_trans (kE _ _) (by decide),Nat.le_trans (kE _ _) (by decide)⟩) _ _
    · exact rdRep_all (p := fun b : List UInt8 => b.length ≤ 5000) (fun s => Nat.le_trans (kE _ _) (by decide)) _ _
  · exact (show OkE i9 from ⟨by decide,by decide,(fun m h => by cases h),by decide,by decide,by decide,(fun b h => by cases h),by decide⟩)
theorem box_at {bs : List (List UInt8)} {i : Nat} (h : i < bs.length) : (bs.map eu)[i]? = some (eu bs[i]) := by simp [h]
theorem bytes_walk21 (e : Ent) (b : List UInt8) (hb : b.length ≤ 2000000) : APure Tryz.prog 3 [.agg (fX e),eu b] (.sc (.bool true)) := by
  have haw := rawake_pure
  by_cases hA : e.prev.length ≤ 1000 ∧ e.once.length ≤ 1000 ∧ e.sig.length ≤ 1000 ∧ e.members.length ≤ 10 ∧ e.ends.length ≤ 10 ∧ e.boxes.length ≤ 10
  rotate_left
  · obtain ⟨n,pv,ms,ns,on,xs,sg⟩ := e
    simp only [fX] at *
    have hA' : 1000 < pv.length ∨ (pv.length ≤ 1000 ∧ 1000 < on.length) ∨ (pv.length ≤ 1000 ∧ on.length ≤ 1000 ∧ 1000 < sg.length) ∨ (pv.length ≤ 1000 ∧ on.length ≤ 1000 ∧ sg.length ≤ 1000 ∧ 10 < ms.length) ∨
      (pv.length ≤ 1000 ∧ on.length ≤ 1000 ∧ sg.length ≤ 1000 ∧ ms.length ≤ 10 ∧ 10 < ns.length) ∨ (pv.length ≤ 1000 ∧ on.length ≤ 1000 ∧ sg.length ≤ 1000 ∧ ms.length ≤ 10 ∧ ns.length ≤ 10 ∧ 10 < xs.length) := by omega
    rcases hA' with c | ⟨c1,c⟩ | ⟨c1,c2,c⟩ | ⟨c1,c2,c3,c⟩ | ⟨c1,c2,c3,c4,c⟩ | ⟨c1,c2,c3,c4,c5,c⟩
    all_goals
      refine az (c := ⟨Tryz.prog,137,[(18,[1,2,0,0,0,0,0,0,0,0,0,0,0,0,0,0]),(20,[0,2,0,0,0,0,0,0,0,0,0,0,0,0,0,0,0,0,0,0,2,0,0,0,0,0,0,0,2,0,0]),(1000000,[2]),(1000005,[6]),(1000016,[10]),(1000017,[12,11]),(4000020,[4]),(4000018,[9,10,11,12,106]),(4000017,[2,9,10,11,12]),(4000015,[1,2,9]),(4000006,[1,2,49,50,51,64]),(4000001,[1,2,46])],[79],[(18,(.op 0 0 (.op 2 0 (.op 1 2 (.op 3 0 (.op 4 0 (.op 5 0 (.op 6 0 (.op 7 0 (.op 8 0 (.op 9 0 (.op 10 0 (.op 11 0 (.op 12 0 (.op 13 0 (.op 14 0 (.op 15 0 .nil))))))))))))))))),(20,(.op 0 0 (.op 2 0 (.op 3 0 (.op 1 5 (.op 4 0 (.op 5 0 (.op 6 0 (.op 7 0 (.op 8 0 (.op 9 0 (.op 10 0 (.op 11 0 (.op 12 0 (.op 13 0 (.op 14 0 (.op 15 0 (.op 16 0 (.op 17 0 (.op 18 0 (.op 19 0 (.op 21 0 (.op 22 0 (.op 23 0 (.op 20 5 (.op 24 0 (.op 25 0 (.op 26 0 (.op 27 0 (.op 28 2 (.op 29 0 (.op 30 0 .nil))))))))))))))))))))))))))))))))]⟩) (rs := [ResultVar.tmp 4]) Tryz.mixed Tryz.func3 rfl rfl rfl (Nat.le_of_ble_eq_true rfl) (by kernel_rfl) fun H => ?_
      simp (disch := omega) only [↓aI,↓zP,aD,zD,aS,simprocAttr,Tryz.facts,zA]
      intro k2 hk20 hk2
      try simp (disch := omega) only [↓aI,↓zP,aD,zD,aS,simprocAttr,Tryz.facts,zA,aj hk2]
      first | refine CallK.p (haw) ?_ | refine CallP.i (haw) ?_
      simp (disch := omega) only [↓aI,↓zP,aD,zD,aS,simprocAttr,Tryz.facts,zA]
      exact Abs.Sub.refl _
  obtain ⟨n,pv,ms,ns,on,xs,sg⟩ := e
  simp only [] at hA
  obtain ⟨c1,c2,c3,c4,c5,c6⟩ := hA
  have hok : (∀ m ∈ ms,m.pub.length ≤ 1000 ∧ m.sgn.length ≤ 1000) → (∀ x ∈ xs,x.length ≤ 1000) → OkE ⟨n,pv,ms,ns,on,xs,sg⟩ := fun h1 h2 => ⟨by show pv.length ≤ _; omega,by show ms.length ≤ _; omega,fun m hm => by have := h1 m hm; omega,by show ns.length ≤ _; omega,by show on.length ≤ _; omega,by show xs.length ≤ _; omega,fun x hx => by have := h2 x hx; omega,by show sg.length ≤ _; omega⟩
  have hr1 := ie ⟨n,pv,ms,ns,on,xs,sg⟩ (by show ms.length ≤ _; omega) (by show ns.length ≤ _; omega) (by show xs.length ≤ _; omega)
  have hr2 := jx ⟨n,pv,ms,ns,on,xs,sg⟩ (by show ms.length ≤ _; omega) (by show ns.length ≤ _; omega) (by show xs.length ≤ _; omega)
  have hp1 := fun h => putR_pure [9] ⟨n,pv,ms,ns,on,xs,sg⟩ (by decide) h
  have hp2 := fun h => rputR_pure [9] ⟨n,pv,ms,ns,on,xs,sg⟩ (by decide) h
  have hrd := fun H => read_live H b hb
  have hget := fun B H2 r k p hr0 => rget_live B H2 r k b (b,0) p hr0
  have hrg := rrget_pure (b,0) hb
  have hr13 := read13_pure b
  have hgok := rdEnt_ok (b,0)
  generalize jq (b,0) = G at *
  obtain ⟨sr,ge⟩ := G
  have hq1 := putR_pure [] ge (by decide) hgok
  have hq2 := rputR_pure [] ge (by decide) hgok
  generalize gK ⟨n,pv,ms,ns,on,xs,sg⟩ = rl at *
  generalize [9] ++ jy ⟨n,pv,ms,ns,on,xs,sg⟩ = P at *
  generalize [] ++ jy ge = P2 at *
  obtain ⟨n2,pv2,ms2,ns2,on2,xs2,sg2⟩ := ge
  obtain ⟨rest,er⟩ := sr
  simp only [fX] at *
  have hmc : (ms.flatMap fL).length = ms.length * 3 := fF fU _
  have hml := fun i (h : i < ms.length) => iJ h
  have hxl := fun i (h : i < xs.length) => box_at h
  have hxc : (xs.map eu).length = xs.length := List.length_map _
  refine az (c := ⟨Tryz.prog,137,[(18,[1,2,0,0,0,0,0,0,0,0,0,0,0,0,0,0]),(20,[0,2,0,0,0,0,0,0,0,0,0,0,0,0,0,0,0,0,0,0,2,0,0,0,0,0,0,0,2,0,0]),(1000000,[2]),(1000005,[6]),(1000016,[10]),(1000017,[12,11]),(4000020,[4]),(4000018,[9,10,11,12,106]),(4000017,[2,9,10,11,12]),(4000015,[1,2,9]),(4000006,[1,2,49,50,51,64]),(4000001,[1,2,46])],[79],[(18,(.op 0 0 (.op 2 0 (.op 1 2 (.op 3 0 (.op 4 0 (.op 5 0 (.op 6 0 (.op 7 0 (.op 8 0 (.op 9 0 (.op 10 0 (.op 11 0 (.op 12 0 (.op 13 0 (.op 14 0 (.op 15 0 .nil))))))))))))))))),(20,(.op 0 0 (.op 2 0 (.op 3 0 (.op 1 5 (.op 4 0 (.op 5 0 (.op 6 0 (.op 7 0 (.op 8 0 (.op 9 0 (.op 10 0 (.op 11 0 (.op 12 0 (.op 13 0 (.op 14 0 (.op 15 0 (.op 16 0 (.op 17 0 (.op 18 0 (.op 19 0 (.op 21 0 (.op 22 0 (.op 23 0 (.op 20 5 (.op 24 0 (.op 25 0 (.op 26 0 (.op 27 0 (.op 28 2 (.op 29 0 (.op 30 0 .nil))))))))))))))))))))))))))))))))]⟩) (rs := [ResultVar.tmp 4]) Tryz.mixed Tryz.func3 rfl rfl rfl (Nat.le_of_ble_eq_true rfl) (by kernel_rfl) fun H => ?_
  simp (disch := omega) only [↓aI,↓zP,aD,zD,aS,simprocAttr,Tryz.facts,zA]
  intro k2 hk20 hk2
  try simp (disch := omega) only [↓aI,↓zP,aD,zD,aS,simprocAttr,Tryz.facts,zA,aj hk2]
  refine br (c := ⟨Tryz.prog,137,[(18,[1,2,0,0,0,0,0,0,0,0,0,0,0,0,0,0]),(20,[0,2,0,0,0,0,0,0,0,0,0,0,0,0,0,0,0,0,0,0,2,0,0,0,0,0,0,0,2,0,0]),(1000000,[2]),(1000005,[6]),(1000016,[10]),(1000017,[12,11]),(4000020,[4]),(4000018,[9,10,11,12,106]),(4000017,[2,9,10,11,12]),(4000015,[1,2,9]),(4000006,[1,2,49,50,51,64]),(4000001,[1,2,46])],[79],[(18,(.op 0 0 (.op 2 0 (.op 1 2 (.op 3 0 (.op 4 0 (.op 5 0 (.op 6 0 (.op 7 0 (.op 8 0 (.op 9 0 (.op 10 0 (.op 11 0 (.op 12 0 (.op 13 0 (.op 14 0 (.op 15 0 .nil))))))))))))))))),(20,(.op 0 0 (.op 2 0 (.op 3 0 (.op 1 5 (.op 4 0 (.op 5 0 (.op 6 0 (.op 7 0 (.op 8 0 (.op 9 0 (.op 10 0 (.op 11 0 (.op 12 0 (.op 13 0 (.op 14 0 (.op 15 0 (.op 16 0 (.op 17 0 (.op 18 0 (.op 19 0 (.op 21 0 (.op 22 0 (.op 23 0 (.op 20 5 (.op 24 0 (.op 25 0 (.op 26 0 (.op 27 0 (.op 28 2 (.op 29 0 (.op 30 0 .nil))))))))))))))))))))))))))))))))]⟩) Tryz.mixed (by kernel_rfl) (fun mm σ E => E = H ∧ ∃ i : Nat,i + mm = ms.length ∧ (∀ j (h : j < ms.length),j < i → ms[j].pub.length ≤ 1000 ∧ ms[j].sgn.length ≤ 1000) ∧ σ 1 = eu b ∧ σ 2 = .ip [.sc (.int .i64 n),eu pv,fE ms,fY ns,eu on,fZ xs,eu sg] 0 ∧
    σ 49 = fE ms ∧ σ 50 = .sc (.int .i64 (ms.length : Nat)) ∧ σ 51 = .sc (.int .i64 (i : Nat))) ms.length ?_ ?_
  · refine ⟨by first | rfl | exact aj hk2,0,by omega,fun j _ h => absurd h (by omega),?_⟩
    simp (disch := omega) only [↓aI,↓zP,aD,zD,aS,simprocAttr,Tryz.facts,zA]
    try rfl
  rintro mm σ E ⟨rfl,i,him,hi,s1,s2,s49,s50,s51⟩
  by_cases hlt : i < ms.length
  · have hl := hml i hlt
    have hc3 : i * 3 + 3 ≤ ms.length * 3 := by omega
    have hnext : ms[i].pub.length ≤ 1000 ∧ ms[i].sgn.length ≤ 1000 → ∀ j (h : j < ms.length),j < i + 1 → ms[j].pub.length ≤ 1000 ∧ ms[j].sgn.length ≤ 1000 := fun h j hj hji => by
      by_cases e : j = i
      · subst e; exact h
      · exact hi j hj (by omega)
    generalize ms[i] = m at *
    obtain ⟨mi,mp,mg⟩ := m
    simp only [] at hl hnext
    by_cases d1 : 1000 < mp.length
    · simp (disch := omega) only [↓aI,↓zP,aD,zD,aS,simprocAttr,Tryz.facts,zA,s1,s2,s49,s50,s51,hmc,hl,hc3]
      intro b6 hb60 hb6
      try simp (disch := omega) only [↓aI,↓zP,aD,zD,aS,simprocAttr,Tryz.facts,zA,s1,s2,s49,s50,s51,aj hb6,ah]
      first | refine CallK.p (haw) ?_ | refine CallP.i (haw) ?_
      simp (disch := omega) only [↓aI,↓zP,aD,zD,aS,simprocAttr,Tryz.facts,zA]
      exact Abs.Sub.refl _
    · by_cases d2 : 1000 < mg.length
      · simp (disch := omega) only [↓aI,↓zP,aD,zD,aS,simprocAttr,Tryz.facts,zA,s1,s2,s49,s50,s51,hmc,hl,hc3]
        intro b6 hb60 hb6
        try simp (disch := omega) only [↓aI,↓zP,aD,zD,aS,simprocAttr,Tryz.facts,zA,s1,s2,s49,s50,s51,aj hb6,ah]
        first | refine CallK.p (haw) ?_ | refine CallP.i (haw) ?_
        simp (disch := omega) only [↓aI,↓zP,aD,zD,aS,simprocAttr,Tryz.facts,zA]
        exact Abs.Sub.refl _
      · simp (disch := omega) only [↓aI,↓zP,aD,zD,aS,simprocAttr,Tryz.facts,zA,s1,s2,s49,s50,s51,hmc,hl,hc3]
        intro b6 hb60 hb6
        try simp (disch := omega) only [↓aI,↓zP,aD,zD,aS,simprocAttr,Tryz.facts,zA,s1,s2,s49,s50,s51,aj hb6,ah]
        exact ⟨mm - 1,by omega,i + 1,by omega,hnext ⟨by omega,by omega⟩,rfl⟩
  obtain rfl : i = ms.length := by omega
  have hma : ∀ m ∈ ms,m.pub.length ≤ 1000 ∧ m.sgn.length ≤ 1000 := fun m hm => by
    obtain ⟨j,hj,rfl⟩ := List.mem_iff_getElem.1 hm
    exact hi j hj hj
  simp (disch := omega) only [↓aI,↓zP,aD,zD,aS,simprocAttr,Tryz.facts,zA,s1,s2,s49,s50,s51]
  refine br (c := ⟨Tryz.prog,137,[(18,[1,2,0,0,0,0,0,0,0,0,0,0,0,0,0,0]),(20,[0,2,0,0,0,0,0,0,0,0,0,0,0,0,0,0,0,0,0,0,2,0,0,0,0,0,0,0,2,0,0]),(1000000,[2]),(1000005,[6]),(1000016,[10]),(1000017,[12,11]),(4000020,[4]),(4000018,[9,10,11,12,106]),(4000017,[2,9,10,11,12]),(4000015,[1,2,9]),(4000006,[1,2,49,50,51,64]),(4000001,[1,2,46])],[79],[(18,(.op 0 0 (.op 2 0 (.op 1 2 (.op 3 0 (.op 4 0 (.op 5 0 (.op 6 0 (.op 7 0 (.op 8 0 (.op 9 0 (.op 10 0 (.op 11 0 (.op 12 0 (.op 13 0 (.op 14 0 (.op 15 0 .nil))))))))))))))))),(20,(.op 0 0 (.op 2 0 (.op 3 0 (.op 1 5 (.op 4 0 (.op 5 0 (.op 6 0 (.op 7 0 (.op 8 0 (.op 9 0 (.op 10 0 (.op 11 0 (.op 12 0 (.op 13 0 (.op 14 0 (.op 15 0 (.op 16 0 (.op 17 0 (.op 18 0 (.op 19 0 (.op 21 0 (.op 22 0 (.op 23 0 (.op 20 5 (.op 24 0 (.op 25 0 (.op 26 0 (.op 27 0 (.op 28 2 (.op 29 0 (.op 30 0 .nil))))))))))))))))))))))))))))))))]⟩) Tryz.mixed (by kernel_rfl) (fun mm σ F => F = E ∧ ∃ i : Nat,i + mm = xs.length ∧ (∀ j (h : j < xs.length),j < i → xs[j].length ≤ 1000) ∧ σ 1 = eu b ∧ σ 2 = .ip [.sc (.int .i64 n),eu pv,fE ms,fY ns,eu on,fZ xs,eu sg] 0 ∧
    σ 68 = fZ xs ∧ σ 69 = .sc (.int .i64 (xs.length : Nat)) ∧ σ 70 = .sc (.int .i64 (i : Nat))) xs.length ?_ ?_
  · refine ⟨rfl,0,by omega,fun j _ h => absurd h (by omega),?_⟩
    simp (disch := omega) only [↓aI,↓zP,aD,zD,aS,simprocAttr,Tryz.facts,zA,s1,s2]
    try rfl
  clear hi hml
  rintro mm σ F ⟨rfl,i,him,hi,s1,s2,s68,s69,s70⟩
  by_cases hlt : i < xs.length
  · have hl := hxl i hlt
    have hnext : xs[i].length ≤ 1000 → ∀ j (h : j < xs.length),j < i + 1 → xs[j].length ≤ 1000 := fun h j hj hji => by
      by_cases e : j = i
      · subst e; exact h
      · exact hi j hj (by omega)
    generalize xs[i] = x at *
    by_cases d1 : 1000 < x.length
    · simp (disch := omega) only [↓aI,↓zP,aD,zD,aS,simprocAttr,Tryz.facts,zA,s1,s2,s68,s69,s70,hxc,hl]
      first | refine CallK.p (haw) ?_ | refine CallP.i (haw) ?_
      simp (disch := omega) only [↓aI,↓zP,aD,zD,aS,simprocAttr,Tryz.facts,zA]
      exact Abs.Sub.refl _
    · simp (disch := omega) only [↓aI,↓zP,aD,zD,aS,simprocAttr,Tryz.facts,zA,s1,s2,s68,s69,s70,hxc,hl]
      exact ⟨mm - 1,by omega,i + 1,by omega,hnext (by omega),rfl⟩
  obtain rfl : i = xs.length := by omega
  have hxa : ∀ x ∈ xs,x.length ≤ 1000 := fun x hx => by
    obtain ⟨j,hj,rfl⟩ := List.mem_iff_getElem.1 hx
    exact hi j hj hj
  have hok := hok hma hxa
  have hp1 := hp1 hok
  have hp2 := hp2 hok
  clear hi hxl
  simp (disch := omega) only [↓aI,↓zP,aD,zD,aS,simprocAttr,Tryz.facts,zA,s1,s2,s68,s69,s70]
  intro t1 ht10 ht1
  try simp (disch := omega) only [↓aI,↓zP,aD,zD,aS,simprocAttr,Tryz.facts,zA,s1,s2,aj ht1,fO]
  intro k1 o1 hk10 hk1 ho1
  have hk1 := am hk1
  have hs1 := Sub.set_new (o := o1) hk1
  try simp (disch := omega) only [↓aI,↓zP,aD,zD,aS,simprocAttr,Tryz.facts,zA,s1,s2,aj ht1,fO]
  refine CallK.i (hrd _) ?_
  rintro v E1 ⟨r,kk,rfl,hr0,hrf,hrv,hrs2⟩
  try simp (disch := omega) only [↓aI,↓zP,aD,zD,aS,simprocAttr,Tryz.facts,zA,s1,s2]
  have pr : RdS (E1.kill r) E1 r kk b (b,0) := ⟨⟨0,Nat.zero_le _,rfl,hrv⟩,Sub.killed,kill_same,by omega⟩
  refine CallK.i (hget _ _ _ _ pr hr0) ?_
  rintro v E2 ⟨rfl,pr2⟩
  have hsE2 : Abs.Sub F E2 := hs1.trans fun yy o hy => pr2.2.1 _ _ (by
    have e : yy ≠ r := fun e => by subst e; rw [hrf] at hy; cases hy
    rw [bZ e]
    exact hrs2 _ _ hy)
  try simp (disch := omega) only [↓aI,↓zP,aD,zD,aS,simprocAttr,Tryz.facts,zA,s1,s2,ah]
  intro b6 hb60 hb6
  try simp (disch := omega) only [↓aI,↓zP,aD,zD,aS,simprocAttr,Tryz.facts,zA,s1,s2,aj hb6,ah]
  first | refine CallK.p (hr13) ?_ | refine CallP.i (hr13) ?_
  simp (disch := omega) only [↓aI,↓zP,aD,zD,aS,simprocAttr,Tryz.facts,zA,s1,s2,ah]
  first | refine CallK.p (hrg) ?_ | refine CallP.i (hrg) ?_
  simp (disch := omega) only [↓aI,↓zP,aD,zD,aS,simprocAttr,Tryz.facts,zA,s1,s2,ah]
  intro b11 hb110 hb11 b12 hb120 hb12
  have n12 := bK hb12
  have n21 : ¬ b12 = b11 := fun e => n12 e.symm
  have hb12' := am hb12
  have hRE := err_live _ _ r kk b (rest,er) pr2 hr0
  have hRL := rleft_live _ _ r kk b (rest,er) pr2 hr0
  try simp (disch := omega) only [↓aI,↓zP,aD,zD,aS,simprocAttr,Tryz.facts,zA,s1,s2,aP,n12,n21,ah,fD n12,ey,gU,gj,gI hb11,gI hb12']
  have b9 : eu [9] = .imm 0 [.sc (.int .u8 9)] 1 := rfl
  rw [b9] at hp1 hp2
  refine eI (fun σ F => F = E2 ∧ σ 9 = .ptr r 0 ∧ σ 10 = .ip [.sc (.int .i64 n2),eu pv2,fE ms2,fY ns2,eu on2,fZ xs2,eu sg2] 0 ∧ σ 11 = .ip [.imm 0 (bw rest) rest.length,.sc (.int .i64 er)] 0 ∧
    σ 12 = .ip [.sc (.int .i64 n2),eu pv2,fE ms2,fY ns2,eu on2,fZ xs2,eu sg2] 0 ∧ σ 106 = .sc (.bool false)) ?_ ?_
  · simp (disch := omega) only [↓aI,↓zP,aD,zD,aS,simprocAttr,Tryz.facts,zA,s1,s2,aP,n12,n21,ah,fD n12,ey,gU,gj,gI hb11,gI hb12']
    first | refine CallK.p (hr1) ?_ | refine CallP.i (hr1) ?_
    simp (disch := omega) only [↓aI,↓zP,aD,zD,aS,simprocAttr,Tryz.facts,zA,ah,bO,beq_self_eq_true]
    first | refine CallK.p (hr2) ?_ | refine CallP.i (hr2) ?_
    simp (disch := omega) only [↓aI,↓zP,aD,zD,aS,simprocAttr,Tryz.facts,zA,ah,bO,beq_self_eq_true]
    first | refine CallK.p (hp1) ?_ | refine CallP.i (hp1) ?_
    simp (disch := omega) only [↓aI,↓zP,aD,zD,aS,simprocAttr,Tryz.facts,zA,ah,bO,beq_self_eq_true]
    first | refine CallK.p (hp2) ?_ | refine CallP.i (hp2) ?_
    simp (disch := omega) only [↓aI,↓zP,aD,zD,aS,simprocAttr,Tryz.facts,zA,ah,bO,beq_self_eq_true]
  · rintro σ F ⟨rfl,s9,s10,s11,s12,s106⟩
    simp (disch := omega) only [↓aI,↓zP,aD,zD,aS,simprocAttr,Tryz.facts,zA,s9,s10,s11,s12,s106]
    refine eI (fun σ E => E = F ∧ σ 4 = .sc (.bool true)) ?_ ?_
    · simp (disch := omega) only [↓aI,↓zP,aD,zD,aS,simprocAttr,Tryz.facts,zA,s9,s10,s11,s12,s106]
      refine CallK.i hRE ?_
      rintro v F' ⟨rfl,rfl⟩
      refine ⟨SubC.refl,?_⟩
      try simp (disch := omega) only [↓aI,↓zP,aD,zD,aS,simprocAttr,Tryz.facts,zA,ah,bO,beq_self_eq_true]
      first | refine CallK.p (hq1) ?_ | refine CallP.i (hq1) ?_
      simp (disch := omega) only [↓aI,↓zP,aD,zD,aS,simprocAttr,Tryz.facts,zA,ah,bO,beq_self_eq_true]
      first | refine CallK.p (hq2) ?_ | refine CallP.i (hq2) ?_
      simp (disch := omega) only [↓aI,↓zP,aD,zD,aS,simprocAttr,Tryz.facts,zA,ah,bO,beq_self_eq_true]
      by_cases c0 : er = 0
      · subst c0
        try simp (disch := omega) only [↓aI,↓zP,aD,zD,aS,simprocAttr,Tryz.facts,zA,ah,bO,beq_self_eq_true]
        refine CallK.i hRL ?_
        rintro v F' ⟨rfl,rfl⟩
        try refine ⟨SubC.refl,?_⟩
        try simp (disch := omega) only [↓aI,↓zP,aD,zD,aS,simprocAttr,Tryz.facts,zA,ah,bO,beq_self_eq_true]
        first | refine CallK.p (haw) ?_ | refine CallP.i (haw) ?_
        simp (disch := omega) only [↓aI,↓zP,aD,zD,aS,simprocAttr,Tryz.facts,zA,ah,bO,beq_self_eq_true]
      · try simp (disch := omega) only [↓aI,↓zP,aD,zD,aS,simprocAttr,Tryz.facts,zA,ah,bO,beq_self_eq_true,c0]
        first | refine CallK.p (haw) ?_ | refine CallP.i (haw) ?_
        simp (disch := omega) only [↓aI,↓zP,aD,zD,aS,simprocAttr,Tryz.facts,zA,ah,bO,beq_self_eq_true,c0]
    · rintro σ F' ⟨rfl,s4⟩
      simp (disch := omega) only [↓aI,↓zP,aD,zD,aS,simprocAttr,Tryz.facts,zA,s4]
      exact hsE2
end Go.Proofs.YtjlnpngaiphnmaaGreat
