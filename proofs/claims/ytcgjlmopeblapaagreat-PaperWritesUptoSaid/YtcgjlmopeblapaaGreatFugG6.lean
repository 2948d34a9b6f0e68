/-
  Several texts in one: each says what it proves.
  Conditions: none. Lemmas only.
-/
import Derived.Test.YtcgjlmopeblapaaGreatFugG5
set_option linter.all false
section
set_option linter.unusedSimpArgs false
set_option linter.unusedVariables false
set_option maxRecDepth 8000
set_option maxHeartbeats 4000000
namespace Go.Proofs.YtcgjlmopeblapaaGreat
open Go Go.Abs Go.Proofs Go.Fug
theorem frame_gen {Hc H1 Hc2 H2 : AH} (K : Nat → Prop) (hs : Abs.Sub Hc H1) (h1 : ∀ x,K x → Hc x ≠ none) (h2 : ∀ x,¬ K x → Hc2 x = Hc x ∧ H2 x = H1 x) (h3 : ∀ x,K x → H2 x = Hc2 x) : bX Hc H1 Hc2 H2 := by
  refine ⟨fun x o hx => ?_,fun x o hx hc => ?_⟩
  · by_cases hk : K x
    · rw [h3 x hk]; exact hx
    · rw [(h2 x hk).2]; exact hs x o (by rw [← (h2 x hk).1]; exact hx)
  · have hk : ¬ K x := fun hk => h1 x hk hc
    exact ⟨by rw [(h2 x hk).2]; exact hx,by rw [(h2 x hk).1]; exact hc⟩
def atL (N : List Nd) (i : Int) : EId × Int := if 0 ≤ i ∧ i < ((live N).length : Nat) then ((((live N)[i.toNat]?).map (·.id)).getD bL,0) else (bL,6)
abbrev atV (p : EId × Int) : AV := .tup [idV p.1,.sc (.int .i64 p.2)]
theorem live_append (l r : List Nd) : live (l ++ r) = live l ++ live r := by simp [live]
abbrev atH (H : AH) (b3 b4 b5 : Nat) (i : Int) (x : EId) (e : Int) : AH := ((H.set b3 (.cells [.sc (.int .i64 i)] 3 1)).set b4 (.cells [.sc (.int .i64 x.1),.sc (.int .i64 x.2)] 50 2)).set b5 (.cells [.sc (.int .i64 e)] 33 1)
theorem at_live (H : AH) (h m : Nat) (L : List Ins) (G : List EId) (i : Int) (t : IsT H h m L G) : ACalls Tryz.prog 33 [.ptr h 0,.sc (.int .i64 i)] H fun v H' => v = atV (atL (bF L G) i) ∧ H' = H := by
  have hit := all_iter h m L G t.g t.small
  have hnl := nodes_le G t.g.nd (by have := t.small; omega)
  have hal := fun H' => all_live H' h
  have hln := fun H' (t : IsT H' h m L G) => len_live H' h m L G t
  have hll : (live (bF L G)).length = L.length - G.length := live_len t.g t.gs t.gn
  have hi := t.hi
  have hm := t.hm
  have hsm := t.small
  unfold atL
  refine ao (c := ⟨Tryz.prog,30,[(1,[1,0,0,0,0,2,0,0]),(1000004,[7])],[],[(1,(.op 0 2 (.op 1 0 (.op 2 0 (.op 4 0 (.or (.op 3 2 (.op 5 2 (.op 6 0 (.op 7 0 .nil)))) (.op 5 2 (.op 3 2 (.op 6 0 (.op 7 0 .nil))))))))))]⟩) (rs := [ResultVar.cell 4 50,ResultVar.cell 5 33]) Tryz.mixed Tryz.func33 rfl rfl rfl (Nat.le_of_ble_eq_true rfl) (by kernel_rfl) ?_
  simp (disch := omega) only [↓aI,↓zP,aD,zD,aS,simprocAttr,Tryz.facts]
  intro b3 hb30 hb3 b4 hb40 hb4 b5 hb50 hb5
  have n34 := bK hb4
  have n35 := bK (am hb5)
  have n45 := bK hb5
  have n43 := fun e : b4 = b3 => n34 e.symm
  have n53 := fun e : b5 = b3 => n35 e.symm
  have n54 := fun e : b5 = b4 => n45 e.symm
  have f4 := am hb4
  have f5 := am (am hb5)
  have tH : ∀ i x e,IsT (atH H b3 b4 b5 i x e) h m L G := fun i x e => ((t.put (bA hi hb3) (bA hm hb3)).put (bA hi f4) (bA hm f4)).put (bA hi f5) (bA hm f5)
  refine eI (fun σ F => F = atH H b3 b4 b5 i (0,0) 0 ∧ σ 0 = .ptr h 0 ∧ σ 3 = .ptr b3 0 ∧ σ 4 = .ptr b4 0 ∧ σ 5 = .ptr b5 0 ∧ σ 15 = .sc (.bool (decide (¬ (0 ≤ i ∧ i < ((live (bF L G)).length : Nat)))))) ?_ ?_
  · by_cases h0 : i < 0
    · rw [dT (show ¬ (0 ≤ i ∧ i < ((live (bF L G)).length : Nat)) by omega)]
      simp (disch := omega) only [↓aI,↓zP,aD,zD,aS,simprocAttr,Tryz.facts,aP,n34,n35,n45,n43,n53,n54,zA,ah]
    · have hd : decide (¬ (0 ≤ i ∧ i < ((live (bF L G)).length : Nat))) = decide (((L.length - G.length : Nat) : Int) ≤ i) := by
        rw [← hll]
        exact decide_eq_decide.2 (by omega)
      rw [hd]
      simp (disch := omega) only [↓aI,↓zP,aD,zD,aS,simprocAttr,Tryz.facts,aP,n34,n35,n45,n43,n53,n54,zA,ah]
      refine ⟨?_,?_⟩
      all_goals
        refine CallK.i (hln _ (tH i (0,0) 0)) ?_
        rintro v E ⟨rfl,rfl⟩
        simp (disch := omega) only [↓aI,↓zP,aD,zD,aS,simprocAttr,Tryz.facts,aP,n34,n35,n45,n43,n53,n54,zA,ah]
  · rintro σ F ⟨rfl,s0,s3,s4,s5,s15⟩
    have hsb : ∀ i x e,Abs.Sub H (atH H b3 b4 b5 i x e) := fun i x e => (((Abs.Sub.refl H).set_free hb3).set_free f4).set_free f5
    by_cases hin : 0 ≤ i ∧ i < ((live (bF L G)).length : Nat)
    · rw [if_pos hin]
      rw [dF (not_not_intro hin)] at s15
      obtain ⟨k,rfl⟩ : ∃ k : Nat,i = k := ⟨i.toNat,by omega⟩
      have hk : k < (live (bF L G)).length := by omega
      rw [Int.toNat_natCast]
      simp (disch := omega) only [↓aI,↓zP,aD,zD,aS,simprocAttr,Tryz.facts,s0,s3,s4,s5,s15]
      refine CallK.i (hal _) ?_
      rintro v E ⟨rfl,rfl⟩
      try simp (disch := omega) only [↓aI,↓zP,aD,zD,aS,simprocAttr,Tryz.facts,s0,s3,s4,s5,s15]
      refine range_t Tryz.mixed (by simp (disch := omega) only [↓aI,↓zP,aD,zD,aS,simprocAttr,Tryz.facts]) (by kernel_rfl) (fun _ => rfl) hit
        (fun pre Hu => ∃ c : Nat,c = (live (pre.map (·.2))).length ∧ c ≤ k ∧ Hu = atH H b3 b4 b5 ((k - c : Nat) : Int) (0,0) 0)
        (fun code pre Hu => code = .ret ∧ ∃ P x,live (pre.map (·.2)) = P ++ [x] ∧ P.length = k ∧ Hu = atH H b3 b4 b5 0 x.id 0) ?_ ?_ ?_ ?_ ?_
      · rintro pre Hu H' ⟨c,-,-,rfl⟩ hs
        exact (tH _ _ _).mono hs
      · exact ⟨0,rfl,by omega,by rw [Nat.sub_zero]⟩
      · rintro pre ⟨q,x⟩ Hu H1 ⟨c,hc,hck,rfl⟩ hs hpl
        have hfr : ∀ i' x' e' H2, (∀ y, y ≠ b3 → y ≠ b4 → y ≠ b5 → H2 y = H1 y) → H2 b3 = some (.cells [.sc (.int .i64 i')] 3 1) → H2 b4 = some (.cells [.sc (.int .i64 x'.1), .sc (.int .i64 x'.2)] 50 2) → H2 b5 = some (.cells [.sc (.int .i64 e')] 33 1) →
            bX (atH H b3 b4 b5 ((k - c : Nat) : Int) (0,0) 0) H1 (atH H b3 b4 b5 i' x' e') H2 := fun i' x' e' H2 h0 h3 h4 h5 => by
          refine frame_gen (fun y => y = b3 ∨ y = b4 ∨ y = b5) hs ?_ ?_ ?_
          · rintro y (rfl | rfl | rfl)
            · unfold atH; rw [aP n35,aP n34,set_get]; exact fun h => by cases h
            · unfold atH; rw [aP n45,set_get]; exact fun h => by cases h
            · unfold atH; rw [set_get]; exact fun h => by cases h
          · intro y hy
            have h3 : ¬ y = b3 := fun e => hy (.inl e)
            have h4 : ¬ y = b4 := fun e => hy (.inr (.inl e))
            have h5 : ¬ y = b5 := fun e => hy (.inr (.inr e))
            refine ⟨?_,h0 y h3 h4 h5⟩
            unfold atH
            rw [aP h5,aP h4,aP h3,aP h5,aP h4,aP h3]
          · rintro y (rfl | rfl | rfl)
            · rw [h3]; unfold atH; rw [aP n35,aP n34,set_get]
            · rw [h4]; unfold atH; rw [aP n45,set_get]
            · rw [h5]; unfold atH; rw [set_get]
        have l3 : H1 b3 = some (.cells [.sc (.int .i64 ((k - c : Nat) : Int))] 3 1) := hs b3 _ (by unfold atH; rw [aP n35,aP n34,set_get])
        have l4 : H1 b4 = some (.cells [.sc (.int .i64 0),.sc (.int .i64 0)] 50 2) := hs b4 _ (by unfold atH; rw [aP n45,set_get])
        have l5 : H1 b5 = some (.cells [.sc (.int .i64 0)] 33 1) := hs b5 _ (by unfold atH; rw [set_get])
        have hmap : live ((pre ++ [(q,x)]).map (·.2)) = live (pre.map (·.2)) ++ if x.gone then [] else [x] := by
          unfold live
          rw [List.map_append,List.filter_append]
          cases hx : x.gone <;> simp [List.filter_cons,hx]
        generalize live (pre.map (·.2)) = P at *
        obtain ⟨⟨x1,x2⟩,xu,xg⟩ := x
        change cwp _ _ _ (Sg.put (Sg.put _ (some 19) (.sc (.int .i64 (q : Nat)))) (some 20) (.agg [.sc (.int .i64 x1),.sc (.int .i64 x2),.sc (.int .i32 xu),.sc (.bool xg)])) _
        cases xg with
        | true =>
          simp only [if_true,List.append_nil] at hmap
          simp (disch := omega) only [↓aI,↓zP,aD,zD,aS,simprocAttr,Tryz.facts]
          intro b7 hb70 hb7
          simp (disch := omega) only [↓aI,↓zP,aD,zD,aS,simprocAttr,Tryz.facts,s3,s4,s5,aj hb7,ah,dS]
          refine ⟨_,⟨hs,fun q o h1 h2 => ⟨h1,h2⟩⟩,c,?_,hck,rfl⟩
          rw [hmap]; exact hc
        | false =>
          simp only [Bool.false_eq_true,if_false] at hmap
          by_cases hz : c = k
          · have hz1 : ((k - c : Nat) : Int) = 0 := by omega
            rw [hz1] at l3
            simp (disch := omega) only [↓aI,↓zP,aD,zD,aS,simprocAttr,Tryz.facts]
            intro b7 hb70 hb7
            simp (disch := omega) only [↓aI,↓zP,aD,zD,aS,simprocAttr,Tryz.facts,s3,s4,s5,aj hb7,ah,aP,l3,l4,l5,n34,n35,n45,n43,n53,n54,zA,RPost_ret]
            refine ⟨_,hfr 0 (x1,x2) 0 _ (fun y h3 h4 h5 => ?_) ?_ ?_ ?_,P,_,hmap,by omega,rfl⟩
            · rw [aP h5,aP h4]
            · rw [aP n35,aP n34]; exact l3
            · rw [aP n45,set_get]
            · rw [set_get]
          · have hz1 : ((k - c : Nat) : Int) - 1 = ((k - (c + 1) : Nat) : Int) := by omega
            have hz2 : ¬ ((k - c : Nat) : Int) = 0 := by omega
            have hz3 : (((k - c : Nat) : Int) == 0) = false := by simpa using hz2
            simp (disch := omega) only [↓aI,↓zP,aD,zD,aS,simprocAttr,Tryz.facts]
            intro b7 hb70 hb7
            simp (disch := omega) only [↓aI,↓zP,aD,zD,aS,simprocAttr,Tryz.facts,s3,s4,s5,aj hb7,ah,aP,l3,l4,l5,n34,n35,n45,n43,n53,n54,hz3,dS]
            refine ⟨_,hfr ((k - (c + 1) : Nat) : Int) (0,0) 0 _ (fun y h3 h4 h5 => ?_) ?_ ?_ ?_,c + 1,?_,by omega,rfl⟩
            · rw [aP h3]
            · rw [set_get,Nat.sub_sub]
            · rw [aP n43]; exact l4
            · rw [aP n53]; exact l5
            · rw [hmap,hc,List.length_append]; rfl
      · rintro xs Hu rfl ⟨c,hc,hck,rfl⟩
        rw [ixd_map] at hc
        omega
      · rintro code pre Hu ⟨n,hn0,hnl,rfl⟩ ⟨rfl,P,x,hP,hPk,rfl⟩
        refine ⟨fun _ => ?_,fun id e => by cases e⟩
        have hlv : (live (bF L G))[k]? = some x := by
          have e1 : ((ixd 0 (bF L G)).take n).map (·.2) = (bF L G).take n := by rw [List.map_take,ixd_map]
          rw [e1] at hP
          have e2 := live_append ((bF L G).take n) ((bF L G).drop n)
          rw [List.take_append_drop,hP] at e2
          rw [e2,List.append_assoc,List.getElem?_append_right (by omega),hPk,Nat.sub_self]
          rfl
        rw [hlv]
        simp (disch := omega) only [↓aI,↓zP,aD,zD,aS,simprocAttr,Tryz.facts,s3,s4,s5,aP,n34,n35,n45,n43,n53,n54]
        exact ⟨_,rfl,H,hsb _ _ _,rfl,rfl⟩
    · rw [if_neg hin]
      rw [dT hin] at s15
      simp (disch := omega) only [↓aI,↓zP,aD,zD,aS,simprocAttr,Tryz.facts,s0,s3,s4,s5,s15,aP,n34,n35,n45,n43,n53,n54,ah]
      exact ⟨_,rfl,H,((hsb _ _ _).set_free f4).set_free f5,rfl,rfl⟩
end Go.Proofs.YtcgjlmopeblapaaGreat
end
section
set_option linter.unusedSimpArgs false
set_option linter.unusedVariables false
set_option maxRecDepth 8000
set_option maxHeartbeats 4000000
namespace Go.Proofs.YtcgjlmopeblapaaGreat
open Go Go.Abs Go.Proofs Go.Fug
def eL (N : List Nd) (k : Nat) : EId := if k = 0 then bL else (((live N)[k - 1]?).map (·.id)).getD bL
def planL (L : List Ins) (G : List EId) (i : Int) : EId × Bool × Int :=
  if 0 ≤ i ∧ i ≤ ((live (bF L G)).length : Nat) then
    if kids L (eL (bF L G) i.toNat) true = [] then (eL (bF L G) i.toNat,true,0) else (planZ L G (eL (bF L G) i.toNat),false,0)
  else (bL,false,6)
abbrev planV (p : EId × Bool × Int) : AV := .tup [idV p.1,.sc (.bool p.2.1),.sc (.int .i64 p.2.2)]
theorem planA_ok {L : List Ins} {G : List EId} (g : Fug.Good L) {k : Nat} (hk : k ≤ (live (bF L G)).length) :
    (eL (bF L G) k = bL ∨ eL (bF L G) k ∈ L.map (·.id)) ∧ (∀ h : 0 < k,eL (bF L G) k = ((live (bF L G))[k - 1]'(by omega)).id) := by
  by_cases h : k = 0
  · subst h
    exact ⟨.inl rfl,fun h => by omega⟩
  · have e : eL (bF L G) k = ((live (bF L G))[k - 1]'(by omega)).id := by
      unfold eL
      rw [if_neg h,List.getElem?_eq_getElem (by omega)]
      rfl
    refine ⟨.inr ?_,fun _ => e⟩
    rw [e,← mem_nodes g G]
    exact List.mem_map.2 ⟨_,(List.mem_filter.1 (List.getElem_mem _)).1,rfl⟩
end Go.Proofs.YtcgjlmopeblapaaGreat
end
section
set_option linter.unusedSimpArgs false
set_option linter.unusedVariables false
set_option maxRecDepth 8000
set_option maxHeartbeats 4000000
namespace Go.Proofs.YtcgjlmopeblapaaGreat
open Go Go.Abs Go.Proofs Go.Fug
theorem atL_in {N : List Nd} {k : Nat} (h0 : 0 < k) (hk : k ≤ (live N).length) : atL N ((k - 1 : Nat) : Int) = (eL N k,0) := by
  unfold atL eL
  rw [if_pos (by omega),Int.toNat_natCast,if_neg (by omega)]
theorem plan_live (H : AH) (h m : Nat) (L : List Ins) (G : List EId) (i : Int) (t : IsT H h m L G) : ACalls Tryz.prog 28 [.ptr h 0,.sc (.int .i64 i)] H fun v H' => v = planV (planL L G i) ∧ H' = H := by
  have hln := fun H' (t : IsT H' h m L G) => len_live H' h m L G t
  have hat := fun H' i (t : IsT H' h m L G) => at_live H' h m L G i t
  have hll : (live (bF L G)).length = L.length - G.length := live_len t.g t.gs t.gn
  have hi := t.hi
  have hm := t.hm
  have hsm := t.small
  unfold planL
  refine ao (c := ⟨Tryz.prog,68,[(6,[0,0,0,1,1,1,0,0,0]),(10,[0,0,0,1,1,1,0,0,1,0]),(11,[0,0,0,1,1,1,0,0,0,1,2]),(4000011,[0,4,9]),(4000010,[0,4,9,56]),(4000009,[0,4,9]),(4000006,[0,4,7,8]),(4000005,[0,4,7]),(4000001,[0,1,4,21])],[],[]⟩) (rs := [ResultVar.cell 4 50,ResultVar.tmp 5,ResultVar.tmp 6]) Tryz.mixed Tryz.func28 rfl rfl rfl (Nat.le_of_ble_eq_true rfl) (by kernel_rfl) ?_
  simp (disch := omega) only [↓aI,↓zP,aD,zD,aS,simprocAttr,Tryz.facts]
  intro b4 hb40 hb4
  have n1 := bA hi hb4
  have n2 := bA hm hb4
  have t4 := fun o => t.put (b := b4) (o := o) n1 n2
  by_cases h0 : i < 0
  · rw [if_neg (by omega)]
    simp (disch := omega) only [↓aI,↓zP,aD,zD,aS,simprocAttr,Tryz.facts,zA,ah]
    exact ⟨_,rfl,H,(Abs.Sub.refl H).set_free hb4,rfl,rfl⟩
  · obtain ⟨k,rfl⟩ : ∃ k : Nat,i = k := ⟨i.toNat,by omega⟩
    rw [Int.toNat_natCast]
    simp (disch := omega) only [↓aI,↓zP,aD,zD,aS,simprocAttr,Tryz.facts,zA,ah]
    refine CallK.i (hln _ (t4 _)) ?_
    rintro v E ⟨rfl,rfl⟩
    by_cases h1 : k ≤ (live (bF L G)).length
    · rw [if_pos (by omega)]
      obtain ⟨ha,-⟩ := planA_ok (G := G) t.g h1
      have hai : eL (bF L G) k ∈ cH L := by
        rcases ha with e | e
        · rw [e]; exact List.mem_cons_self
        · exact List.mem_cons_of_mem _ e
      have hnr : k = 0 → eL (bF L G) k = (0,0) := fun e => by subst e; rfl
      have hatk := fun (h0 : 0 < k) => atL_in (N := bF L G) h0 h1
      generalize eL (bF L G) k = a at *
      have hf := cE (bR L G) a t.ord 0
      rw [if_pos (t.ord_mem.2 hai)] at hf
      clear ha
      have hm' := hm
      generalize hE : bP t.ord (bR L G) = E at *
      obtain ⟨a1,a2⟩ := a
      simp (disch := omega) only [↓aI,↓zP,aD,zD,aS,simprocAttr,Tryz.facts,zA,ah]
      intro b7 hb70 hb7
      have n47 := bK hb7
      have n74 := fun e : b7 = b4 => n47 e.symm
      have hb7H := am hb7
      have m1 := bA hi hb7H
      have m2 := bA hm hb7H
      have t7 := fun o o' => (t4 o).put (b := b7) (o := o') m1 m2
      rcases Nat.eq_zero_or_pos k with hk | hk
      · obtain ⟨rfl,rfl⟩ : a1 = 0 ∧ a2 = 0 := by have := hnr hk; simpa using this
        simp (disch := omega) only [↓aI,↓zP,aD,zD,aS,simprocAttr,Tryz.facts,zA,ah,aP,n47,n74,n1,n2,m1,m2,hi,hm',hf]
        clear hatk hat hln hnr
        have hsub : ∀ o o',Abs.Sub H ((H.set b4 o).set b7 o') := fun o o' => ((Abs.Sub.refl H).set_free hb4).set_free hb7H
        have hall := t.g.all_eq (G := G) (0,0) true
        have hkid : ∀ y ∈ kids L (0,0) true,y ∈ cH L := fun y hy => by
          obtain ⟨i,hi,e,-⟩ := mem_kids.1 hy
          exact List.mem_cons_of_mem _ (List.mem_map.2 ⟨i,hi,e⟩)
        have hkl := cr L (0,0) true
        have hKi := bU (kids L (0,0) true)
        have hpz := fun z W => @planZ_eq L G (0,0) z W
        generalize kids L (0,0) true = K at *
        cases K with
        | nil =>
          rw [if_pos rfl]
          have hz0 : (([] : List EId).length : Nat) = 0 := rfl
          simp (disch := omega) only [↓aI,↓zP,aD,zD,aS,simprocAttr,Tryz.facts,zA,ah,aP,n47,n74,hz0]
          exact ⟨_,rfl,H,(hsub _ _).set_free hb4,rfl,rfl⟩
        | cons y K =>
          rw [if_neg (by simp)]
          have hK2 : (cB (y :: K)).take 2 = [.sc (.int .i64 y.1),.sc (.int .i64 y.2)] := rfl
          have hKpos : 0 < (y :: K).length := by simp
          have hyi := hkid y (by simp)
          have hz : ∃ W,all L G (0,0) true = all L G y false ++ bl L G y :: W := by
            rw [hall,List.flatMap_cons]
            exact ⟨_,by simp only [List.append_assoc,List.cons_append,List.nil_append]; rfl⟩
          clear hall hkid
          generalize (y :: K) = KK at *
          have hK22 : 2 ≤ KK.length * 2 := by omega
          simp (disch := omega) only [↓aI,↓zP,aD,zD,aS,simprocAttr,Tryz.facts,zA,ah,aP,n47,n74,hKi,hK2,hK22,Nat.zero_mul,Nat.le_refl]
          intro b9 hb90 hb9
          have n49 := bK (am hb9)
          have n79 := bK hb9
          have n94 := fun e : b9 = b4 => n49 e.symm
          have n97 := fun e : b9 = b7 => n79 e.symm
          have hb9H := am (am hb9)
          have p1 := bA hi hb9H
          have p2 := bA hm hb9H
          try simp (disch := omega) only [↓aI,↓zP,aD,zD,aS,simprocAttr,Tryz.facts,zA,ah,aP,n47,n74,n49,n79,n94,n97]
          refine br (c := ⟨Tryz.prog,68,[(6,[0,0,0,1,1,1,0,0,0]),(10,[0,0,0,1,1,1,0,0,1,0]),(11,[0,0,0,1,1,1,0,0,0,1,2]),(4000011,[0,4,9]),(4000010,[0,4,9,56]),(4000009,[0,4,9]),(4000006,[0,4,7,8]),(4000005,[0,4,7]),(4000001,[0,1,4,21])],[],[]⟩) Tryz.mixed (by kernel_rfl) (fun mm σ H' => ∃ (z : EId) (W : List Nd),Deep L mm z ∧ z ∈ cH L ∧ all L G (0,0) true = all L G z false ++ bl L G z :: W ∧
            H' = ((H.set b4 (.cells [.sc (.int .i64 0),.sc (.int .i64 0)] 50 2)).set b7 (.cells [.sc (.int .i64 0),.sc (.int .i64 0)] 50 2)).set b9 (.cells [.sc (.int .i64 z.1),.sc (.int .i64 z.2)] 50 2) ∧ σ 0 = .ptr h 0 ∧ σ 4 = .ptr b4 0 ∧ σ 9 = .ptr b9 0) (L.length + 1) ?_ ?_
          · obtain ⟨W,hW⟩ := hz
            refine ⟨y,W,t.g.deep y,hyi,hW,?_⟩
            simp (disch := omega) only [↓aI,↓zP,aD,zD,aS,simprocAttr,Tryz.facts]
            try rfl
          · clear hz hK2 hKi hyi hKpos hkl hf
            rintro mm σ H' ⟨z,W,hd,hzi,hW,rfl,s0,s4,s9⟩
            have hf := cE (bR L G) z t.ord 0
            rw [if_pos (t.ord_mem.2 hzi),hE] at hf
            have hkl := cr L z false
            have hKi := bU (kids L z false)
            have hallz := t.g.all_eq (G := G) z false
            have hkid : ∀ y ∈ kids L z false,y ∈ cH L := fun y hy => by
              obtain ⟨i,hi,e,-⟩ := mem_kids.1 hy
              exact List.mem_cons_of_mem _ (List.mem_map.2 ⟨i,hi,e⟩)
            have hdk := fun y (h : y ∈ kids L z false) => hd.kid h
            obtain ⟨K1,hK1⟩ : ∃ K1,K1 = kids L z true := ⟨_,rfl⟩
            obtain ⟨K0,hK0⟩ : ∃ K0,K0 = kids L z false := ⟨_,rfl⟩
            unfold bR eC at hf
            rw [← hK1,← hK0] at hf
            rw [← hK0] at hkl hKi hallz hkid hdk
            obtain ⟨z1,z2⟩ := z
            simp only [] at hf
            cases K0 with
            | nil =>
              have hz0 : (([] : List EId).length : Nat) = 0 := rfl
              rw [hallz] at hW
              simp only [List.flatMap_nil,List.nil_append] at hW
              rw [hpz _ _ hW]
              simp (disch := omega) only [↓aI,↓zP,aD,zD,aS,simprocAttr,Tryz.facts,s0,s4,s9,zA,ah,aP,n47,n74,n49,n79,n94,n97,n1,n2,m1,m2,p1,p2,hi,hm',hf,hz0]
              exact ⟨_,rfl,H,(((hsub _ _).set_free hb9H).set_free hb4),rfl,rfl⟩
            | cons v K =>
              have hK2 : (cB (v :: K)).take 2 = [.sc (.int .i64 v.1),.sc (.int .i64 v.2)] := rfl
              have hKpos : 0 < (v :: K).length := by simp
              obtain ⟨mq,hmq,hdv⟩ := hdk v (by simp)
              have hvi := hkid v (by simp)
              have hW2 : ∃ W,all L G (0,0) true = all L G v false ++ bl L G v :: W := by
                rw [hW,hallz,List.flatMap_cons]
                exact ⟨_,by simp only [List.append_assoc,List.cons_append,List.nil_append]; rfl⟩
              clear hallz hkid hdk hW hK0
              generalize (v :: K) = KK at *
              have hK22 : 2 ≤ KK.length * 2 := by omega
              simp (disch := omega) only [↓aI,↓zP,aD,zD,aS,simprocAttr,Tryz.facts,s0,s4,s9,zA,ah,aP,n47,n74,n49,n79,n94,n97,n1,n2,m1,m2,p1,p2,hi,hm',hf,hKi,hK2,hK22,Nat.zero_mul,Nat.le_refl]
              obtain ⟨W2,hW2⟩ := hW2
              exact ⟨mq,by omega,v,W2,hdv,hvi,hW2,rfl⟩
      · have hkw : ((k : Nat) : Int) - 1 = ((k - 1 : Nat) : Int) := by omega
        have hatk := hatk hk
        simp (disch := omega) only [↓aI,↓zP,aD,zD,aS,simprocAttr,Tryz.facts,zA,ah,hkw]
        refine CallK.i (hat _ _ (t7 _ _)) ?_
        rintro v E ⟨rfl,rfl⟩
        rw [hatk]
        simp (disch := omega) only [↓aI,↓zP,aD,zD,aS,simprocAttr,Tryz.facts,zA,ah,aP,n47,n74,n1,n2,m1,m2,hi,hm',hf]
        clear hatk hat hln hnr
        have hsub : ∀ o o',Abs.Sub H ((H.set b4 o).set b7 o') := fun o o' => ((Abs.Sub.refl H).set_free hb4).set_free hb7H
        have hall := t.g.all_eq (G := G) (a1,a2) true
        have hkid : ∀ y ∈ kids L (a1,a2) true,y ∈ cH L := fun y hy => by
          obtain ⟨i,hi,e,-⟩ := mem_kids.1 hy
          exact List.mem_cons_of_mem _ (List.mem_map.2 ⟨i,hi,e⟩)
        have hkl := cr L (a1,a2) true
        have hKi := bU (kids L (a1,a2) true)
        have hpz := fun z W => @planZ_eq L G (a1,a2) z W
        generalize kids L (a1,a2) true = K at *
        cases K with
        | nil =>
          rw [if_pos rfl]
          have hz0 : (([] : List EId).length : Nat) = 0 := rfl
          simp (disch := omega) only [↓aI,↓zP,aD,zD,aS,simprocAttr,Tryz.facts,zA,ah,aP,n47,n74,hz0]
          exact ⟨_,rfl,H,(hsub _ _).set_free hb4,rfl,rfl⟩
        | cons y K =>
          rw [if_neg (by simp)]
          have hK2 : (cB (y :: K)).take 2 = [.sc (.int .i64 y.1),.sc (.int .i64 y.2)] := rfl
          have hKpos : 0 < (y :: K).length := by simp
          have hyi := hkid y (by simp)
          have hz : ∃ W,all L G (a1,a2) true = all L G y false ++ bl L G y :: W := by
            rw [hall,List.flatMap_cons]
            exact ⟨_,by simp only [List.append_assoc,List.cons_append,List.nil_append]; rfl⟩
          clear hall hkid
          generalize (y :: K) = KK at *
          have hK22 : 2 ≤ KK.length * 2 := by omega
          simp (disch := omega) only [↓aI,↓zP,aD,zD,aS,simprocAttr,Tryz.facts,zA,ah,aP,n47,n74,hKi,hK2,hK22,Nat.zero_mul,Nat.le_refl]
          intro b9 hb90 hb9
          have n49 := bK (am hb9)
          have n79 := bK hb9
          have n94 := fun e : b9 = b4 => n49 e.symm
          have n97 := fun e : b9 = b7 => n79 e.symm
          have hb9H := am (am hb9)
          have p1 := bA hi hb9H
          have p2 := bA hm hb9H
          try simp (disch := omega) only [↓aI,↓zP,aD,zD,aS,simprocAttr,Tryz.facts,zA,ah,aP,n47,n74,n49,n79,n94,n97]
          refine br (c := ⟨Tryz.prog,68,[(6,[0,0,0,1,1,1,0,0,0]),(10,[0,0,0,1,1,1,0,0,1,0]),(11,[0,0,0,1,1,1,0,0,0,1,2]),(4000011,[0,4,9]),(4000010,[0,4,9,56]),(4000009,[0,4,9]),(4000006,[0,4,7,8]),(4000005,[0,4,7]),(4000001,[0,1,4,21])],[],[]⟩) Tryz.mixed (by kernel_rfl) (fun mm σ H' => ∃ (z : EId) (W : List Nd),Deep L mm z ∧ z ∈ cH L ∧ all L G (a1,a2) true = all L G z false ++ bl L G z :: W ∧
            H' = ((H.set b4 (.cells [.sc (.int .i64 0),.sc (.int .i64 0)] 50 2)).set b7 (.cells [.sc (.int .i64 a1),.sc (.int .i64 a2)] 50 2)).set b9 (.cells [.sc (.int .i64 z.1),.sc (.int .i64 z.2)] 50 2) ∧ σ 0 = .ptr h 0 ∧ σ 4 = .ptr b4 0 ∧ σ 9 = .ptr b9 0) (L.length + 1) ?_ ?_
          · obtain ⟨W,hW⟩ := hz
            refine ⟨y,W,t.g.deep y,hyi,hW,?_⟩
            simp (disch := omega) only [↓aI,↓zP,aD,zD,aS,simprocAttr,Tryz.facts]
            try rfl
          · clear hz hK2 hKi hyi hKpos hkl hf
            rintro mm σ H' ⟨z,W,hd,hzi,hW,rfl,s0,s4,s9⟩
            have hf := cE (bR L G) z t.ord 0
            rw [if_pos (t.ord_mem.2 hzi),hE] at hf
            have hkl := cr L z false
            have hKi := bU (kids L z false)
            have hallz := t.g.all_eq (G := G) z false
            have hkid : ∀ y ∈ kids L z false,y ∈ cH L := fun y hy => by
              obtain ⟨i,hi,e,-⟩ := mem_kids.1 hy
              exact List.mem_cons_of_mem _ (List.mem_map.2 ⟨i,hi,e⟩)
            have hdk := fun y (h : y ∈ kids L z false) => hd.kid h
            obtain ⟨K1,hK1⟩ : ∃ K1,K1 = kids L z true := ⟨_,rfl⟩
            obtain ⟨K0,hK0⟩ : ∃ K0,K0 = kids L z false := ⟨_,rfl⟩
            unfold bR eC at hf
            rw [← hK1,← hK0] at hf
            rw [← hK0] at hkl hKi hallz hkid hdk
            obtain ⟨z1,z2⟩ := z
            simp only [] at hf
            cases K0 with
            | nil =>
              have hz0 : (([] : List EId).length : Nat) = 0 := rfl
              rw [hallz] at hW
              simp only [List.flatMap_nil,List.nil_append] at hW
              rw [hpz _ _ hW]
              simp (disch := omega) only [↓aI,↓zP,aD,zD,aS,simprocAttr,Tryz.facts,s0,s4,s9,zA,ah,aP,n47,n74,n49,n79,n94,n97,n1,n2,m1,m2,p1,p2,hi,hm',hf,hz0]
              exact ⟨_,rfl,H,(((hsub _ _).set_free hb9H).set_free hb4),rfl,rfl⟩
            | cons v K =>
              have hK2 : (cB (v :: K)).take 2 = [.sc (.int .i64 v.1),.sc (.int .i64 v.2)] := rfl
              have hKpos : 0 < (v :: K).length := by simp
              obtain ⟨mq,hmq,hdv⟩ := hdk v (by simp)
              have hvi := hkid v (by simp)
              have hW2 : ∃ W,all L G (a1,a2) true = all L G v false ++ bl L G v :: W := by
                rw [hW,hallz,List.flatMap_cons]
                exact ⟨_,by simp only [List.append_assoc,List.cons_append,List.nil_append]; rfl⟩
              clear hallz hkid hdk hW hK0
              generalize (v :: K) = KK at *
              have hK22 : 2 ≤ KK.length * 2 := by omega
              simp (disch := omega) only [↓aI,↓zP,aD,zD,aS,simprocAttr,Tryz.facts,s0,s4,s9,zA,ah,aP,n47,n74,n49,n79,n94,n97,n1,n2,m1,m2,p1,p2,hi,hm',hf,hKi,hK2,hK22,Nat.zero_mul,Nat.le_refl]
              obtain ⟨W2,hW2⟩ := hW2
              exact ⟨mq,by omega,v,W2,hdv,hvi,hW2,rfl⟩
    · rw [if_neg (by omega)]
      simp (disch := omega) only [↓aI,↓zP,aD,zD,aS,simprocAttr,Tryz.facts,zA,ah]
      exact ⟨_,rfl,H,(Abs.Sub.refl H).set_free hb4,rfl,rfl⟩
end Go.Proofs.YtcgjlmopeblapaaGreat
end
