/-
  Several texts in one: each says what it proves.
  Conditions: none. Lemmas only.
-/
import Derived.Test.YtcgjlmopeblapaaGreatFugG3
import Derived.Test.YtcgjlmopeblapaaGreatFugG2
import Derived.Test.YtcgjlmopeblapaaGreatAbsG6
set_option linter.all false
section
set_option linter.unusedSimpArgs false
set_option linter.unusedVariables false
set_option maxRecDepth 8000
set_option maxHeartbeats 4000000
namespace Go.Proofs.YtcgjlmopeblapaaGreat
open Go Go.Abs Go.Proofs Go.Fug
theorem ents_get {I : List EId} {f : EId → AV} {x : EId} (h : x ∈ I) : (bP I f)[I.idxOf x]? = some (idV x,f x) := by
  have hl : I.idxOf x < I.length := List.idxOf_lt_length_iff.2 h
  unfold bP
  rw [List.getElem?_map,List.getElem?_eq_getElem hl,List.getElem_idxOf hl]
  rfl
theorem plain_id (a c : Int) : plainA (.agg [.sc (.int .i64 a),.sc (.int .i64 c)]) = true := rfl
theorem add_par (H : AH) (h m : Nat) (L : List Ins) (G : List EId) (i : Ins) (t : IsT H h m L G) (hok : okI i = true) (hin : i.id ∉ L.map (·.id)) (hp : i.par ∈ cH L) : ACalls Tryz.prog 77 [.ptr h 0,.agg (cA i)] H (AddR H h m L G i) := by
  have hpr0 : i.par = bL ∨ i.par ∈ L.map (·.id) := by
    by_cases e : i.par = bL
    · exact .inl e
    · exact .inr ((eP e).1 hp)
  have hidr : i.id ≠ bL := okI_ne hok
  have hidn : i.id ∉ cH L := fun e => hin ((eP hidr).1 e)
  have hpid : i.par ≠ i.id := fun e => hidn (by rw [← e]; exact hp)
  have hR : dR L i = if L.length = 4096 then (L,14) else (L ++ [i],0) := by
    unfold dR
    rw [if_neg (by rw [hok]; simp),if_neg hin,if_neg]
    rintro ⟨h1,h2⟩
    rcases hpr0 with e | e
    · exact h1 e
    · exact h2 e
  have h0 := ee i
  have hh := has_live H h m L G i.id t
  rw [dF hin] at hh
  have hok' := hok
  rw [okI_R,Bool.and_eq_true] at hok
  rw [hok.1] at h0
  have hpr := hok.2
  have hpo := t.ord_mem.2 hp
  have hidno : i.id ∉ t.ord := fun e => hidn (t.ord_mem.1 e)
  have hf := cE (bR L G) i.par t.ord 0
  rw [if_pos hpo] at hf
  have hget := ents_get (f := bR L G) hpo
  have hidG : i.id ∉ G := fun e => hin (t.gs _ e)
  have hep := ents_par (L := L) (G := G) t.ord_nodup hidno hpo
  have hen := ents_new (I := t.ord) (f := bR (L ++ [i]) G) (x := i.id)
  rw [nodeA_new t.g hidr hin hpid hidG] at hen
  have hf2 := cE (bR (L ++ [i]) G) i.id t.ord 0
  rw [if_neg hidno] at hf2
  have hel : (bP t.ord (bR L G)).length = L.length + 1 := by rw [bP,List.length_map,t.perm.length_eq,idsOf_length]
  have hi := t.hi
  have hm := t.hm
  have hne := t.hmne
  have hsmall := t.small
  have hput := fun r => put_pure (kids L i.par r) i.id (Nat.le_trans (cr L _ _) (by omega))
  have hks := fun r => cP L i i.par r
  have hsd := side_pure i.right
  have hkc0 := bU (kids L i.par false)
  have hkc1 := bU (kids L i.par true)
  have hnd : bl (L ++ [i]) G i.par = bl L G i.par := ndOf_snoc hpid
  have fin : L.length ≠ 4096 → IsT (H.set m (.map (bP (t.ord ++ [i.id]) (bR (L ++ [i]) G)))) h m (L ++ [i]) G := fun hl =>
    ⟨by rw [aP hne]; exact hi,⟨t.ord ++ [i.id],(t.perm.append_right _).trans (by simp [cH]),set_get⟩,t.g.snoc hok' hin hpr0,fun x hx => by rw [List.map_append]; exact List.mem_append_left _ (t.gs x hx),t.gn,by rw [List.length_append]; simp only [List.length_singleton]; omega⟩
  unfold bR eC at hep
  rw [hnd] at hep
  unfold AddR
  obtain ⟨⟨a,c⟩,⟨pa,pc⟩,ri,ru⟩ := i
  simp only [cA] at h0 hh hf hpr hget hen hf2 hep hput hks hsd hkc0 hkc1 ⊢
  simp only [hks,true_and] at hep
  generalize (L ++ [(⟨(a,c),(pa,pc),ri,ru⟩ : Ins)]) = L' at *
  generalize hE : bP t.ord (bR L G) = E at *
  generalize hE1 : bP t.ord (bR L' G) = E1 at *
  generalize hE2 : bP (t.ord ++ [(a,c)]) (bR L' G) = E2 at *
  generalize t.ord.idxOf (pa,pc) = ix at *
  clear hpo hidno
  have hpo : (pa = 0 ∧ pc = 0) ∨ pa ≠ 0 ∨ (pa = 0 ∧ pc ≠ 0) := by omega
  have hrr : (pa = 0 ∧ pc = 0) → ri = true := fun e => by obtain ⟨rfl,rfl⟩ := e; cases ri; (simp [bL] at hpr); rfl
  clear hpr hks hnd hpid hidn hidr hidG hin hpr0 hp
  obtain ⟨r0,hr0⟩ : ∃ r0 : Bool,r0 = ri := ⟨_,rfl⟩
  cases ri
  all_goals
    have hputF := hput false
    have hputT := hput true
    simp only [Bool.false_eq_true,Bool.true_eq_false,reduceCtorEq,if_false,if_true,reduceIte] at hep hsd
    clear hput
    have pl1 := bU (dq (kids L (pa,pc) false) (a,c))
    have pl2 := bU (dq (kids L (pa,pc) true) (a,c))
    generalize dq (kids L (pa,pc) false) (a,c) = PF at *
    generalize dq (kids L (pa,pc) true) (a,c) = PT at *
  all_goals
    refine ao (c := ⟨Tryz.prog,78,[(7,[0,0,0,0,0,0,0,0,0,0,2,2,0]),(12,[0,1,0,0,1,0,0,0,1,0,1,0,0,0,2]),(13,[0,0,0,1,0,1,1,2]),(14,[0,0,0,1,0,1,0,1,0,1,0,0,2]),(1000000,[3]),(4000013,[0,3]),(4000012,[0,3,5]),(4000010,[0,3,5,44]),(4000007,[0,3,5,6]),(4000003,[0,3,22])],[],[(7,(.op 0 0 (.op 1 0 (.op 2 0 (.op 4 0 (.op 5 0 (.or (.op 3 2 (.or (.op 6 2 (.op 7 0 (.op 8 0 (.op 9 0 (.op 10 2 (.op 11 2 (.op 12 0 .nil))))))) (.op 10 2 (.op 6 2 (.op 7 0 (.op 8 0 (.op 9 0 (.op 11 2 (.op 12 0 .nil))))))))) (.op 10 2 (.op 3 2 (.op 6 2 (.op 7 0 (.op 8 0 (.op 9 0 (.op 11 2 (.op 12 0 .nil)))))))))))))))]⟩) (rs := [ResultVar.tmp 4]) Tryz.mixed Tryz.func77 rfl rfl rfl (Nat.le_of_ble_eq_true rfl) (by kernel_rfl) ?_
    simp (disch := omega) only [↓aI,↓zP,aD,zD,aS,simprocAttr,Tryz.facts]
    intro k hk0 hk
    simp (disch := omega) only [↓aI,↓zP,aD,zD,aS,simprocAttr,Tryz.facts,aj hk]
    first | refine CallK.p (h0) ?_ | refine CallP.i (h0) ?_
    simp (disch := omega) only [↓aI,↓zP,aD,zD,aS,simprocAttr,Tryz.facts]
    rcases hpo with hpo | hpo | hpo
  · exact absurd (hrr hpo) (by simp)
  all_goals
    simp (disch := omega) only [↓aI,↓zP,aD,zD,aS,simprocAttr,Tryz.facts,zA,beq_self_eq_true]
    refine CallK.i hh ?_
    rintro v E' ⟨rfl,hE'⟩
    simp (disch := omega) only [↓aI,↓zP,aD,zD,aS,simprocAttr,Tryz.facts,hE']
    refine eI (fun σ F => ∃ b,F = H.set b (.cells (eC L G (pa,pc)) 107 6) ∧ H b = none ∧ σ 0 = .ptr h 0 ∧ σ 3 = .ip (cA ⟨(a,c),(pa,pc),r0,ru⟩) 0 ∧ σ 5 = .ptr b 0 ∧ σ 6 = .sc (.bool true)) ?_ ?_
    · simp only [cA]
      simp (disch := omega) only [↓aI,↓zP,aD,zD,aS,simprocAttr,Tryz.facts,hi,hm,hf,hE']
      refine ⟨⟨?_,?_⟩,?_⟩
      all_goals
        intro b hb0 hb
        have nb1 := bA hi hb
        have nb2 := bA hm hb
        try simp (disch := omega) only [↓aI,↓zP,aD,zD,aS,simprocAttr,Tryz.facts,hi,hm,hf,aP,ah]
        refine ⟨b,rfl,hb,?_⟩
        simp [hr0]
    · rintro σ F ⟨b,rfl,hb,s0,s3,s5,s6⟩
      simp only [cA,hr0] at s3
      have nb1 := bA hi hb
      have nb2 := bA hm hb
      by_cases h96 : L.length = 4096
      · rw [if_pos h96] at hR
        rw [hR]
        simp (disch := omega) only [↓aI,↓zP,aD,zD,aS,simprocAttr,Tryz.facts,s0,s3,s5,s6,hi,hm,aP,hel,zA]
        exact ⟨_,rfl,H,Sub.set_new hb,rfl,t,fun _ _ => rfl⟩
      · rw [if_neg h96] at hR
        rw [hR]
        simp (disch := omega) only [↓aI,↓zP,aD,zD,aS,simprocAttr,Tryz.facts,s0,s3,s5,s6,hi,hm,aP,hel,zA]
        repeat first
          | refine CallP.i hsd ?_
          | refine CallP.i hputF ?_
          | refine CallP.i hputT ?_
          | simp (disch := omega) only [↓aI,↓zP,aD,zD,aS,simprocAttr,Tryz.facts,s0,s3,s5,s6,hi,hm,aP,hel,zA,ah,hf,hget,plain_id,hep,hf2,hen]
        exact ⟨_,rfl,H.set m (.map E2),(Sub.set_new hb).mset,rfl,fin h96,fun x hx => aP hx⟩
theorem add_live (H : AH) (h m : Nat) (L : List Ins) (G : List EId) (i : Ins) (t : IsT H h m L G) : ACalls Tryz.prog 77 [.ptr h 0,.agg (cA i)] H (AddR H h m L G i) := by
  cases ok : okI i with
  | false => exact add_arg H h m L G i t ok
  | true =>
    by_cases h1 : i.id ∈ L.map (·.id)
    · exact add_there H h m L G i t ok h1
    · by_cases h2 : i.par ∈ cH L
      · exact add_par H h m L G i t ok h1 h2
      · exact add_none H h m L G i t ok h1 h2
end Go.Proofs.YtcgjlmopeblapaaGreat
end
section
set_option linter.unusedSimpArgs false
set_option linter.unusedVariables false
set_option maxRecDepth 8000
set_option maxHeartbeats 4000000
namespace Go.Proofs.YtcgjlmopeblapaaGreat
open Go Go.Abs Go.Proofs Go.Fug
theorem ndOf_drop {L : List Ins} {G : List EId} {x y : EId} (h : y ≠ x) : bl L (G ++ [x]) y = bl L G y := by
  unfold bl
  have : decide (y ∈ G ++ [x]) = decide (y ∈ G) := by simp [h]
  rw [this]
theorem ents_drop {L : List Ins} {G I : List EId} {x : EId} (hn : I.Nodup) (h : x ∈ I) :
    (bP I (bR L G)).set (I.idxOf x) (idV x,bR L (G ++ [x]) x) = bP I (bR L (G ++ [x])) :=
  map_set (g := fun y => (idV y,bR L G y)) (g' := fun y => (idV y,bR L (G ++ [x]) y)) I hn h fun y hy hne => by
    unfold bR eC
    rw [ndOf_drop hne]
def DropR (H : AH) (h m : Nat) (L : List Ins) (G : List EId) (x : EId) (v : AV) (H' : AH) : Prop :=
  v = .sc (.int .i64 (dropG L G x).2) ∧ IsT H' h m L (dropG L G x).1 ∧ ∀ y,y ≠ h → y ≠ m → H' y = H y
theorem drop_live (H : AH) (h m : Nat) (L : List Ins) (G : List EId) (x : EId) (t : IsT H h m L G) : ACalls Tryz.prog 75 [.ptr h 0,idV x] H (DropR H h m L G x) := by
  have hh := has_live H h m L G x t
  have hR : dropG L G x = if x ∉ L.map (·.id) then (G,13) else if x ∈ G then (G,12) else (G ++ [x],0) := rfl
  unfold DropR
  by_cases hin : x ∈ L.map (·.id)
  · rw [dT hin] at hh
    rw [if_neg (not_not_intro hin)] at hR
    have hxr : x ≠ bL := fun e => Good.root_no t.g (by rw [← e]; exact hin)
    have hids := t.ord_mem.2 ((eP hxr).2 hin)
    have hf := cE (bR L G) x t.ord 0
    rw [if_pos hids] at hf
    have hget := ents_get (f := bR L G) hids
    have hed := ents_drop (L := L) (G := G) t.ord_nodup hids
    have hgone : (bl L G x).gone = decide (x ∈ G) := rfl
    have hg2 : bl L (G ++ [x]) x = ⟨x,(bl L G x).rune,true⟩ := by unfold bl; simp
    have hi := t.hi
    have hm := t.hm
    have hne := t.hmne
    have hgl := t.gl
    have hsmall := t.small
    have fin : x ∉ G → IsT ((H.set m (.map (bP t.ord (bR L (G ++ [x]))))).set h (.cells [.mp m,.sc (.int .i64 ((G.length + 1 : Nat)))] 110 2)) h m L (G ++ [x]) := fun hno =>
      ⟨by rw [set_get,List.length_append]; rfl,⟨t.ord,t.perm,by rw [aP (fun e => hne e.symm),set_get]⟩,t.g,fun y hy => by
        rcases List.mem_append.1 hy with e | e
        · exact t.gs y e
        · rw [List.mem_singleton.1 e]; exact hin,by
        rw [List.nodup_append]
        exact ⟨t.gn,by simp,fun a ha b hb => by rw [List.mem_singleton.1 hb]; rintro rfl; exact hno ha⟩,hsmall⟩
    unfold bR eC at hed
    rw [hg2] at hed
    obtain ⟨a,c⟩ := x
    simp only [] at hed hf hget hgone
    generalize hE : bP t.ord (bR L G) = E at *
    have hE' : bP t.ord (fun x => bR L G x) = E := hE
    generalize hE2 : bP t.ord (bR L (G ++ [(a,c)])) = E2 at *
    have hed' : E.set (t.ord.idxOf (a,c)) (idV (a,c),.agg [.sc (.int .i64 a),.sc (.int .i64 c),.sc (.int .i32 (bl L G (a,c)).rune),.sc (.bool true),idsV (kids L (a,c) false),idsV (kids L (a,c) true)]) = E2 := by
      first | exact hed | (rw [← hE2]; exact hed)
    clear hed
    generalize t.ord.idxOf (a,c) = ix at *
    have hw : ((G.length : Int) + 1) = ((G.length + 1 : Nat) : Int) := by omega
    by_cases hd : (a,c) ∈ G
    all_goals
      first | rw [if_pos hd] at hR | rw [if_neg hd] at hR
      first | rw [dT hd] at hgone | rw [dF hd] at hgone
      rw [hR]
      refine ao (c := ⟨Tryz.prog,34,[(3,[0,0,0,0,0,0,2,2]),(7,[0,0,0,1,1,1,2]),(1000000,[3])],[],[(3,(.op 0 0 (.op 1 0 (.op 2 0 (.op 4 0 (.or (.op 3 2 (.or (.op 5 2 (.op 6 2 (.op 7 2 .nil))) (.op 6 2 (.op 5 2 (.op 7 2 .nil))))) (.op 6 2 (.op 3 2 (.op 5 2 (.op 7 2 .nil))))))))))]⟩) (rs := [ResultVar.tmp 4]) Tryz.mixed Tryz.func75 rfl rfl rfl (Nat.le_of_ble_eq_true rfl) (by kernel_rfl) ?_
      simp (disch := omega) only [↓aI,↓zP,aD,zD,aS,simprocAttr,Tryz.facts]
      intro k hk0 hk
      try simp (disch := omega) only [↓aI,↓zP,aD,zD,aS,simprocAttr,Tryz.facts,aj hk]
      refine CallK.i hh ?_
      rintro v E' ⟨rfl,hEE⟩
      simp (disch := omega) only [↓aI,↓zP,aD,zD,aS,simprocAttr,Tryz.facts,aj hk,hEE]
      refine eI (fun σ F => ∃ b,F = H.set b (.cells (eC L G (a,c)) 107 6) ∧ H b = none ∧ σ 0 = .ptr h 0 ∧ σ 3 = .ip [.sc (.int .i64 a),.sc (.int .i64 c)] 0 ∧ σ 5 = .ptr b 0) ?_ ?_
      · simp (disch := omega) only [↓aI,↓zP,aD,zD,aS,simprocAttr,Tryz.facts,hi,hm,hf,hEE,aj hk]
        refine ⟨⟨?_,?_⟩,?_⟩
        all_goals
          intro b hb0 hb
          have nb1 := bA hi hb
          have nb2 := bA hm hb
          try simp (disch := omega) only [↓aI,↓zP,aD,zD,aS,simprocAttr,Tryz.facts,hi,hm,hf,aP,ah]
          exact ⟨b,rfl,hb,rfl⟩
      · rintro σ F ⟨b,rfl,hb,s0,s3,s5⟩
        have nb1 := bA hi hb
        have nb2 := bA hm hb
        simp (disch := omega) only [↓aI,↓zP,aD,zD,aS,simprocAttr,Tryz.facts,s0,s3,s5,hi,hm,aP,hgone,hf,hget,plain_id,hed',ah,hw]
        first
          | exact ⟨_,rfl,H,Sub.set_new hb,rfl,t,fun _ _ _ => rfl⟩
          | exact ⟨_,rfl,_,(Sub.set_new hb).mset.mset,rfl,fin hd,fun y h1 h2 => by rw [aP h1,aP h2]⟩
  · rw [dF hin] at hh
    rw [if_pos hin] at hR
    rw [hR]
    obtain ⟨a,c⟩ := x
    refine ao (c := ⟨Tryz.prog,34,[(3,[0,0,0,0,0,0,2,2]),(7,[0,0,0,1,1,1,2]),(1000000,[3])],[],[(3,(.op 0 0 (.op 1 0 (.op 2 0 (.op 4 0 (.or (.op 3 2 (.or (.op 5 2 (.op 6 2 (.op 7 2 .nil))) (.op 6 2 (.op 5 2 (.op 7 2 .nil))))) (.op 6 2 (.op 3 2 (.op 5 2 (.op 7 2 .nil))))))))))]⟩) (rs := [ResultVar.tmp 4]) Tryz.mixed Tryz.func75 rfl rfl rfl (Nat.le_of_ble_eq_true rfl) (by kernel_rfl) ?_
    simp (disch := omega) only [↓aI,↓zP,aD,zD,aS,simprocAttr,Tryz.facts]
    intro k hk0 hk
    try simp (disch := omega) only [↓aI,↓zP,aD,zD,aS,simprocAttr,Tryz.facts,aj hk]
    refine CallK.i hh ?_
    rintro v E' ⟨rfl,hEE⟩
    simp (disch := omega) only [↓aI,↓zP,aD,zD,aS,simprocAttr,Tryz.facts,aj hk,hEE]
    exact ⟨_,rfl,H,Abs.Sub.refl _,rfl,t,fun _ _ _ => rfl⟩

theorem IsT.put {H : AH} {h m : Nat} {L : List Ins} {G : List EId} (t : IsT H h m L G) {b : Nat} {o : AObj} (h1 : ¬ h = b) (h2 : ¬ m = b) : IsT (H.set b o) h m L G :=
  ⟨by rw [aP h1]; exact t.hi,⟨t.ord,t.perm,by rw [aP h2]; exact t.hm⟩,t.g,t.gs,t.gn,t.small⟩
theorem IsT.mono {H H' : AH} {h m : Nat} {L : List Ins} {G : List EId} (t : IsT H h m L G) (hs : Abs.Sub H H') : IsT H' h m L G :=
  ⟨hs _ _ t.hi,⟨t.ord,t.perm,hs _ _ t.hm⟩,t.g,t.gs,t.gn,t.small⟩
end Go.Proofs.YtcgjlmopeblapaaGreat
end
section
namespace Go.Fug
structure St where
  id : EId
  side : Bool
  at_ : Nat
def fullA (L : List Ins) (G : List EId) (y : EId) : List Nd := all L G y false ++ [bl L G y] ++ all L G y true
def outS (L : List Ins) (G : List EId) (s : St) : List Nd :=
  ((kids L s.id s.side).drop s.at_).flatMap (fullA L G) ++ if s.side then [] else (if s.id = bL then [] else [bl L G s.id]) ++ all L G s.id true
def outW (L : List Ins) (G : List EId) (S : List St) : List Nd := S.flatMap (outS L G)
def eO (L : List Ins) (G : List EId) (s : St) : Nat :=
  4 * (((kids L s.id s.side).drop s.at_).flatMap (fullA L G)).length + (if s.side then 0 else 4 * (all L G s.id true).length + 2) + 1
def mesW (L : List Ins) (G : List EId) (S : List St) : Nat := (S.map (eO L G)).sum
def ixd : Nat → List Nd → List (Nat × Nd)
  | _,[] => []
  | i,n :: l => (i,n) :: ixd (i + 1) l
theorem ixd_length (i : Nat) (l : List Nd) : (ixd i l).length = l.length := by
  induction l generalizing i with
  | nil => rfl
  | cons n l ih => simp [ixd,ih]
theorem ixd_append (i : Nat) (l r : List Nd) : ixd i (l ++ r) = ixd i l ++ ixd (i + l.length) r := by
  induction l generalizing i with
  | nil => rfl
  | cons n l ih => simp [ixd,ih,Nat.add_assoc,Nat.add_comm 1]
theorem mesW_len (L : List Ins) (G : List EId) (S : List St) : S.length ≤ mesW L G S := by
  induction S with
  | nil => exact Nat.le_refl _
  | cons s S ih =>
    show S.length + 1 ≤ eO L G s + mesW L G S
    have : 1 ≤ eO L G s := by unfold eO; omega
    omega
theorem bo (L : List Ins) (G : List EId) (s : St) (S : List St) : mesW L G (s :: S) = eO L G s + mesW L G S := rfl
theorem cb (L : List Ins) (G : List EId) (s : St) (S : List St) : outW L G (s :: S) = outS L G s ++ outW L G S := rfl
section
variable {L : List Ins} {G : List EId}
theorem Good.all_full (g : Good L) (x : EId) (r : Bool) : (kids L x r).flatMap (fullA L G) = all L G x r := (g.all_eq x r).symm
theorem step_down (g : Good L) {s : St} (h : s.at_ < (kids L s.id s.side).length) :
    outS L G s = outS L G ⟨(kids L s.id s.side)[s.at_],false,0⟩ ++ outS L G ⟨s.id,s.side,s.at_ + 1⟩ ∧ eO L G ⟨(kids L s.id s.side)[s.at_],false,0⟩ + eO L G ⟨s.id,s.side,s.at_ + 1⟩ < eO L G s := by
  have hy : (kids L s.id s.side)[s.at_] ≠ bL := by
    obtain ⟨i,hi,e,-⟩ := mem_kids.1 (List.getElem_mem h)
    rw [← e]
    exact okI_ne (g.ok i hi)
  have hd := List.drop_eq_getElem_cons h
  generalize (kids L s.id s.side)[s.at_] = y at *
  have h1 : outS L G ⟨y,false,0⟩ = fullA L G y := by
    simp only [outS,List.drop_zero,g.all_full,Bool.false_eq_true,if_false,if_neg hy,fullA,List.append_assoc]
  refine ⟨?_,?_⟩
  · rw [h1]
    simp only [outS,hd,List.flatMap_cons,List.append_assoc]
  · simp only [eO,hd,List.flatMap_cons,List.length_append,List.drop_zero,g.all_full,Bool.false_eq_true,if_false]
    simp only [fullA,List.length_append,List.length_singleton]
    omega
theorem step_over (g : Good L) {s : St} (h : ¬ s.at_ < (kids L s.id s.side).length) (hs : s.side = false) :
    outS L G s = (if s.id = bL then [] else [bl L G s.id]) ++ outS L G ⟨s.id,true,0⟩ ∧ eO L G ⟨s.id,true,0⟩ < eO L G s := by
  obtain ⟨x,sd,a⟩ := s
  simp only [] at hs h ⊢
  subst hs
  have hd : (kids L x false).drop a = [] := List.drop_eq_nil_of_le (by omega)
  refine ⟨?_,?_⟩
  · simp only [outS,hd,List.flatMap_nil,List.nil_append,Bool.false_eq_true,if_false,List.drop_zero,if_true,List.append_nil,g.all_full]
  · simp only [eO,hd,List.flatMap_nil,List.length_nil,Bool.false_eq_true,if_false,List.drop_zero,if_true,g.all_full]
    omega
theorem step_up {s : St} (h : ¬ s.at_ < (kids L s.id s.side).length) (hs : s.side = true) : outS L G s = [] ∧ 0 < eO L G s := by
  obtain ⟨x,sd,a⟩ := s
  simp only [] at hs h ⊢
  subst hs
  have hd : (kids L x true).drop a = [] := List.drop_eq_nil_of_le (by omega)
  refine ⟨?_,by unfold eO; omega⟩
  simp only [outS,hd,List.flatMap_nil,if_true,List.append_nil]
theorem root_left (g : Good L) : kids L bL false = [] := by
  cases e : kids L bL false with
  | nil => rfl
  | cons y l =>
    obtain ⟨i,hi,-,hp,hr⟩ := mem_kids.1 (show y ∈ kids L bL false by rw [e]; simp)
    have := g.ok i hi
    unfold okI at this
    simp [hp,hr] at this
theorem out_start (g : Good L) : outW L G [⟨bL,false,0⟩] = bF L G := by
  simp only [outW,List.flatMap_cons,List.flatMap_nil,outS,root_left g,List.drop_nil,if_true,List.nil_append,Bool.false_eq_true,if_false,List.append_nil]
  rfl
theorem mes_start (g : Good L) : mesW L G [⟨bL,false,0⟩] = 4 * (bF L G).length + 3 := by
  simp only [mesW,List.map_cons,List.map_nil,List.sum_cons,List.sum_nil,eO,root_left g,List.drop_nil,List.flatMap_nil,List.length_nil,Bool.false_eq_true,if_false]
  show 4 * 0 + (4 * (bF L G).length + 2) + 1 + 0 = _
  omega
end
end Go.Fug
end
section
set_option linter.unusedSimpArgs false
set_option linter.unusedVariables false
set_option maxRecDepth 8000
set_option maxHeartbeats 4000000
namespace Go.Proofs.YtcgjlmopeblapaaGreat
open Go Go.Abs Go.Proofs Go.Fug
abbrev sideI (b : Bool) : Int := if b then 1 else 0
def stC (s : St) : List AV := [.sc (.int .i64 s.id.1),.sc (.int .i64 s.id.2),.sc (.int .i64 (sideI s.side)),.sc (.int .i64 (s.at_ : Nat))]
def stsC (l : List St) : List AV := l.flatMap stC
theorem stsC_length (l : List St) : (stsC l).length = l.length * 4 := by
  induction l with
  | nil => rfl
  | cons t r ih => simp only [stsC,List.flatMap_cons,List.length_append,List.length_cons] at *; rw [ih]; simp [stC]; omega
theorem stsC_snoc (l : List St) (s : St) : stsC (l ++ [s]) = stsC l ++ stC s := by simp [stsC]
def WayC (cs : List AV) (S : List St) : Prop := S.length * 4 ≤ cs.length ∧ cs.take (S.length * 4) = stsC S.reverse
theorem WayC.split {cs : List AV} {s : St} {S : List St} (w : WayC cs (s :: S)) : ∃ r,cs = stsC S.reverse ++ stC s ++ r := by
  obtain ⟨h1,h2⟩ := w
  refine ⟨cs.drop ((s :: S).length * 4),?_⟩
  rw [List.reverse_cons,stsC_snoc] at h2
  rw [← h2,List.take_append_drop]
theorem WayC.mk' {s : St} {S : List St} {r : List AV} : WayC (stsC S.reverse ++ stC s ++ r) (s :: S) := by
  have hl : (stsC S.reverse ++ stC s).length = (s :: S).length * 4 := by simp [stsC_length,stC]; omega
  refine ⟨by rw [List.length_append,hl]; omega,?_⟩
  rw [List.take_append_of_le_length (by omega),List.take_of_length_le (by omega),List.reverse_cons,stsC_snoc]
def encN (x : Nat × Nd) : List AV := [.sc (.int .i64 (x.1 : Nat)),.agg (ndC x.2)]

theorem put_mid {A B R V : List AV} {k : Nat} (hB : B.length = V.length) (hk : k = A.length) : bG (A ++ B ++ R) k V = A ++ V ++ R := by
  subst hk
  have h1 : (A ++ B ++ R).take A.length = A := by rw [List.append_assoc,List.take_left]
  have h2 : (A ++ B ++ R).drop (A.length + V.length) = R := List.drop_left' (by simp [hB])
  rw [ah,h1,h2,List.append_assoc]
theorem all_iterP (h m : Nat) (L : List Ins) (G : List EId) (g : Fug.Good L) (hL : L.length ≤ 4096) : IterP Tryz.prog 86 [.ip [.ptr h 0] 0] encN (fun Hc => IsT Hc h m L G) (fun xs => xs = ixd 0 (bF L G)) (fun pre => ∃ n,0 < n ∧ n ≤ (bF L G).length ∧ pre = (ixd 0 (bF L G)).take n) (fun pre x => ∃ r,pre ++ x :: r = ixd 0 (bF L G)) := by
  intro y J Jx H hRes hy hJ0
  have hnl := nodes_le G g.nd (by omega)
  have t0 := hRes _ _ hJ0
  refine ao (c := ⟨Tryz.prog,87,[(4,[0,0,0,0,0,0,0,2,2]),(5,[0,1,0,1,0,0,1,1,0]),(7,[0,0,1,0,0,1,0,1,0,1,0,0,2,0]),(1000003,[5]),(1000004,[6]),(4000013,[0,1,3,4]),(4000012,[0,1,3,4]),(4000010,[0,1,3,4,5,68]),(4000007,[0,1,3,4]),(4000006,[0,1,3,4,5,6]),(4000005,[0,1,3,4,5,6,32]),(4000004,[0,1,3,4,5,6]),(4000003,[0,1,3,4,5])],[1000010,1000055],[(4,(.op 0 0 (.op 1 0 (.op 2 0 (.op 4 0 (.op 5 0 (.or (.op 3 2 (.or (.op 6 2 (.op 7 2 (.op 8 2 .nil))) (.op 7 2 (.op 6 2 (.op 8 2 .nil))))) (.op 7 2 (.op 3 2 (.op 6 2 (.op 8 2 .nil)))))))))))]⟩) (rs := []) Tryz.mixed Tryz.func86 rfl rfl rfl (Nat.le_of_ble_eq_true rfl) (by kernel_rfl) ?_
  simp (disch := omega) only [↓aI,↓zP,aD,zD,aS,simprocAttr,Tryz.facts]
  refine scope_t Tryz.mixed 0 (by kernel_rfl) (rest := _) rfl (by kernel_rfl) (fun mm σ H' => ∃ (S : List St) (kw : Nat) (cs : List AV) (pre : List (Nat × Nd)) (Hc : AH),mm = mesW L G S ∧ mm ≤ 4 * (bF L G).length + 3 ∧ S ≠ [] ∧ (∀ s ∈ S,s.id ∈ cH L) ∧ J pre Hc ∧ Abs.Sub Hc H' ∧ Hc kw = none ∧ kw ≠ 0 ∧
    H' kw = some (.cells cs 140 4) ∧ WayC cs S ∧ pre ++ ixd pre.length (outW L G S) = ixd 0 (bF L G) ∧
    σ 0 = y ∧ σ 1 = .ip [.ptr h 0] 0 ∧ σ 3 = .own kw 0 S.length ∧ σ 4 = .sc (.int .i64 (pre.length : Nat))) ?_ ?_
  · have hi := t0.hi
    have hm := t0.hm
    have hf := cE (bR L G) bL t0.ord 0
    rw [if_pos (t0.ord_mem.2 (by simp [cH]))] at hf
    have hk := root_left g
    generalize hE : bP t0.ord (bR L G) = E at *
    simp only [bR,eC,hk,bL] at hf
    have hz : ((1 : Int) - 1).toNat = 0 := rfl
    have hz2 : (1 : Int) - 1 = 0 := rfl
    simp (disch := omega) only [↓aI,↓zP,aD,zD,aS,simprocAttr,Tryz.facts,hi,hm,zA,hz,hz2,Nat.zero_mul,Nat.le_refl,if_true]
    intro kw hkw0 hkw
    have nw1 := bA hi hkw
    have nw2 := bA hm hkw
    try simp (disch := omega) only [↓aI,↓zP,aD,zD,aS,simprocAttr,Tryz.facts,hi,hm,zA,hz,hz2,Nat.zero_mul,Nat.le_refl,if_true]
    intro b hb0 hb
    have hbH := am hb
    simp (disch := omega) only [↓aI,↓zP,aD,zD,aS,simprocAttr,Tryz.facts,hi,hm,zA,aj hb,ah]
    refine eI (fun σ F => ∃ b,F = (H.set kw (.cells [.sc (.int .i64 0),.sc (.int .i64 0),.sc (.int .i64 0),.sc (.int .i64 0)] 140 4)).set b (.cells [.sc (.int .i64 0),.sc (.int .i64 0),.sc (.int .i32 (bl L G (0,0)).rune),.sc (.bool (bl L G (0,0)).gone),idsV [],idsV (kids L (0,0) true)] 107 6) ∧ (H.set kw (.cells [.sc (.int .i64 0),.sc (.int .i64 0),.sc (.int .i64 0),.sc (.int .i64 0)] 140 4)) b = none ∧ σ 0 = y ∧ σ 1 = .ip [.ptr h 0] 0 ∧ σ 3 = .own kw 0 1 ∧ σ 4 = .sc (.int .i64 0) ∧ σ 5 = .ip [.sc (.int .i64 0),.sc (.int .i64 0),.sc (.int .i64 0),.sc (.int .i64 0)] 0 ∧ σ 6 = .ptr b 0) ?_ ?_
    · simp (disch := omega) only [↓aI,↓zP,aD,zD,aS,simprocAttr,Tryz.facts,hi,hm,hf,aP,aj hb]
      refine ⟨⟨?_,?_⟩,?_⟩
      all_goals
        intro b2 hb20 hb2
        have hb2H := am hb2
        have nb1 := bA hi hb2H
        have nb2 := bA hm hb2H
        try simp (disch := omega) only [↓aI,↓zP,aD,zD,aS,simprocAttr,Tryz.facts,hi,hm,hf,aP,ah,aj hb]
        exact ⟨b2,rfl,hb2,rfl⟩
    · rintro σ F ⟨b2,rfl,hb2,s0,s1,s3,s4,s5,s6⟩
      simp (disch := omega) only [↓aI,↓zP,aD,zD,aS,simprocAttr,Tryz.facts,s0,s1,s3,s4,s5,s6,aj hb2,zA,beq_self_eq_true,hz,hz2,Nat.zero_mul,Nat.le_refl,ah,if_true]
      have hov := step_over (L := L) (G := G) g (s := ⟨bL,false,0⟩) (by simp [hk]) rfl
      have ho0 := out_start (L := L) (G := G) g
      have hm0 := mes_start (L := L) (G := G) g
      rw [bo] at hm0
      rw [cb,hov.1] at ho0
      refine ⟨_,[⟨bL,true,0⟩],kw,_,[],H,rfl,?_,by simp,by simp [cH],hJ0,Sub.set_new hkw,hkw,hkw0,set_get,⟨by simp,by simp [stsC,stC,bL]⟩,?_,?_⟩
      · rw [bo]
        have h2 : eO L G ⟨bL,true,0⟩ < eO L G ⟨bL,false,0⟩ := hov.2
        omega
      · rw [cb]
        simp only [if_true,List.nil_append] at ho0
        simp only [List.nil_append,List.length_nil]
        rw [ho0]
      · first | rfl | simp
  · rintro mm σ H' ⟨S,kw,cs,pre,Hc,hmm,hmb,hS,hids,hJ,hsub,hkc,hk0,hkw,hw,hout,s0,s1,s3,s4⟩
    obtain ⟨⟨⟨x1,x2⟩,sd,a⟩,S',rfl⟩ : ∃ s S',S = s :: S' := by
      cases S with
      | nil => exact absurd rfl hS
      | cons s S' => exact ⟨s,S',rfl⟩
    obtain ⟨r,hcs⟩ := hw.split
    have t := hRes _ _ hJ
    have hi := hsub _ _ t.hi
    have hm := hsub _ _ t.hm
    have nk1 := bA t.hi hkc
    have nk2 := bA t.hm hkc
    have hx : (x1,x2) ∈ cH L := hids ⟨(x1,x2),sd,a⟩ (by simp)
    have hf := cE (bR L G) (x1,x2) t.ord 0
    rw [if_pos (t.ord_mem.2 hx)] at hf
    have hlen := mesW_len L G (⟨(x1,x2),sd,a⟩ :: S')
    have hSl : S'.length + 1 ≤ 4 * (bF L G).length + 3 := by rw [← hmm] at hlen; simp only [List.length_cons] at hlen; omega
    have hz : (((S'.length + 1 : Nat) : Int) - 1).toNat = S'.length := by omega
    have hz2 : ((S'.length + 1 : Nat) : Int) - 1 = (S'.length : Int) := by omega
    have hsl := stsC_length S'.reverse
    rw [List.length_reverse] at hsl
    have hld : (cs.drop (S'.length * 4)).take 4 = [.sc (.int .i64 x1),.sc (.int .i64 x2),.sc (.int .i64 (sideI sd)),.sc (.int .i64 (a : Nat))] := by
      rw [hcs,List.append_assoc,← hsl,List.drop_left]; rfl
    have hcl : S'.length * 4 + 4 ≤ cs.length := by rw [hcs]; simp only [List.length_append,hsl,stC,List.length_cons]; omega
    have hput : ∀ (s : St),bG cs (S'.length * 4) (stC s) = stsC S'.reverse ++ stC s ++ r := fun s => by
      rw [hcs]; exact put_mid (by simp [stC]) hsl.symm
    have hput1 : ∀ v : AV,bG cs (S'.length * 4 + 3) [v] = stsC S'.reverse ++ [.sc (.int .i64 x1),.sc (.int .i64 x2),.sc (.int .i64 (sideI sd)),v] ++ r := fun v => by
      have e : cs = (stsC S'.reverse ++ [.sc (.int .i64 x1),.sc (.int .i64 x2),.sc (.int .i64 (sideI sd))]) ++ [.sc (.int .i64 (a : Nat))] ++ r := by rw [hcs]; simp [stC]
      rw [e,put_mid (B := [.sc (.int .i64 (a : Nat))]) (V := [v]) rfl (by simp [hsl])]
      simp
    have hz3 : S'.length + 1 - 1 = S'.length := by omega
    have hg3 : cs[S'.length * 4 + 3]? = some (.sc (.int .i64 (a : Nat))) := by
      have e : ((cs.drop (S'.length * 4)).take 4)[3]? = some (.sc (.int .i64 (a : Nat))) := by rw [hld]; rfl
      simpa [List.getElem?_take,List.getElem?_drop] using e
    have hcl3 : S'.length * 4 + 3 < cs.length := by omega
    have htk : ∀ q : List AV,q.length = 4 → (stsC S'.reverse ++ q ++ r).take ((S'.length + 1) * 4) = stsC S'.reverse ++ q := fun q hq => List.take_left' (by rw [List.length_append,hsl,hq]; omega)
    have htl : ∀ q : List AV,q.length = 4 → (S'.length + 1) * 4 ≤ (stsC S'.reverse ++ q ++ r).length := fun q hq => by simp only [List.length_append,hsl,hq]; omega
    have hout1 : pre.length + (outW L G (⟨(x1,x2),sd,a⟩ :: S')).length = (bF L G).length := by
      have := congrArg List.length hout
      rwa [List.length_append,ixd_length,ixd_length] at this
    have hw' : S' ≠ [] → WayC cs S' := fun _ => by
      refine ⟨by omega,?_⟩
      rw [hcs,List.append_assoc,← hsl,List.take_left]
    have hkl0 := cr L (x1,x2) sd
    have hKi := bU (kids L (x1,x2) sd)
    have hdown := fun h => step_down (L := L) (G := G) g (s := ⟨(x1,x2),sd,a⟩) h
    have hover := fun h => step_over (L := L) (G := G) g (s := ⟨(x1,x2),sd,a⟩) h
    have hup := fun h => step_up (L := L) (G := G) (s := ⟨(x1,x2),sd,a⟩) h
    have hkid : ∀ y ∈ kids L (x1,x2) sd,y ∈ cH L := fun y hy => by
      obtain ⟨i,hi,e,-⟩ := mem_kids.1 hy
      exact List.mem_cons_of_mem _ (List.mem_map.2 ⟨i,hi,e⟩)
    simp only [List.length_cons] at s3
    rw [cb] at hout hout1
    rw [bo] at hmm
    generalize hE : bP t.ord (bR L G) = E at *
    cases sd
    · -- the left side
      simp only [sideI,Bool.false_eq_true,if_false,if_true] at hld hput1
      obtain ⟨K0,hK0⟩ : ∃ K,K = kids L (x1,x2) false := ⟨_,rfl⟩
      obtain ⟨K1,hK1⟩ : ∃ K,K = kids L (x1,x2) true := ⟨_,rfl⟩
      simp only [] at hdown hover hup
      simp only [← hK0] at hkl0 hKi hkid hdown hover hup
      simp (disch := omega) only [↓aI,↓zP,aD,zD,aS,simprocAttr,Tryz.facts,s0,s1,s3,s4,hz,hz2,hz3,zA,hkw,hld,hcl]
      intro b hb0 hb
      simp (disch := omega) only [↓aI,↓zP,aD,zD,aS,simprocAttr,Tryz.facts,s0,s1,s3,s4,hz,hz2,hz3,zA,hkw,hld,hcl,aj hb,ah]
      refine eI (fun σ F => ∃ b,F = H'.set b (.cells (eC L G (x1,x2)) 107 6) ∧ H' b = none ∧ σ 0 = y ∧ σ 1 = .ip [.ptr h 0] 0 ∧ σ 3 = .own kw 0 (S'.length + 1) ∧ σ 4 = .sc (.int .i64 (pre.length : Nat)) ∧ (∃ c5,c5 = (cs.drop (S'.length * 4)).take 4 ∧ σ 5 = .ip c5 0) ∧ σ 6 = .ptr b 0) ?_ ?_
      · simp (disch := omega) only [↓aI,↓zP,aD,zD,aS,simprocAttr,Tryz.facts,s0,s1,s3,s4,hz,hz2,hz3,zA,hi,hm,hf,aj hb]
        refine ⟨⟨?_,?_⟩,?_⟩
        all_goals
          intro b2 hb20 hb2
          have nb1 := bA hi hb2
          have nb2 := bA hm hb2
          try simp (disch := omega) only [↓aI,↓zP,aD,zD,aS,simprocAttr,Tryz.facts,s0,s1,s3,s4,hz,hz2,hz3,zA,hi,hm,hf,aP,ah,aj hb]
          refine ⟨b2,rfl,hb2,?_⟩
          exact ⟨⟨_,hld.symm,rfl⟩,rfl⟩
      · rintro σ F ⟨b2,rfl,hb2,s0,s1,s3,s4,⟨c5,hc5,s5⟩,s6⟩
        rw [hld] at hc5
        subst hc5
        have hw1 : (((a : Nat) : Int) + 1) = ((a + 1 : Nat) : Int) := by omega
        by_cases hlt : a < K0.length
        · have hid := eR hlt
          have hle2 : a * 2 + 2 ≤ K0.length * 2 := by omega
          obtain ⟨hd1,hd2⟩ := hdown hlt
          have hkid' := hkid _ (List.getElem_mem hlt)
          generalize K0[a] = z at *
          obtain ⟨z1,z2⟩ := z
          have hq := htk [.sc (.int .i64 x1),.sc (.int .i64 x2),.sc (.int .i64 0),.sc (.int .i64 ((a + 1 : Nat)))] rfl
          have hq2 := htl [.sc (.int .i64 x1),.sc (.int .i64 x2),.sc (.int .i64 0),.sc (.int .i64 ((a + 1 : Nat)))] rfl
          simp (disch := omega) only [↓aI,↓zP,aD,zD,aS,simprocAttr,Tryz.facts,s0,s1,s3,s4,hz,hz2,hz3,zA,s5,s6,aj hb2,hkw,hcl,hcl3,hg3,hput1,hw1,hid,hle2,hKi,← hK0,← hK1,hq,hq2]
          intro k' hk'
          have hk'0 : k' ≠ 0 := by
            rcases hk' with rfl | ⟨h1,-⟩
            · exact hk0
            · exact h1
          have hk'c : Hc k' = none := by
            rcases hk' with rfl | ⟨-,h2⟩
            · exact hkc
            · exact hsub.free (am h2)
          refine ⟨mesW L G (⟨(z1,z2),false,0⟩ :: ⟨(x1,x2),false,a + 1⟩ :: S'),?_,_,k',_,pre,Hc,rfl,?_,by simp,?_,hJ,?_,hk'c,hk'0,set_get,?_,?_,?_⟩
          · rw [bo,bo]; omega
          · rw [bo,bo]; omega
          · intro s hs
            simp only [List.mem_cons] at hs
            rcases hs with rfl | rfl | hs
            · exact hkid'
            · exact hx
            · exact hids s (by simp [hs])
          · first | exact ((hsub.set_free hkc).kill_free hkc).set_free hk'c | exact (hsub.kill_free hkc).set_free hk'c
          · have := WayC.mk' (s := ⟨(z1,z2),false,0⟩) (S := ⟨(x1,x2),false,a + 1⟩ :: S') (r := [])
            rw [List.reverse_cons,stsC_snoc,List.append_nil] at this
            exact this
          · rw [cb,cb,← List.append_assoc,← hd1]; exact hout
          · first | rfl | simp
        · have ho := hover hlt trivial
          have hput' : bG cs (S'.length * 4) [.sc (.int .i64 x1),.sc (.int .i64 x2),.sc (.int .i64 1),.sc (.int .i64 0)] = stsC S'.reverse ++ stC ⟨(x1,x2),true,0⟩ ++ r := hput ⟨(x1,x2),true,0⟩
          have hm1 : eO L G ⟨(x1,x2),true,0⟩ < eO L G ⟨(x1,x2),false,a⟩ := ho.2
          by_cases hroot : x1 = 0 ∧ x2 = 0
          · simp (disch := omega) only [↓aI,↓zP,aD,zD,aS,simprocAttr,Tryz.facts,s0,s1,s3,s4,hz,hz2,hz3,zA,s5,s6,aj hb2,hkw,hcl,hput',← hK0,← hK1]
            have ho1 := ho.1
            rw [if_pos (Prod.ext hroot.1 hroot.2)] at ho1
            refine ⟨mesW L G (⟨(x1,x2),true,0⟩ :: S'),?_,_,kw,_,pre,Hc,rfl,?_,by simp,?_,hJ,hsub.set_free hkc,hkc,hk0,set_get,WayC.mk',?_,?_⟩
            · rw [bo]; omega
            · rw [bo]; omega
            · intro s hs
              rcases List.mem_cons.1 hs with rfl | hs
              · exact hx
              · exact hids s (by simp [hs])
            · rw [cb]
              rw [List.nil_append] at ho1
              rw [← ho1]; exact hout
            · first | rfl | simp
          · have hnr : (x1,x2) ≠ bL := fun e => hroot ⟨congrArg Prod.fst e,congrArg Prod.snd e⟩
            have hbf : (x1 == 0 && x2 == 0) = false := by
              rw [Bool.eq_false_iff]; intro h; simp only [Bool.and_eq_true,beq_iff_eq] at h; exact hroot h
            have ho1 : outS L G ⟨(x1,x2),false,a⟩ = [bl L G (x1,x2)] ++ outS L G ⟨(x1,x2),true,0⟩ := by
              have := ho.1
              rwa [if_neg hnr] at this
            have hpl : pre.length < (bF L G).length := by
              rw [ho1] at hout1
              simp only [List.length_append,List.length_singleton] at hout1
              omega
            rw [ho1,List.append_assoc,ixd_append] at hout
            simp only [ixd,List.length_singleton] at hout
            simp (disch := omega) only [↓aI,↓zP,aD,zD,aS,simprocAttr,Tryz.facts,s0,s1,s3,s4,hz,hz2,hz3,dT,dF,hbf,s5,s6,aj hb2,hkw,hcl,hput',← hK0,← hK1]
            refine CallX.v (hy pre (pre.length,bl L G (x1,x2)) Hc H' hJ hsub ⟨_,hout⟩) ?_
            rintro v H2 ⟨Hc2,⟨fs1,fs2⟩,hv⟩
            obtain ⟨hfk,hfc⟩ := fs2 kw _ hkw hkc
            have hw2 : (((pre.length : Nat) : Int) + 1) = ((pre.length + 1 : Nat) : Int) := by omega
            rcases hv with ⟨rfl,hJ2⟩ | ⟨rfl,hJx⟩
            · simp (disch := omega) only [↓aI,↓zP,aD,zD,aS,simprocAttr,Tryz.facts,s0,s1,s3,s4,hz,hz2,hz3,dT,dF,s5,s6,hfk,hcl,hput',hw2]
              refine ⟨mesW L G (⟨(x1,x2),true,0⟩ :: S'),?_,_,kw,_,pre ++ [(pre.length,bl L G (x1,x2))],Hc2,rfl,?_,by simp,?_,hJ2,fs1.set_free hfc,hfc,hk0,set_get,WayC.mk',?_,?_⟩
              · rw [bo]; omega
              · rw [bo]; omega
              · intro s hs
                rcases List.mem_cons.1 hs with rfl | hs
                · exact hx
                · exact hids s (by simp [hs])
              · rw [cb,List.length_append,List.append_assoc]; exact hout
              · first | rfl | simp
            · simp (disch := omega) only [↓aI,↓zP,aD,zD,aS,simprocAttr,Tryz.facts,s0,s1,s3,s4]
              refine ⟨_,rfl,Hc2,fs1,.inr ⟨pre ++ [(pre.length,bl L G (x1,x2))],⟨pre.length + 1,by omega,by omega,?_⟩,hJx⟩⟩
              rw [← hout]
              rw [← List.append_assoc,List.take_left' (by simp)]
    · -- the right side
      simp only [sideI,Bool.false_eq_true,if_false,if_true] at hld hput1
      obtain ⟨K0,hK0⟩ : ∃ K,K = kids L (x1,x2) false := ⟨_,rfl⟩
      obtain ⟨K1,hK1⟩ : ∃ K,K = kids L (x1,x2) true := ⟨_,rfl⟩
      simp only [] at hdown hover hup
      simp only [← hK1] at hkl0 hKi hkid hdown hover hup
      simp (disch := omega) only [↓aI,↓zP,aD,zD,aS,simprocAttr,Tryz.facts,s0,s1,s3,s4,hz,hz2,hz3,zA,hkw,hld,hcl]
      intro b hb0 hb
      simp (disch := omega) only [↓aI,↓zP,aD,zD,aS,simprocAttr,Tryz.facts,s0,s1,s3,s4,hz,hz2,hz3,zA,hkw,hld,hcl,aj hb,ah]
      refine eI (fun σ F => ∃ b,F = H'.set b (.cells (eC L G (x1,x2)) 107 6) ∧ H' b = none ∧ σ 0 = y ∧ σ 1 = .ip [.ptr h 0] 0 ∧ σ 3 = .own kw 0 (S'.length + 1) ∧ σ 4 = .sc (.int .i64 (pre.length : Nat)) ∧ (∃ c5,c5 = (cs.drop (S'.length * 4)).take 4 ∧ σ 5 = .ip c5 0) ∧ σ 6 = .ptr b 0) ?_ ?_
      · simp (disch := omega) only [↓aI,↓zP,aD,zD,aS,simprocAttr,Tryz.facts,s0,s1,s3,s4,hz,hz2,hz3,zA,hi,hm,hf,aj hb]
        refine ⟨⟨?_,?_⟩,?_⟩
        all_goals
          intro b2 hb20 hb2
          have nb1 := bA hi hb2
          have nb2 := bA hm hb2
          try simp (disch := omega) only [↓aI,↓zP,aD,zD,aS,simprocAttr,Tryz.facts,s0,s1,s3,s4,hz,hz2,hz3,zA,hi,hm,hf,aP,ah,aj hb]
          refine ⟨b2,rfl,hb2,?_⟩
          exact ⟨⟨_,hld.symm,rfl⟩,rfl⟩
      · rintro σ F ⟨b2,rfl,hb2,s0,s1,s3,s4,⟨c5,hc5,s5⟩,s6⟩
        rw [hld] at hc5
        subst hc5
        have hw1 : (((a : Nat) : Int) + 1) = ((a + 1 : Nat) : Int) := by omega
        by_cases hlt : a < K1.length
        · have hid := eR hlt
          have hle2 : a * 2 + 2 ≤ K1.length * 2 := by omega
          obtain ⟨hd1,hd2⟩ := hdown hlt
          have hkid' := hkid _ (List.getElem_mem hlt)
          generalize K1[a] = z at *
          obtain ⟨z1,z2⟩ := z
          have hq := htk [.sc (.int .i64 x1),.sc (.int .i64 x2),.sc (.int .i64 1),.sc (.int .i64 ((a + 1 : Nat)))] rfl
          have hq2 := htl [.sc (.int .i64 x1),.sc (.int .i64 x2),.sc (.int .i64 1),.sc (.int .i64 ((a + 1 : Nat)))] rfl
          simp (disch := omega) only [↓aI,↓zP,aD,zD,aS,simprocAttr,Tryz.facts,s0,s1,s3,s4,hz,hz2,hz3,zA,s5,s6,aj hb2,hkw,hcl,hcl3,hg3,hput1,hw1,hid,hle2,hKi,← hK0,← hK1,hq,hq2]
          intro k' hk'
          have hk'0 : k' ≠ 0 := by
            rcases hk' with rfl | ⟨h1,-⟩
            · exact hk0
            · exact h1
          have hk'c : Hc k' = none := by
            rcases hk' with rfl | ⟨-,h2⟩
            · exact hkc
            · exact hsub.free (am h2)
          refine ⟨mesW L G (⟨(z1,z2),false,0⟩ :: ⟨(x1,x2),true,a + 1⟩ :: S'),?_,_,k',_,pre,Hc,rfl,?_,by simp,?_,hJ,?_,hk'c,hk'0,set_get,?_,?_,?_⟩
          · rw [bo,bo]; omega
          · rw [bo,bo]; omega
          · intro s hs
            simp only [List.mem_cons] at hs
            rcases hs with rfl | rfl | hs
            · exact hkid'
            · exact hx
            · exact hids s (by simp [hs])
          · first | exact ((hsub.set_free hkc).kill_free hkc).set_free hk'c | exact (hsub.kill_free hkc).set_free hk'c
          · have := WayC.mk' (s := ⟨(z1,z2),false,0⟩) (S := ⟨(x1,x2),true,a + 1⟩ :: S') (r := [])
            rw [List.reverse_cons,stsC_snoc,List.append_nil] at this
            exact this
          · rw [cb,cb,← List.append_assoc,← hd1]; exact hout
          · first | rfl | simp
        · have hu := hup hlt trivial
          have hu1 : outS L G ⟨(x1,x2),true,a⟩ = [] := hu.1
          have hu2 : 0 < eO L G ⟨(x1,x2),true,a⟩ := hu.2
          rw [hu1,List.nil_append] at hout
          by_cases hS0 : S' = []
          · subst hS0
            simp (disch := omega) only [↓aI,↓zP,aD,zD,aS,simprocAttr,Tryz.facts,s0,s1,s3,s4,hz,hz2,hz3,zA,s5,s6,aj hb2,hkw,hcl,← hK0,← hK1]
            refine ⟨_,rfl,Hc,hsub,.inl ⟨pre,?_,hJ⟩⟩
            simpa [outW,ixd] using hout
          · have hpos : 0 < S'.length := List.length_pos_iff.2 hS0
            simp (disch := omega) only [↓aI,↓zP,aD,zD,aS,simprocAttr,Tryz.facts,s0,s1,s3,s4,hz,hz2,hz3,zA,s5,s6,aj hb2,hkw,hcl,← hK0,← hK1]
            refine ⟨mesW L G S',by omega,S',kw,cs,pre,Hc,rfl,by omega,hS0,fun s hs => hids s (by simp [hs]),hJ,hsub,hkc,hk0,hkw,hw' hS0,hout,?_⟩
            first | rfl | simp
theorem all_iter (h m : Nat) (L : List Ins) (G : List EId) (g : Fug.Good L) (hL : L.length ≤ 4096) : IterC Tryz.prog 86 [.ip [.ptr h 0] 0] encN (fun Hc => IsT Hc h m L G) (fun xs => xs = ixd 0 (bF L G)) (fun pre => ∃ n,0 < n ∧ n ≤ (bF L G).length ∧ pre = (ixd 0 (bF L G)).take n) (bF L G).length :=
  (all_iterP h m L G g hL).toC fun pre x ⟨r,hr⟩ => by
    have := congrArg List.length hr
    rw [List.length_append,ixd_length,List.length_cons] at this
    omega
end Go.Proofs.YtcgjlmopeblapaaGreat
end
