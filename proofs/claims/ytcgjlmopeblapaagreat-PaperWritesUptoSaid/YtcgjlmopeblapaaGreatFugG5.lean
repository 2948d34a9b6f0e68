/-
  Several texts in one: each says what it proves.
  Conditions: none. Lemmas only.
-/
import Derived.Test.YtcgjlmopeblapaaGreatFugG4
import Derived.Test.YtcgjlmopeblapaaGreatAbsG6
set_option linter.all false
section
set_option linter.unusedSimpArgs false
set_option linter.unusedVariables false
set_option maxRecDepth 8000
set_option maxHeartbeats 4000000
namespace Go.Proofs.YtcgjlmopeblapaaGreat
open Go Go.Abs Go.Proofs Go.Fug
theorem ixd_map (i : Nat) (l : List Nd) : (ixd i l).map (·.2) = l := by
  induction l generalizing i with
  | nil => rfl
  | cons n l ih => simp [ixd,ih]
theorem all_live (H : AH) (h : Nat) : ACalls Tryz.prog 63 [.ptr h 0] H fun r H' => r = .fn (.func 86) [] [.ip [.ptr h 0] 0] ∧ H' = H := by
  refine ao (c := ⟨Tryz.prog,4,[(1000000,[1])],[],[]⟩) (rs := [ResultVar.tmp 2]) Tryz.mixed Tryz.func63 rfl rfl rfl (Nat.le_of_ble_eq_true rfl) (by kernel_rfl) ?_
  simp (disch := omega) only [↓aI,↓zP,aD,zD,aS,simprocAttr,Tryz.facts]
  intro k hk0 hk
  simp (disch := omega) only [↓aI,↓zP,aD,zD,aS,simprocAttr,Tryz.facts,aj hk]
  exact ⟨_,rfl,H,Abs.Sub.refl _,rfl,rfl⟩
theorem set_swap {H : AH} {b k : Nat} {c c' o : AObj} (h : ¬ b = k) : ((H.set b c).set k o).set b c' = (H.set b c').set k o := by
  funext x
  simp only [AH.set]
  by_cases e : x = b
  · subst e; simp [h]
  · simp [e]
theorem frame_out {H H1 : AH} {b k k2 : Nat} {cs cs' : AObj} {o o2 : AObj} (hb : H b = none) (hk : H k = none) (hs : Abs.Sub ((H.set b cs).set k o) H1) (hkb : ¬ k = b) (hk2 : H1 k2 = none) :
    bX ((H.set b cs).set k o) H1 ((H.set b cs').set k2 o2) (((H1.kill k).set k2 o2).set b cs') := by
  have l1 : H1 b = some cs := hs b _ (by rw [aP (fun e => hkb e.symm),set_get])
  have l2 : H1 k = some o := hs k _ set_get
  have n1 := bA l1 hk2
  have n2 := bA l2 hk2
  refine ⟨fun x ox hx => ?_,fun q oq h1 h2 => ?_⟩
  · by_cases e1 : x = k2
    · subst e1
      rw [set_get] at hx
      rw [aP (fun e => n1 e.symm),set_get]; exact hx
    · rw [aP e1] at hx
      by_cases e2 : x = b
      · subst e2; rw [set_get] at hx ⊢; exact hx
      · rw [aP e2] at hx
        have e3 := bA hx hk
        rw [aP e2,aP e1,bZ e3]
        exact hs x ox (by rw [aP e3,aP e2]; exact hx)
  · have e1 : ¬ q = k := fun e => by rw [e,set_get] at h2; cases h2
    rw [aP e1] at h2
    have e2 : ¬ q = b := fun e => by rw [e,set_get] at h2; cases h2
    rw [aP e2] at h2
    have e3 := bA h1 hk2
    exact ⟨by rw [aP e2,aP e3,bZ e1]; exact h1,by rw [aP e3,aP e2]; exact h2⟩
def ct (l : List Nd) : List AV := l.map fun n => .sc (.int .i32 n.rune)
theorem runesC_all (l : List Nd) : (ct l).all isI32 = true := by
  unfold ct
  rw [List.all_map]
  exact List.all_eq_true.2 fun _ _ => rfl
theorem runesC_bytes (l : List Nd) : ((ct l).map runeA).flatMap dQ = cW l := by
  unfold ct cW
  rw [List.map_map,List.flatMap_map]
  rfl
theorem text_live (H : AH) (h m : Nat) (L : List Ins) (G : List EId) (t : IsT H h m L G) : ACalls Tryz.prog 58 [.ptr h 0] H fun v H' => v = .sc (.string ⟨(cW (live (bF L G))).toArray⟩) ∧ H' = H := by
  have hit := all_iter h m L G t.g t.small
  have hnl := nodes_le G t.g.nd (by have := t.small; omega)
  have hal := fun H' => all_live H' h
  have hi := t.hi
  have hm := t.hm
  refine ao (c := ⟨Tryz.prog,20,[(1000003,[5])],[],[]⟩) (rs := [ResultVar.tmp 2]) Tryz.mixed Tryz.func58 rfl rfl rfl (Nat.le_of_ble_eq_true rfl) (by kernel_rfl) ?_
  simp (disch := omega) only [↓aI,↓zP,aD,zD,aS,simprocAttr,Tryz.facts]
  intro b hb0 hb
  refine CallK.i (hal _) ?_
  rintro v E ⟨rfl,rfl⟩
  try simp (disch := omega) only [↓aI,↓zP,aD,zD,aS,simprocAttr,Tryz.facts]
  refine tok_r b 0 set_get rfl fun k hk0 hk => ?_
  simp only [List.set_cons_zero,set_set]
  have nb := bK hk
  have hkH := am hk
  have n1 := bA hi hb
  have n2 := bA hm hb
  refine range_t Tryz.mixed (by simp (disch := omega) only [↓aI,↓zP,aD,zD,aS,simprocAttr,Tryz.facts]) (by kernel_rfl) (fun _ => rfl) hit
    (fun pre Hu => ∃ k o,k ≠ 0 ∧ H k = none ∧ ¬ k = b ∧ Hu = (H.set b (.cells [.imm k (ct (live (pre.map (·.2)))) (live (pre.map (·.2))).length] 62 1)).set k o ∧ cy 21 1 o (live (pre.map (·.2))).length) (fun _ _ _ => False) ?_ ?_ ?_ ?_ ?_
  · rintro pre Hu H' ⟨k,o,hk0,hk,hkb,rfl,ho⟩ hs
    exact ((t.put (b := b) n1 n2).put (b := k) (bA hi hk) (bA hm hk)).mono hs
  · refine ⟨k,.nilt,hk0,hkH,fun e => nb e.symm,?_,.inr ⟨rfl,rfl⟩⟩
    rw [set_swap nb]
    rfl
  · rintro pre ⟨q,x⟩ Hu H1 ⟨k,o,hk0,hk,hkb,rfl,ho⟩ hs hpl
    have hsl : (ct (live (pre.map (·.2)))).length = (live (pre.map (·.2))).length := by simp [ct]
    have hll : (live (pre.map (·.2))).length ≤ pre.length := Nat.le_trans (List.length_filter_le _ _) (by simp)
    have l1 : H1 b = some _ := hs b _ (by rw [aP (fun e => hkb e.symm),set_get])
    have l2 : H1 k = some _ := hs k _ set_get
    have hmap : live ((pre ++ [(q,x)]).map (·.2)) = live (pre.map (·.2)) ++ if x.gone then [] else [x] := by
      unfold live
      rw [List.map_append,List.filter_append]
      cases hx : x.gone <;> simp [List.filter_cons,hx]
    generalize live (pre.map (·.2)) = P at *
    obtain ⟨⟨x1,x2⟩,xu,xg⟩ := x
    have n2 : ¬ b = k := fun e => hkb e.symm
    have hs2 : Abs.Sub H H1 := ((Sub.set_new hb).trans (Sub.set_new (by rw [aP hkb]; exact hk))).trans hs
    change cwp _ _ _ (Sg.put (Sg.put _ (some 8) (.sc (.int .i64 (q : Nat)))) (some 9) (.agg [.sc (.int .i64 x1),.sc (.int .i64 x2),.sc (.int .i32 xu),.sc (.bool xg)])) _
    cases xg with
    | true =>
      simp only [if_true,List.append_nil] at hmap
      simp (disch := omega) only [↓aI,↓zP,aD,zD,aS,simprocAttr,Tryz.facts]
      intro b5 hb50 hb5
      simp (disch := omega) only [↓aI,↓zP,aD,zD,aS,simprocAttr,Tryz.facts,aj hb5,ah,dS]
      refine ⟨_,⟨hs,fun q o h1 h2 => ⟨h1,h2⟩⟩,k,o,hk0,hk,hkb,?_,?_⟩
      · rw [hmap]
      · rw [hmap]; exact ho
    | false =>
      simp only [Bool.false_eq_true,if_false] at hmap
      have hsn : ct P ++ [.sc (.int .i32 xu)] = ct (P ++ [⟨(x1,x2),xu,false⟩]) := by simp [ct]
      simp (disch := omega) only [↓aI,↓zP,aD,zD,aS,simprocAttr,Tryz.facts]
      intro b5 hb50 hb5
      simp (disch := omega) only [↓aI,↓zP,aD,zD,aS,simprocAttr,Tryz.facts,aj hb5,l1,l2,ho,hsl,hsn,ah]
      intro k2 o2 hk20 hk2 ho2
      have n1 := bA l1 hk2
      simp (disch := omega) only [↓aI,↓zP,aD,zD,aS,simprocAttr,Tryz.facts,aj hb5,l1,l2,ho,hsl,hsn,ah,aP,bZ,dS]
      refine ⟨_,frame_out hb hk hs hkb (by first | exact hk2 | exact am hk2),k2,o2,hk20,hs2.free (by first | exact hk2 | exact am hk2),fun e => n1 e.symm,?_,?_⟩
      · rw [hmap,List.length_append]; rfl
      · rw [hmap,List.length_append]
        have e : (ct (P ++ [(⟨(x1,x2),xu,false⟩ : Nd)])).length = P.length + 1 := by simp [ct]
        rw [e] at ho2
        exact ho2
  · rintro xs Hu rfl ⟨k,o,hk0,hk,hkb,rfl,ho⟩
    rw [ixd_map] at ho ⊢
    have n2 : ¬ b = k := fun e => hkb e.symm
    have hll : (live (bF L G)).length ≤ 1000000000 := Nat.le_trans (List.length_filter_le _ _) hnl
    have ha := runesC_all (live (bF L G))
    have hb' := runesC_bytes (live (bF L G))
    have hsl : (ct (live (bF L G))).length = (live (bF L G)).length := by simp [ct]
    generalize live (bF L G) = P at *
    simp (disch := omega) only [↓aI,↓zP,aD,zD,aS,simprocAttr,Tryz.facts,aP,n2,ha,hb',hsl]
    exact ⟨_,rfl,H,(Sub.set_new hb).trans (Sub.set_new (by rw [aP hkb]; exact hk)),rfl,rfl⟩
  · intro _ _ _ _ hf
    exact hf.elim
end Go.Proofs.YtcgjlmopeblapaaGreat
end
section
namespace Go.Fug
def levs (L : List Ins) : Nat → List EId → List EId
  | 0,_ => []
  | n + 1,S => next L S ++ levs L n (next L S)
def cntW (L : List Ins) (G : List EId) (w : Nd → Nat) (n : Nat) (x : EId) : Nat := ((below L G n x false).map w).sum + ((below L G n x true).map w).sum
theorem sum_flatMap {α : Type} (f : α → List Nd) (w : Nd → Nat) : ∀ l : List α,((l.flatMap f).map w).sum = (l.map fun a => ((f a).map w).sum).sum
  | [] => rfl
  | a :: l => by simp only [List.flatMap_cons,List.map_append,List.sum_append,List.map_cons,List.sum_cons,sum_flatMap f w l]
theorem belowW (L : List Ins) (G : List EId) (w : Nd → Nat) (n : Nat) (x : EId) (r : Bool) : ((below L G (n + 1) x r).map w).sum = ((kids L x r).map fun y => w (bl L G y) + cntW L G w n y).sum := by
  simp only [below,sum_flatMap]
  congr 1
  apply List.map_congr_left
  intro y _
  simp only [List.map_append,List.sum_append,List.map_cons,List.map_nil,List.sum_cons,List.sum_nil,cntW]
  omega
theorem cntW_sum (L : List Ins) (G : List EId) (w : Nd → Nat) (n : Nat) : ∀ S : List EId,(S.map (cntW L G w (n + 1))).sum = ((next L S).map fun y => w (bl L G y) + cntW L G w n y).sum
  | [] => rfl
  | x :: S => by
    have ih := cntW_sum L G w n S
    simp only [List.map_cons,List.sum_cons,next,List.flatMap_cons,List.map_append,List.sum_append] at *
    rw [ih]
    show cntW L G w (n + 1) x + _ = _
    unfold cntW
    rw [belowW,belowW]
    rfl
theorem sum_add {α : Type} (f g : α → Nat) : ∀ l : List α,(l.map fun a => f a + g a).sum = (l.map f).sum + (l.map g).sum
  | [] => rfl
  | a :: l => by simp only [List.map_cons,List.sum_cons,sum_add f g l]; omega
theorem levs_sum (L : List Ins) (G : List EId) (w : Nd → Nat) : ∀ (n : Nat) (S : List EId),(S.map (cntW L G w n)).sum = ((levs L n S).map fun y => w (bl L G y)).sum
  | 0,S => by
    have : ∀ S : List EId,(S.map (cntW L G w 0)).sum = 0 := fun S => by
      induction S with
      | nil => rfl
      | cons x S ih => rw [List.map_cons,List.sum_cons,ih]; rfl
    rw [this]; rfl
  | n + 1,S => by
    rw [cntW_sum,sum_add,levs_sum L G w n (next L S)]
    simp only [levs,List.map_append,List.sum_append]
def lev (L : List Ins) : Nat → List EId
  | 0 => [bL]
  | n + 1 => next L (lev L n)
theorem mem_next {L : List Ins} {S : List EId} {x : EId} : x ∈ next L S ↔ ∃ i ∈ L,i.id = x ∧ i.par ∈ S := by
  unfold next
  rw [List.mem_flatMap]
  constructor
  · rintro ⟨z,hz,hx⟩
    rcases List.mem_append.1 hx with h | h <;> (obtain ⟨i,h1,h2,h3,-⟩ := mem_kids.1 h; exact ⟨i,h1,h2,by rw [h3]; exact hz⟩)
  · rintro ⟨i,h1,h2,h3⟩
    refine ⟨i.par,h3,?_⟩
    rw [List.mem_append]
    cases hr : i.right with
    | false => exact .inl (mem_kids.2 ⟨i,h1,h2,rfl,hr⟩)
    | true => exact .inr (mem_kids.2 ⟨i,h1,h2,rfl,hr⟩)
theorem mem_levs (L : List Ins) (x : EId) : ∀ (n k : Nat),x ∈ levs L n (lev L k) ↔ ∃ d,d < n ∧ x ∈ lev L (k + d + 1)
  | 0,k => by simp [levs]
  | n + 1,k => by
    have ih := mem_levs L x n (k + 1)
    have e : levs L (n + 1) (lev L k) = lev L (k + 1) ++ levs L n (lev L (k + 1)) := rfl
    rw [e,List.mem_append,ih]
    constructor
    · rintro (h | ⟨d,h1,h2⟩)
      · exact ⟨0,by omega,h⟩
      · exact ⟨d + 1,by omega,by rw [show k + (d + 1) + 1 = k + 1 + d + 1 by omega]; exact h2⟩
    · rintro ⟨d,h1,h2⟩
      cases d with
      | zero => exact .inl h2
      | succ d => exact .inr ⟨d,by omega,by rw [show k + 1 + d + 1 = k + (d + 1) + 1 by omega]; exact h2⟩
theorem sum_perm {l m : List EId} (h : l.Perm m) (f : EId → Nat) : (l.map f).sum = (m.map f).sum := by
  induction h with
  | nil => rfl
  | cons x _ ih => simp only [List.map_cons,List.sum_cons,ih]
  | swap x y l => simp only [List.map_cons,List.sum_cons]; omega
  | trans _ _ i1 i2 => exact i1.trans i2
theorem lev_nodup {L : List Ins} (g : Good L) : ∀ n,(lev L n).Nodup
  | 0 => by simp [lev]
  | n + 1 => next_nodup g.nd (lev_nodup g n)
theorem lev_apart {L : List Ins} (g : Good L) : ∀ (j d : Nat) (x : EId),x ∈ lev L j → x ∉ lev L (j + d + 1)
  | 0,d,x,h,h' => by
    simp only [lev,List.mem_singleton] at h
    subst h
    have e : lev L (0 + d + 1) = next L (lev L (0 + d)) := rfl
    rw [e] at h'
    obtain ⟨i,hi,e,-⟩ := mem_next.1 h'
    exact okI_ne (g.ok i hi) e
  | j + 1,d,x,h,h' => by
    obtain ⟨i,hi,e,hp⟩ := mem_next.1 (show x ∈ next L (lev L j) from h)
    have e' : lev L (j + 1 + d + 1) = next L (lev L (j + d + 1)) := by rw [show j + 1 + d + 1 = (j + d + 1) + 1 by omega]; rfl
    rw [e'] at h'
    obtain ⟨i',hi',f,hp'⟩ := mem_next.1 h'
    obtain rfl := uniq_id g.nd hi hi' (e.trans f.symm)
    exact lev_apart g j d i.par hp hp'
theorem levs_nodup {L : List Ins} (g : Good L) : ∀ (n k : Nat),(levs L n (lev L k)).Nodup
  | 0,k => List.Pairwise.nil
  | n + 1,k => by
    have e : levs L (n + 1) (lev L k) = lev L (k + 1) ++ levs L n (lev L (k + 1)) := rfl
    rw [e,List.nodup_append]
    refine ⟨lev_nodup g (k + 1),levs_nodup g n (k + 1),fun a ha b hb e => ?_⟩
    subst e
    obtain ⟨d,-,h⟩ := (mem_levs L a n (k + 1)).1 hb
    exact lev_apart g (k + 1) d a ha h
theorem id_lev {L : List Ins} (g : Good L) : ∀ (j : Nat) (h : j < L.length),∃ d,d ≤ j ∧ L[j].id ∈ lev L (d + 1) := by
  intro j
  induction j using Nat.strongRecOn with
  | ind j ih =>
    intro h
    rcases g.up j h with e | ⟨k,hk,e⟩
    · exact ⟨0,by omega,mem_next.2 ⟨L[j],List.getElem_mem h,rfl,by rw [e]; simp [lev]⟩⟩
    · obtain ⟨d,hd,hm⟩ := ih k hk (by omega)
      exact ⟨d + 1,by omega,mem_next.2 ⟨L[j],List.getElem_mem h,rfl,by rw [← e]; exact hm⟩⟩
theorem levs_ids {L : List Ins} (g : Good L) (x : EId) : x ∈ levs L (L.length + 1) (lev L 0) ↔ x ∈ L.map (·.id) := by
  rw [mem_levs]
  constructor
  · rintro ⟨d,-,h⟩
    have e : lev L (0 + d + 1) = next L (lev L (0 + d)) := rfl
    rw [e] at h
    obtain ⟨i,hi,e,-⟩ := mem_next.1 h
    exact List.mem_map.2 ⟨i,hi,e⟩
  · intro h
    obtain ⟨i,hi,rfl⟩ := List.mem_map.1 h
    obtain ⟨j,hj,rfl⟩ := List.mem_iff_getElem.1 hi
    obtain ⟨d,hd,hm⟩ := id_lev g j hj
    exact ⟨d,by omega,by rw [Nat.zero_add]; exact hm⟩
theorem nodes_sum {L : List Ins} (g : Good L) (G : List EId) (w : Nd → Nat) : ((bF L G).map w).sum = (L.map fun i => w (bl L G i.id)).sum := by
  have h1 := levs_sum L G w (L.length + 1) [bL]
  have h2 : ([bL].map (cntW L G w (L.length + 1))).sum = ((bF L G).map w).sum := by
    have hl : below L G (L.length + 1) bL false = [] := by
      show (kids L bL false).flatMap _ = []
      rw [root_left g]; rfl
    simp only [List.map_cons,List.map_nil,List.sum_cons,List.sum_nil,cntW,hl]
    show 0 + _ + 0 = _
    unfold bF
    omega
  rw [h2] at h1
  rw [h1]
  have hp : (levs L (L.length + 1) (lev L 0)).Perm (L.map (·.id)) := (List.perm_ext_iff_of_nodup (levs_nodup g _ _) g.nd).2 (levs_ids g)
  have := sum_perm hp (fun y => w (bl L G y))
  rw [show levs L (L.length + 1) [bL] = levs L (L.length + 1) (lev L 0) from rfl,this,List.map_map]
  rfl
theorem live_len {L : List Ins} (g : Good L) {G : List EId} (gs : ∀ x ∈ G,x ∈ L.map (·.id)) (gn : G.Nodup) : ((bF L G).filter fun n => !n.gone).length = L.length - G.length := by
  have h := nodes_sum g G fun n => if n.gone then 0 else 1
  have e1 : ∀ l : List Nd,(l.map fun n => if n.gone then 0 else 1).sum = (l.filter fun n => !n.gone).length := fun l => by
    induction l with
    | nil => rfl
    | cons n l ih => cases hg : n.gone <;> simp [List.filter_cons,hg,ih]; omega
  rw [e1] at h
  rw [h]
  have e2 : ∀ l : List Ins,(l.map fun i => if (bl L G i.id).gone then 0 else 1).sum + ((l.map (·.id)).filter fun x => decide (x ∈ G)).length = l.length := fun l => by
    induction l with
    | nil => rfl
    | cons i l ih =>
      have hg : (bl L G i.id).gone = decide (i.id ∈ G) := rfl
      by_cases hm : i.id ∈ G
      · simp only [List.map_cons,List.sum_cons,hg,hm,decide_true,if_true,List.filter_cons,List.length_cons]; omega
      · simp only [List.map_cons,List.sum_cons,hg,hm,decide_false,Bool.false_eq_true,if_false,List.filter_cons,List.length_cons]; omega
  have h2 := e2 L
  have h3 : ((L.map (·.id)).filter fun x => decide (x ∈ G)).length = G.length := by
    refine Nat.le_antisymm (cO _ _ (g.nd.filter _) fun x hx => ?_) (cO _ _ gn fun x hx => ?_)
    · simpa using (List.mem_filter.1 hx).2
    · exact List.mem_filter.2 ⟨gs x hx,by simpa using hx⟩
  omega
end Go.Fug
end
section
namespace Go.Fug
abbrev ck (l : List Nd) : List EId := l.map (·.id)
end Go.Fug
end
section
namespace Go.Fug
theorem sum_count (x : EId) : ∀ l : List Nd,(l.map fun n => if n.id = x then 1 else 0).sum = (ck l).count x
  | [] => rfl
  | n :: l => by
    have ih := sum_count x l
    simp only [List.map_cons,List.sum_cons,ck,List.count_cons] at *
    rw [ih]
    by_cases h : n.id = x
    · simp [h]; omega
    · simp [h]
theorem sum_countI (x : EId) (L0 : List Ins) (G : List EId) : ∀ l : List Ins,(l.map fun i => if (bl L0 G i.id).id = x then 1 else 0).sum = (l.map (·.id)).count x
  | [] => rfl
  | i :: l => by
    have ih := sum_countI x L0 G l
    simp only [List.map_cons,List.sum_cons,List.count_cons] at *
    rw [ih]
    have e : (bl L0 G i.id).id = i.id := rfl
    rw [e]
    by_cases h : i.id = x
    · simp [h]; omega
    · simp [h]
section
variable {L : List Ins} {G : List EId}
theorem count_nodes (g : Good L) (G : List EId) (x : EId) : (ck (bF L G)).count x = (L.map (·.id)).count x := by
  rw [← sum_count,← sum_countI x L G]
  exact nodes_sum g G fun n => if n.id = x then 1 else 0
theorem nodes_nodup (g : Good L) (G : List EId) : (ck (bF L G)).Nodup := by
  rw [List.nodup_iff_count]
  intro x
  rw [count_nodes g]
  exact List.nodup_iff_count.1 g.nd x
theorem mem_nodes (g : Good L) (G : List EId) {x : EId} : x ∈ ck (bF L G) ↔ x ∈ L.map (·.id) := by
  rw [← List.count_pos_iff,← List.count_pos_iff,count_nodes g]
theorem root_not (g : Good L) : bL ∉ L.map (·.id) := fun h => by
  obtain ⟨i,hi,e⟩ := List.mem_map.1 h
  exact okI_ne (g.ok i hi) e
theorem below_all (g : Good L) {n : Nat} {x : EId} {r : Bool} (d : Deep L n x) : below L G n x r = all L G x r := by
  unfold all
  by_cases h : n ≤ L.length + 1
  · rw [below_deep d h]
  · rw [below_deep (g.deep x) (by omega)]
theorem split_at (g : Good L) {a : EId} : ∀ (n : Nat) (x : EId) (r : Bool),Deep L n x → a ∈ ck (below L G n x r) → ∃ X Y,below L G n x r = X ++ bl L G a :: (all L G a true ++ Y)
  | 0,x,r,_,h => by simp [below,ck] at h
  | n + 1,x,r,d,h => by
    obtain ⟨b,hb,hba⟩ := List.mem_map.1 h
    simp only [below,List.mem_flatMap] at hb
    obtain ⟨y,hy,hb⟩ := hb
    obtain ⟨m,hm,dy⟩ := d.kid hy
    obtain rfl : n = m := by omega
    obtain ⟨K1,K2,hK⟩ := List.append_of_mem hy
    obtain ⟨F1,F2,e⟩ : ∃ F1 F2,below L G (n + 1) x r = F1 ++ ((below L G n y false ++ [bl L G y] ++ below L G n y true) ++ F2) := by
      have e : below L G (n + 1) x r = (kids L x r).flatMap fun y => below L G n y false ++ [bl L G y] ++ below L G n y true := rfl
      rw [hK,List.flatMap_append,List.flatMap_cons] at e
      exact ⟨_,_,e⟩
    rcases List.mem_append.1 hb with hb | hb
    · rcases List.mem_append.1 hb with hb | hb
      · obtain ⟨X,Y,hX⟩ := split_at g n y false dy (List.mem_map.2 ⟨b,hb,hba⟩)
        rw [hX] at e
        exact ⟨F1 ++ X,Y ++ [bl L G y] ++ below L G n y true ++ F2,by rw [e]; simp only [List.append_assoc,List.cons_append,List.nil_append]⟩
      · have e1 : y = a := by
          rw [List.mem_singleton.1 hb] at hba; exact hba
        subst e1
        rw [below_all g dy (r := true)] at e
        refine ⟨F1 ++ below L G n y false,F2,e.trans ?_⟩
        simp only [List.append_assoc,List.cons_append,List.nil_append]
    · obtain ⟨X,Y,hX⟩ := split_at g n y true dy (List.mem_map.2 ⟨b,hb,hba⟩)
      rw [hX] at e
      exact ⟨F1 ++ below L G n y false ++ [bl L G y] ++ X,Y ++ F2,by rw [e]; simp only [List.append_assoc,List.cons_append,List.nil_append]⟩
theorem nodes_split (g : Good L) {a : EId} (h : a ∈ L.map (·.id)) : ∃ X Y,bF L G = X ++ bl L G a :: (all L G a true ++ Y) :=
  split_at g _ _ _ (g.deep bL) ((mem_nodes g G).2 h)
theorem all_ne (g : Good L) {x : EId} {r : Bool} (h : kids L x r ≠ []) : all L G x r ≠ [] := by
  rw [g.all_eq]
  cases e : kids L x r with
  | nil => exact absurd e h
  | cons y l => simp
def planZ (L : List Ins) (G : List EId) (a : EId) : EId := ((all L G a true).head?.map (·.id)).getD bL
theorem planZ_eq {a : EId} {z : Nd} {W : List Nd} (h : all L G a true = z :: W) : planZ L G a = z.id := by unfold planZ; rw [h]; rfl
theorem plan_pos (g : Good L) {a : EId} (ha : a = bL ∨ a ∈ L.map (·.id)) (hk : kids L a true ≠ []) :
    ∃ p,p < (bF L G).length ∧ (∀ k (h : k < (bF L G).length),(bF L G)[k].id = a ↔ k + 1 = p) ∧ ∀ h : p < (bF L G).length,(bF L G)[p].id = planZ L G a := by
  obtain ⟨z,W,hz⟩ : ∃ z W,all L G a true = z :: W := by
    cases e : all L G a true with
    | nil => exact absurd e (all_ne g hk)
    | cons z W => exact ⟨z,W,rfl⟩
  rw [planZ_eq hz]
  by_cases hr : a = bL
  · subst hr
    have e : bF L G = z :: W := hz
    refine ⟨0,by rw [e]; simp,fun k h => ⟨fun h' => ?_,fun h' => by omega⟩,fun h => by simp [e]⟩
    exact absurd ((mem_nodes g G).1 (by rw [← h']; exact List.mem_map.2 ⟨_,List.getElem_mem h,rfl⟩)) (root_not g)
  · obtain ⟨X,Y,e⟩ := nodes_split (G := G) g (ha.resolve_left hr)
    rw [hz] at e
    have nd := nodes_nodup g G
    refine ⟨X.length + 1,by rw [e]; simp,fun k h => ⟨fun h' => ?_,fun h' => ?_⟩,fun h => ?_⟩
    · have hX : X.length < (bF L G).length := by rw [e]; simp
      have e1 : (ck (bF L G))[k]'(by simpa [ck] using h) = (ck (bF L G))[X.length]'(by simpa [ck] using hX) := by
        simp only [ck,List.getElem_map,h']
        simp [e,bl]
      have := (List.getElem_inj nd).1 e1
      omega
    · obtain rfl : k = X.length := by omega
      simp [e,bl]
    · simp only [e]
      rw [List.getElem_append_right (by omega)]
      simp
end
end Go.Fug
end
