/-
  Several texts in one: each says what it proves.
  Conditions: none. Lemmas only.
-/
import Derived.Test.YtcgjlmopeblapaaGreatMarG3
import Derived.Test.YtcgjlmopeblapaaGreatFugG5
set_option linter.all false
section
set_option linter.unusedSimpArgs false
set_option linter.unusedVariables false
set_option maxRecDepth 8000
set_option maxHeartbeats 4000000
namespace Go.Proofs.YtcgjlmopeblapaaGreat
open Go Go.Abs Go.Proofs Go.Fug
abbrev idxA (I : List EId) (y : EId) : AV := .sc (.int .i64 (I.idxOf y : Nat))
def gapN (I : List EId) (x : EId) (b : Bool) : Int × Bool :=
  if x = bL then (if b then -1 else 2 * (I.length : Int),true) else if x ∈ I then (2 * (I.idxOf x : Int) + (if b then 1 else 0),true) else (if b then 1 else 0,false)
theorem gap_live (H : AH) (pm : Nat) (I : List EId) (x : EId) (b : Bool) (hI : I.length ≤ 1000000) (hp : H pm = some (.map (bP I (idxA I)))) :
    ACalls Tryz.prog 103 [.mp pm,.agg (ancC x b)] H fun v H' => v = .tup [.sc (.int .i64 (gapN I x b).1),.sc (.bool (gapN I x b).2)] ∧ H' = H := by
  have hf := cE (idxA I) x I 0
  have hlen : (bP I (idxA I)).length = I.length := by rw [bP,List.length_map]
  have hR : gapN I x b = if x = bL then (if b then -1 else 2 * (I.length : Int),true) else if x ∈ I then (2 * (I.idxOf x : Int) + (if b then 1 else 0),true) else (if b then 1 else 0,false) := rfl
  generalize gapN I x b = R at *
  simp only [ancC]
  by_cases hx : x = bL
  · rw [if_pos hx] at hR
    subst hR hx
    cases b
    all_goals
      refine ao (c := ⟨Tryz.prog,33,[(1000000,[3])],[],[]⟩) (rs := [ResultVar.tmp 4,ResultVar.tmp 5]) Tryz.mixed Tryz.func103 rfl rfl rfl (Nat.le_of_ble_eq_true rfl) (by kernel_rfl) ?_
      simp (disch := omega) only [↓aI,↓zP,aD,zD,aS,simprocAttr,Tryz.facts,bL]
      intro k hk0 hk
      have n1 := bA hp hk
      simp (disch := omega) only [↓aI,↓zP,aD,zD,aS,simprocAttr,Tryz.facts,aj hk,zA,beq_self_eq_true,hp,hlen]
      exact ⟨_,rfl,_,Abs.Sub.refl _,rfl,rfl⟩
  · rw [if_neg hx] at hR
    have hxo : x.1 ≠ 0 ∨ (x.1 = 0 ∧ x.2 ≠ 0) := by
      by_cases e : x.1 = 0
      · exact .inr ⟨e,fun e' => hx (Prod.ext e e')⟩
      · exact .inl e
    by_cases hin : x ∈ I
    · rw [if_pos hin] at hR hf
      have hlt := List.idxOf_lt_length_of_mem hin
      simp only [idxA] at hf
      generalize I.idxOf x = ix at *
      obtain ⟨a,c⟩ := x
      simp only [] at hxo hf
      generalize bP I (idxA I) = E at *
      have hw : (2 * ((ix : Nat) : Int)) = ((2 * ix : Nat) : Int) := by omega
      subst hR
      rcases hxo with hxo | hxo
      all_goals
        cases b
        all_goals
          refine ao (c := ⟨Tryz.prog,33,[(1000000,[3])],[],[]⟩) (rs := [ResultVar.tmp 4,ResultVar.tmp 5]) Tryz.mixed Tryz.func103 rfl rfl rfl (Nat.le_of_ble_eq_true rfl) (by kernel_rfl) ?_
          simp (disch := omega) only [↓aI,↓zP,aD,zD,aS,simprocAttr,Tryz.facts]
          intro k hk0 hk
          have n1 := bA hp hk
          simp (disch := omega) only [↓aI,↓zP,aD,zD,aS,simprocAttr,Tryz.facts,aj hk,zA,hp,hf]
          refine ⟨_,rfl,_,Abs.Sub.refl _,?_,rfl⟩
          first | rfl | simp
    · rw [if_neg hin] at hR hf
      obtain ⟨a,c⟩ := x
      simp only [] at hxo hf
      generalize bP I (idxA I) = E at *
      subst hR
      rcases hxo with hxo | hxo
      all_goals
        cases b
        all_goals
          refine ao (c := ⟨Tryz.prog,33,[(1000000,[3])],[],[]⟩) (rs := [ResultVar.tmp 4,ResultVar.tmp 5]) Tryz.mixed Tryz.func103 rfl rfl rfl (Nat.le_of_ble_eq_true rfl) (by kernel_rfl) ?_
          simp (disch := omega) only [↓aI,↓zP,aD,zD,aS,simprocAttr,Tryz.facts]
          intro k hk0 hk
          have n1 := bA hp hk
          simp (disch := omega) only [↓aI,↓zP,aD,zD,aS,simprocAttr,Tryz.facts,aj hk,zA,hp,hf]
          refine ⟨_,rfl,_,Abs.Sub.refl _,?_,rfl⟩
          first | rfl | simp
def tabC (N : Nat) (f : Nat → Nat → Int) : List AV := (List.range (N * 5)).map fun k => .sc (.int .i64 (f (k / 5) (k % 5)))
theorem tabC_length (N : Nat) (f : Nat → Nat → Int) : (tabC N f).length = N * 5 := by simp [tabC]
theorem tabC_get {N : Nat} {f : Nat → Nat → Int} {k : Nat} (h : k < N * 5) : (tabC N f)[k]? = some (.sc (.int .i64 (f (k / 5) (k % 5)))) := by
  simp [tabC,h]
theorem tabC_congr {N : Nat} {f g : Nat → Nat → Int} (h : ∀ i j,i < N → j < 5 → f i j = g i j) : tabC N f = tabC N g := by
  unfold tabC
  refine List.map_congr_left fun k hk => ?_
  rw [List.mem_range] at hk
  rw [h _ _ (by omega) (by omega)]
theorem tabC_load {N : Nat} {f : Nat → Nat → Int} {i : Nat} (h : i < N) : ((tabC N f).drop (i * 5)).take 5 = [.sc (.int .i64 (f i 0)),.sc (.int .i64 (f i 1)),.sc (.int .i64 (f i 2)),.sc (.int .i64 (f i 3)),.sc (.int .i64 (f i 4))] := by
  apply List.ext_getElem?
  intro k
  rw [List.getElem?_take]
  by_cases hk : k < 5
  · rw [if_pos hk,List.getElem?_drop,tabC_get (by omega)]
    have h5 : k = 0 ∨ k = 1 ∨ k = 2 ∨ k = 3 ∨ k = 4 := by omega
    rcases h5 with rfl | rfl | rfl | rfl | rfl
    all_goals
      simp only [List.getElem?_cons_zero,List.getElem?_cons_succ,Option.some.injEq,AV.sc.injEq,Value.int.injEq,true_and]
      congr 1 <;> omega
  · rw [if_neg hk]
    symm
    rw [List.getElem?_eq_none_iff]
    simp
    omega
theorem put_one {cs : List AV} {k : Nat} {v : AV} (h : k < cs.length) : bG cs k [v] = cs.set k v := by
  rw [ah,List.set_eq_take_append_cons_drop,if_pos h]
  simp
theorem tabC_put {N : Nat} {f : Nat → Nat → Int} {i j : Nat} {v : Int} (hi : i < N) (hj : j < 5) : bG (tabC N f) (i * 5 + j) [.sc (.int .i64 v)] = tabC N fun a b => if a = i ∧ b = j then v else f a b := by
  rw [put_one (by rw [tabC_length]; omega)]
  apply List.ext_getElem?
  intro k
  rw [List.getElem?_set]
  by_cases hk : k < N * 5
  · rw [tabC_get hk,tabC_get hk,tabC_length]
    by_cases e : i * 5 + j = k
    · subst e
      rw [if_pos rfl,if_pos (by omega),if_pos ⟨by omega,by omega⟩]
    · rw [if_neg e,if_neg (by omega)]
  · have h1 : (tabC N f)[k]? = none := List.getElem?_eq_none (by rw [tabC_length]; omega)
    have h2 : (tabC N fun a b => if a = i ∧ b = j then v else f a b)[k]? = none := List.getElem?_eq_none (by rw [tabC_length]; omega)
    rw [h1,h2,if_neg (by omega)]
theorem tabC_zero (N : Nat) : aQ [.sc (.int .i64 0),.sc (.int .i64 0),.sc (.int .i64 0),.sc (.int .i64 0),.sc (.int .i64 0)] N = tabC N fun _ _ => 0 := by
  have h1 : ∀ N,aQ [.sc (.int .i64 0),.sc (.int .i64 0),.sc (.int .i64 0),.sc (.int .i64 0),.sc (.int .i64 0)] N = List.replicate (N * 5) (.sc (.int .i64 0)) := fun N => by
    induction N with
    | zero => rfl
    | succ N ih =>
      unfold aQ
      rw [ih,show (N + 1) * 5 = 5 + N * 5 by omega,← List.replicate_append_replicate]
      rfl
  rw [h1]
  unfold tabC
  simp [List.map_const']
end Go.Proofs.YtcgjlmopeblapaaGreat
end
section
set_option linter.unusedSimpArgs false
set_option linter.unusedVariables false
set_option maxRecDepth 8000
set_option maxHeartbeats 4000000
namespace Go.Proofs.YtcgjlmopeblapaaGreat
open Go Go.Abs Go.Proofs Go.Fug
def stepS (I : List EId) (m : Mk) (f : Nat → Nat → Int) : Nat → Nat → Int := fun i n =>
  if ((gapN I m.fid m.fb).2 = true ∧ (gapN I m.tid m.tb).2 = true) ∧ (n : Int) = m.name ∧ (gapN I m.fid m.fb).1 ≤ 2 * (i : Int) ∧ 2 * (i : Int) < (gapN I m.tid m.tb).1 then m.value else f i n
def styF (I : List EId) (l : List Mk) : Nat → Nat → Int := l.foldl (fun f m => stepS I m f) fun _ _ => 0
theorem ixd_get {l : List Nd} {a i : Nat} (h : i < l.length) : (ixd a l)[i]? = some (a + i,l[i]) := by
  induction l generalizing a i with
  | nil => simp at h
  | cons n l ih =>
    cases i with
    | zero => simp [ixd]
    | succ i =>
      simp only [ixd,List.getElem?_cons_succ]
      rw [ih (by simpa using h)]
      simp
      omega
theorem ixd_split {ns : List Nd} {pre r : List (Nat × Nd)} {x : Nat × Nd} (h : pre ++ x :: r = ixd 0 ns) : ∃ hl : pre.length < ns.length,x = (pre.length,ns[pre.length]) := by
  have h1 := congrArg List.length h
  rw [ixd_length,List.length_append,List.length_cons] at h1
  refine ⟨by omega,?_⟩
  have h2 : (pre ++ x :: r)[pre.length]? = some x := by simp
  rw [h,ixd_get (by omega)] at h2
  simp only [Nat.zero_add,Option.some.injEq] at h2
  exact h2.symm
theorem frame_map {H H1 : AH} {k : Nat} {o o2 : AObj} (hk : H k = none) (hs : Abs.Sub (H.set k o) H1) : bX (H.set k o) H1 (H.set k o2) (H1.set k o2) := by
  refine ⟨fun x ox hx => ?_,fun q oq h1 h2 => ?_⟩
  · by_cases e1 : x = k
    · subst e1; rw [set_get] at hx ⊢; exact hx
    · rw [aP e1] at hx ⊢
      exact hs x ox (by rw [aP e1]; exact hx)
  · have e1 : ¬ q = k := fun e => by rw [e,set_get] at h2; cases h2
    rw [aP e1] at h2 ⊢
    exact ⟨h1,by rw [aP e1]; exact h2⟩
theorem find_take {I : List EId} (hn : I.Nodup) {k : Nat} (h : k < I.length) (f : EId → AV) : cY Tryz.prog 50 (idV I[k]) (bP (I.take k) f) 0 = some none := by
  rw [cE,if_neg]
  intro hm
  obtain ⟨j,hj,e⟩ := List.mem_iff_getElem.1 hm
  rw [List.getElem_take] at e
  have := (List.getElem_inj hn).1 e
  simp at hj
  omega
theorem ents_take {I : List EId} (hn : I.Nodup) {k : Nat} (h : k < I.length) : bP (I.take k) (idxA I) ++ [(idV I[k],.sc (.int .i64 (k : Nat)))] = bP (I.take (k + 1)) (idxA I) := by
  rw [List.take_succ_eq_append_getElem h]
  unfold bP
  rw [List.map_append]
  have : I.idxOf I[k] = k := by
    have h1 := List.idxOf_lt_length_of_mem (List.getElem_mem h)
    exact (List.getElem_inj hn).1 (List.getElem_idxOf h1)
  simp [this]
theorem nodes_len {L : List Ins} (g : Fug.Good L) (G : List EId) : (bF L G).length = L.length := by
  have h := ((List.perm_ext_iff_of_nodup (nodes_nodup g G) g.nd).2 fun x => mem_nodes g G).length_eq
  simpa [ck] using h
structure Src (H : AH) (bv tv : AV) (l : List Mk) (ns : List Nd) (cap : List AV) (Res : AH → Prop) : Prop where
  sb : bv.strip = bv
  st : tv.strip = tv
  g : GoodM l
  nd : (idsNd ns).Nodup
  small : ns.length ≤ 4096
  al : ∀ H',ACalls Tryz.prog 63 [tv] H' fun r H'' => r = .fn (.func 86) [] cap ∧ H'' = H'
  it : IterP Tryz.prog 86 cap encN Res (fun xs => xs = ixd 0 ns) (fun pre => ∃ n,0 < n ∧ n ≤ ns.length ∧ pre = (ixd 0 ns).take n) (fun pre x => ∃ r,pre ++ x :: r = ixd 0 ns)
  res : ∀ H',Abs.Sub H H' → Res H'
  li : ∀ H',Abs.Sub H H' → ACalls Tryz.prog 43 [bv] H' fun v H'' => v = eM l ∧ H'' = H'
theorem styles_own (H : AH) (bv tv : AV) (l : List Mk) (ns : List Nd) (cap : List AV) (Res : AH → Prop) (src : Src H bv tv l ns cap Res) :
    ACalls Tryz.prog 81 [bv,tv] H fun v H' => ∃ ks,v = .own ks 0 ns.length ∧ H ks = none ∧ H' ks = some (.cells (tabC ns.length (styF (idsNd ns) l)) 97 5) ∧ Abs.Sub H H' := by
  obtain ⟨hsb,hst,g,hnd',hnl,hal,hit,hres,hls⟩ := src
  have hil : (idsNd ns).length = ns.length := List.length_map _
  have hig : ∀ k (hk : k < ns.length),(idsNd ns)[k]'(by rw [hil]; exact hk) = ns[k].id := fun k hk => by simp [idsNd]
  obtain ⟨I,hI⟩ : ∃ I,I = idsNd ns := ⟨_,rfl⟩
  have hgap := fun (H : AH) (pm : Nat) (x : EId) (b : Bool) => gap_live H pm I x b
  rw [← hI]
  simp only [← hI] at hil hig hnd'
  have hll := bM l
  have hl5 := g.small
  obtain ⟨F,hF⟩ : ∃ F : Nat → Nat → Nat → Int,F = fun k => styF I (l.take k) := ⟨_,rfl⟩
  have hF0 : F 0 = fun _ _ => 0 := by rw [hF]; rfl
  have hFs : ∀ k (hk : k < l.length),F (k + 1) = stepS I l[k] (F k) := fun k hk => by
    rw [hF]
    simp only []
    unfold styF
    rw [List.take_succ_eq_append_getElem hk,List.foldl_append]
    rfl
  have hFe : styF I l = F l.length := by rw [hF]; simp only [List.take_length]
  rw [hFe]
  refine ao (c := ⟨Tryz.prog,81,[(17,[0,0,0,1,0,1,0,0,2]),(1000001,[5]),(1000004,[7]),(1000009,[10]),(4000017,[5,8,10,11,13,29,30,31,56,57]),(4000016,[5,8,10,11,13,15,29,30,31,56,57,69]),(4000012,[5,8,10,11,13,29,30,31,54]),(4000011,[5,8,10,11,12,13,14,29,30,31]),(4000010,[5,8,10,11,12,29,30,31])],[],[]⟩) (rs := [ResultVar.tmp 4]) Tryz.mixed Tryz.func81 rfl rfl rfl (Nat.le_of_ble_eq_true rfl) (by kernel_rfl) ?_
  simp (disch := omega) only [↓aI,↓zP,aD,zD,aS,simprocAttr,Tryz.facts,hsb,hst]
  intro pm hpm0 hpm b5 hb50 hb5
  simp (disch := omega) only [↓aI,↓zP,aD,zD,aS,simprocAttr,Tryz.facts,aj hb5,ah,hsb,hst]
  refine CallK.i (hal _) ?_
  rintro v E ⟨rfl,rfl⟩
  try simp (disch := omega) only [↓aI,↓zP,aD,zD,aS,simprocAttr,Tryz.facts]
  refine range_p Tryz.mixed (by simp (disch := omega) only [↓aI,↓zP,aD,zD,aS,simprocAttr,Tryz.facts]) (by kernel_rfl) (fun _ => rfl) hit
    (fun pre Hu => pre.length ≤ ns.length ∧ Hu = H.set pm (.map (bP (I.take pre.length) (idxA I)))) (fun _ _ _ => False) ?_ ?_ ?_ ?_ ?_
  · rintro pre Hu H' ⟨-,rfl⟩ hs
    exact hres _ ((Sub.set_new hpm).trans hs)
  · exact ⟨by simp,rfl⟩
  · rintro pre ⟨q,x⟩ Hu H1 ⟨hpl,rfl⟩ hs ⟨r,hr⟩
    obtain ⟨hlt,hx⟩ := ixd_split hr
    simp only [Prod.mk.injEq] at hx
    obtain ⟨rfl,hx⟩ := hx
    have l1 : H1 pm = some _ := hs pm _ set_get
    have hidx := hig _ hlt
    have hlt' : pre.length < I.length := by rw [hil]; exact hlt
    have hf := find_take hnd' hlt' (idxA I)
    have hen := ents_take hnd' hlt'
    rw [hidx,← hx] at hf hen
    have hpl2 : (pre ++ [(pre.length,x)]).length = pre.length + 1 := by simp
    obtain ⟨⟨x1,x2⟩,xu,xg⟩ := x
    simp only [] at hf hen
    generalize hE0 : bP (I.take pre.length) (idxA I) = E0 at *
    generalize hE1 : bP (I.take (pre.length + 1)) (idxA I) = E1 at *
    change cwp _ _ _ (Sg.put (Sg.put _ (some 19) (.sc (.int .i64 (pre.length : Nat)))) (some 20) (.agg [.sc (.int .i64 x1),.sc (.int .i64 x2),.sc (.int .i32 xu),.sc (.bool xg)])) _
    simp (disch := omega) only [↓aI,↓zP,aD,zD,aS,simprocAttr,Tryz.facts]
    intro b7 hb70 hb7
    have n4 := bA l1 hb7
    simp (disch := omega) only [↓aI,↓zP,aD,zD,aS,simprocAttr,Tryz.facts,aj hb7,ah,l1,hf,hen,dS,aP,n4]
    refine ⟨_,frame_map hpm hs,by omega,?_⟩
    rw [hE1]
  · rintro xs Hu rfl ⟨-,rfl⟩
    rw [ixd_length,← hil,List.take_length]
    have hEl : (bP I (idxA I)).length = I.length := by rw [bP,List.length_map]
    simp (disch := omega) only [↓aI,↓zP,aD,zD,aS,simprocAttr,Tryz.facts,set_get,hEl,ah,hsb,hst]
    intro ks hks0 hks
    rw [tabC_zero]
    have hksH := am hks
    have hsub0 : Abs.Sub H ((H.set pm (.map (bP I (idxA I)))).set ks (.cells (tabC I.length fun _ _ => 0) 97 5)) := (Sub.set_new hpm).trans (Sub.set_new hks)
    have n5 := bK hks
    try simp (disch := omega) only [↓aI,↓zP,aD,zD,aS,simprocAttr,Tryz.facts,set_get,hEl,ah,hsb,hst]
    refine CallK.i (hls _ hsub0) ?_
    rintro v E2 ⟨rfl,rfl⟩
    simp (disch := omega) only [↓aI,↓zP,aD,zD,aS,simprocAttr,Tryz.facts]
    refine br (c := ⟨Tryz.prog,81,[(17,[0,0,0,1,0,1,0,0,2]),(1000001,[5]),(1000004,[7]),(1000009,[10]),(4000017,[5,8,10,11,13,29,30,31,56,57]),(4000016,[5,8,10,11,13,15,29,30,31,56,57,69]),(4000012,[5,8,10,11,13,29,30,31,54]),(4000011,[5,8,10,11,12,13,14,29,30,31]),(4000010,[5,8,10,11,12,29,30,31])],[],[]⟩) Tryz.mixed (by kernel_rfl) (fun mm σ H' => ∃ k : Nat,k + mm = l.length ∧ Abs.Sub H H' ∧ H' pm = some (.map (bP I (idxA I))) ∧ H' ks = some (.cells (tabC I.length (F k)) 97 5) ∧ σ 5 = .ip [.mp pm] 0 ∧ σ 8 = .own ks 0 I.length ∧ σ 29 = eM l ∧ σ 30 = .sc (.int .i64 l.length) ∧ σ 31 = .sc (.int .i64 (k : Nat))) l.length ?_ ?_
    · refine ⟨0,by omega,?_,?_,?_,?_⟩
      · exact hsub0
      · rw [aP n5,set_get]
      · rw [hF0]; exact set_get
      · simp (disch := omega) only [↓aI,↓zP,aD,zD,aS,simprocAttr,Tryz.facts,ah]
        first | done | rfl
    · rintro mm σ H' ⟨k,hkm,hsub,vp,vk,s5,s8,s29,s30,s31⟩
      by_cases hlt : k < l.length
      · have hld := mksC_load hlt
        have hle' : k * 10 + 10 ≤ l.length * 10 := by omega
        have hst := hFs k hlt
        have hgf := fun H' (vp : H' pm = some (.map (bP I (idxA I)))) => hgap H' pm l[k].fid l[k].fb (by omega) vp
        have hgt := fun H' (vp : H' pm = some (.map (bP I (idxA I)))) => hgap H' pm l[k].tid l[k].tb (by omega) vp
        have hrt := g.ok _ (List.getElem_mem hlt)
        have hnm : ∃ nm : Nat,l[k].name = (nm : Int) ∧ 1 ≤ nm ∧ nm ≤ 4 := by
          unfold cQ at hrt
          simp only [Bool.and_eq_true,decide_eq_true_eq] at hrt
          exact ⟨l[k].name.toNat,by omega,by omega,by omega⟩
        obtain ⟨nm,hnm,hn1,hn4⟩ := hnm
        unfold stepS at hst
        generalize l[k] = x at *
        generalize hg1 : gapN I x.fid x.fb = g1 at *
        generalize hg2 : gapN I x.tid x.tb = g2 at *
        obtain ⟨gf,bf⟩ := g1
        obtain ⟨gt,bt⟩ := g2
        obtain ⟨xc,xa,⟨x1,x2⟩,xb,⟨x3,x4⟩,xd,xn,xv⟩ := x
        simp only [mkC,ancC] at hld hgf hgt
        simp only [] at hst hnm
        subst hnm
        simp (disch := omega) only [↓aI,↓zP,aD,zD,aS,simprocAttr,Tryz.facts,s5,s8,s29,s30,s31,zA,hld,hle',hll]
        intro b10 hb100 hb10
        simp (disch := omega) only [↓aI,↓zP,aD,zD,aS,simprocAttr,Tryz.facts,s5,s8,s29,s30,s31,zA,aj hb10,ah]
        refine CallK.i (hgf _ vp) ?_
        rintro v E3 ⟨rfl,rfl⟩
        simp (disch := omega) only [↓aI,↓zP,aD,zD,aS,simprocAttr,Tryz.facts,s5,s8,s29,s30,s31,ah]
        refine CallK.i (hgt _ vp) ?_
        rintro v E3 ⟨rfl,rfl⟩
        cases bf
        · simp (disch := omega) only [↓aI,↓zP,aD,zD,aS,simprocAttr,Tryz.facts,s5,s8,s29,s30,s31,ah]
          have hst0 : F (k + 1) = F k := by rw [hst]; funext i n; rw [if_neg (by simp)]
          refine ⟨mm - 1,by omega,k + 1,by omega,hsub,vp,?_,?_⟩
          · rw [hst0]; exact vk
          · simp (disch := omega) only [↓aI,↓zP,aD,zD,aS,simprocAttr,Tryz.facts]
        cases bt
        · simp (disch := omega) only [↓aI,↓zP,aD,zD,aS,simprocAttr,Tryz.facts,s5,s8,s29,s30,s31,ah]
          have hst0 : F (k + 1) = F k := by rw [hst]; funext i n; rw [if_neg (by simp)]
          refine ⟨mm - 1,by omega,k + 1,by omega,hsub,vp,?_,?_⟩
          · rw [hst0]; exact vk
          · simp (disch := omega) only [↓aI,↓zP,aD,zD,aS,simprocAttr,Tryz.facts]
        · simp (disch := omega) only [↓aI,↓zP,aD,zD,aS,simprocAttr,Tryz.facts,s5,s8,s29,s30,s31,ah]
          simp only [true_and] at hst
          refine br (c := ⟨Tryz.prog,81,[(17,[0,0,0,1,0,1,0,0,2]),(1000001,[5]),(1000004,[7]),(1000009,[10]),(4000017,[5,8,10,11,13,29,30,31,56,57]),(4000016,[5,8,10,11,13,15,29,30,31,56,57,69]),(4000012,[5,8,10,11,13,29,30,31,54]),(4000011,[5,8,10,11,12,13,14,29,30,31]),(4000010,[5,8,10,11,12,29,30,31])],[],[]⟩) Tryz.mixed (by kernel_rfl) (fun m2 σ2 H2 => ∃ i : Nat,i + m2 = I.length ∧ Abs.Sub H H2 ∧ H2 pm = some (.map (bP I (idxA I))) ∧ H2 ks = some (.cells (tabC I.length (fun a b => if a < i then F (k + 1) a b else F k a b)) 97 5) ∧ σ2 5 = .ip [.mp pm] 0 ∧ σ2 8 = .own ks 0 I.length ∧ σ2 10 = .ip [.sc (.int .i64 xc),.sc (.int .i64 xa),.sc (.int .i64 x1),.sc (.int .i64 x2),.sc (.bool xb),.sc (.int .i64 x3),.sc (.int .i64 x4),.sc (.bool xd),.sc (.int .i64 (nm : Nat)),.sc (.int .i64 xv)] 0 ∧ σ2 11 = .sc (.int .i64 gf) ∧ σ2 13 = .sc (.int .i64 gt) ∧ σ2 29 = eM l ∧ σ2 30 = .sc (.int .i64 l.length) ∧ σ2 31 = .sc (.int .i64 (k : Nat)) ∧ σ2 56 = .sc (.int .i64 I.length) ∧ σ2 57 = .sc (.int .i64 (i : Nat))) I.length ?_ ?_
          · refine ⟨0,by omega,hsub,vp,?_,?_⟩
            · simp only [Nat.not_lt_zero,if_false]; exact vk
            · simp (disch := omega) only [↓aI,↓zP,aD,zD,aS,simprocAttr,Tryz.facts,s5,s8,s29,s30,s31,ah]
          · rintro m2 σ2 H2 ⟨i,him,hsub2,vp2,vk2,z5,z8,z10,z11,z13,z29,z30,z31,z56,z57⟩
            by_cases hi2 : i < I.length
            · have vk3 := vk2
              have hrl : (cQ ⟨xc,xa,(x1,x2),xb,(x3,x4),xd,(nm : Int),xv⟩) = true := hrt
              have htp := tabC_put (N := I.length) (f := fun a b => if a < i then F (k + 1) a b else F k a b) (v := xv) hi2 (show nm < 5 by omega)
              have hnx : ∀ a b,(if a < i + 1 then F (k + 1) a b else F k a b) = if (gf ≤ 2 * (i : Int) ∧ 2 * (i : Int) < gt) ∧ a = i ∧ b = nm then xv else if a < i then F (k + 1) a b else F k a b := fun a b => by
                by_cases ha : a = i
                · subst ha
                  rw [if_pos (by omega),if_neg (show ¬ a < a by omega),hst]
                  simp only [true_and]
                  by_cases hb : b = nm
                  · subst hb; simp
                  · rw [if_neg (by omega),if_neg (by omega)]
                · by_cases h2 : a < i
                  · rw [if_pos (by omega),if_neg (by omega),if_pos h2]
                  · rw [if_neg (by omega),if_neg (by omega),if_neg h2]
              by_cases hin : gf ≤ 2 * (i : Int) ∧ 2 * (i : Int) < gt
              · obtain ⟨hin2,hin3⟩ := hin
                have hnx2 : (fun a b => if a < i + 1 then F (k + 1) a b else F k a b) = fun a b => if a = i ∧ b = nm then xv else if a < i then F (k + 1) a b else F k a b := by
                  funext a b
                  rw [hnx]
                  simp [hin2,hin3]
                have hTl := tabC_length I.length (fun a b => if a < i then F (k + 1) a b else F k a b)
                generalize hT : tabC I.length (fun a b => if a < i then F (k + 1) a b else F k a b) = T at *
                have hb1 : i * 5 + nm + 1 ≤ I.length * 5 := by omega
                simp (disch := omega) only [↓aI,↓zP,aD,zD,aS,simprocAttr,Tryz.facts,z5,z8,z10,z11,z13,z29,z30,z31,z56,z57,zA,vk2,hTl,hb1]
                rw [htp]
                refine ⟨m2 - 1,by omega,i + 1,by omega,fun x ox hx => ?_,?_,?_,rfl⟩
                · rw [aP (fun e => by rw [e,hksH] at hx; cases hx)]
                  exact hsub2 x ox hx
                · rw [aP n5]; exact vp2
                · rw [hnx2]
              · have hin2 : ¬ gf ≤ 2 * (i : Int) ∨ (gf ≤ 2 * (i : Int) ∧ ¬ 2 * (i : Int) < gt) := by omega
                rcases hin2 with hin2 | ⟨hin2,hin3⟩
                all_goals
                  simp (disch := omega) only [↓aI,↓zP,aD,zD,aS,simprocAttr,Tryz.facts,z5,z8,z10,z11,z13,z29,z30,z31,z56,z57,zA]
                  refine ⟨m2 - 1,by omega,i + 1,by omega,hsub2,vp2,?_,rfl⟩
                  rw [vk2]
                  congr 2
                  refine tabC_congr fun a b _ _ => ?_
                  rw [hnx,if_neg (show ¬ ((gf ≤ 2 * (i : Int) ∧ 2 * (i : Int) < gt) ∧ a = i ∧ b = nm) by omega)]
            · obtain rfl : i = I.length := by omega
              simp (disch := omega) only [↓aI,↓zP,aD,zD,aS,simprocAttr,Tryz.facts,z5,z8,z10,z11,z13,z29,z30,z31,z56,z57,zA]
              refine ⟨mm - 1,by omega,k + 1,by omega,hsub2,vp2,?_,?_⟩
              · rw [vk2]
                congr 2
                exact tabC_congr fun i j hi _ => if_pos hi
              · simp (disch := omega) only [↓aI,↓zP,aD,zD,aS,simprocAttr,Tryz.facts]
      · obtain rfl : k = l.length := by omega
        simp (disch := omega) only [↓aI,↓zP,aD,zD,aS,simprocAttr,Tryz.facts,s5,s8,s29,s30,s31,zA]
        exact ⟨_,rfl,_,Abs.Sub.refl _,ks,by rw [hil],hksH,by rw [hil] at vk ⊢; exact vk,hsub⟩
  · intro _ _ _ _ hf
    exact hf.elim
end Go.Proofs.YtcgjlmopeblapaaGreat
end
