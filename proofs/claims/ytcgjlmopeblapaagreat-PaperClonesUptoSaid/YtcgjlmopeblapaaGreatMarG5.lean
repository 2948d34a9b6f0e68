/-
  Several texts in one: each says what it proves.
  Conditions: none. Lemmas only.
-/
import Derived.Test.YtcgjlmopeblapaaGreatMarG4
set_option linter.all false
section
set_option linter.unusedSimpArgs false
set_option linter.unusedVariables false
set_option maxRecDepth 8000
set_option maxHeartbeats 4000000
namespace Go.Proofs.YtcgjlmopeblapaaGreat
open Go Go.Abs Go.Proofs Go.Fug
theorem styles_gen (H : AH) (bv tv : AV) (l : List Mk) (ns : List Nd) (cap : List AV) (Res : AH → Prop) (src : Src H bv tv l ns cap Res) :
    ACalls Tryz.prog 81 [bv,tv] H fun v H' => v = .imm 0 (tabC ns.length (styF (idsNd ns) l)) ns.length ∧ H' = H := (styles_own H bv tv l ns cap Res src).freeze (by
  rintro v H' ⟨k',rfl,hk',hc,hs⟩
  refine ⟨_,H,hs,Frz.own hc hk' (by rw [tabC_length]; exact Nat.le_refl _),?_,rfl⟩
  rw [List.take_of_length_le (by rw [tabC_length]; exact Nat.le_refl _)])
theorem src_live (H : AH) (hb : Nat) (l : List Mk) (hi : H hb = some (ce l)) (g : GoodM l) (h m : Nat) (L : List Ins) (G : List EId) (t : IsT H h m L G) :
    Src H (.ptr hb 0) (.ptr h 0) l (bF L G) [.ip [.ptr h 0] 0] (fun Hc => IsT Hc h m L G) where
  sb := strip_ptr _ _
  st := strip_ptr _ _
  g := g
  nd := nodes_nodup t.g G
  small := by rw [nodes_len t.g G]; exact t.small
  al := fun H' => all_live H' h
  it := all_iterP h m L G t.g t.small
  res := fun H' hs => t.mono hs
  li := fun H' hs => list_live H' hb l (hs _ _ hi) g.small
theorem gap_there (ns : List Nd) (x : EId) (b : Bool) : (gapN (idsNd ns) x b).2 = thereN ns x := by
  unfold gapN thereN posN
  by_cases h : x = bL
  · simp [h]
  · rw [if_neg h]
    by_cases h2 : x ∈ idsNd ns
    · simp only [h2,if_true,h,decide_false,Bool.false_or]
      rw [decide_eq_true (by omega)]
    · simp [h2,h]
theorem gap_ahead (ns : List Nd) (x : EId) (b : Bool) (i : Nat) (hi : i < ns.length) (ht : thereN ns x = true) : (gapN (idsNd ns) x b).1 ≤ 2 * (i : Int) ↔ aheadN ns x b i = true := by
  have hl : (idsNd ns).length = ns.length := List.length_map _
  unfold thereN at ht
  unfold gapN aheadN
  unfold posN at ht ⊢
  by_cases h : x = bL
  · rw [if_pos h,if_pos h,hl]
    cases b
    · simp; omega
    · simp; omega
  · rw [if_neg h,if_neg h]
    by_cases h2 : x ∈ idsNd ns
    · simp only [h2,if_true]
      cases b
      · simp; omega
      · simp; omega
    · simp [h2,h] at ht
theorem cov_gap (ns : List Nd) (m : Mk) (i : Nat) (hi : i < ns.length) : covN ns m i = true ↔ ((gapN (idsNd ns) m.fid m.fb).2 = true ∧ (gapN (idsNd ns) m.tid m.tb).2 = true) ∧ (gapN (idsNd ns) m.fid m.fb).1 ≤ 2 * (i : Int) ∧ 2 * (i : Int) < (gapN (idsNd ns) m.tid m.tb).1 := by
  rw [gap_there,gap_there]
  unfold covN
  simp only [Bool.and_eq_true,Bool.not_eq_true']
  constructor
  · rintro ⟨h1,h2,h3,h4⟩
    refine ⟨⟨h1,h2⟩,(gap_ahead ns _ _ i hi h1).2 h3,?_⟩
    have := mt (gap_ahead ns m.tid m.tb i hi h2).1 (by rw [h4]; simp)
    omega
  · rintro ⟨⟨h1,h2⟩,h3,h4⟩
    refine ⟨h1,h2,(gap_ahead ns _ _ i hi h1).1 h3,?_⟩
    cases h : aheadN ns m.tid m.tb i with
    | false => rfl
    | true => have := (gap_ahead ns m.tid m.tb i hi h2).2 h; omega
theorem lt_new {a b : Mk} (h : ltM a b) : newM b a = true := by
  unfold ltM at h
  unfold newM
  by_cases e : b.clock = a.clock
  · rw [if_neg (fun h => h e)]; simp; omega
  · rw [if_pos e]; simp; omega
theorem style_fold (ns : List Nd) (i n : Nat) (hi : i < ns.length) : ∀ (l : List Mk) (f : Nat → Nat → Int) (b : Mk), SortM l → (∀ m ∈ l, newM m b = true) → f i n = b.value →
    (l.foldl (fun f m => stepS (idsNd ns) m f) f) i n = (l.foldl (bestF ns i (n : Int)) b).value
  | [],f,b,_,_,h => h
  | m :: l,f,b,s,hn,h => by
    have s' := List.pairwise_cons.1 s
    rw [List.foldl_cons,List.foldl_cons]
    have hc := cov_gap ns m i hi
    have hm := hn m (by simp)
    by_cases e : m.name = (n : Int) ∧ covN ns m i = true ∧ newM m b = true
    · obtain ⟨e1,e2,e3⟩ := e
      refine style_fold ns i n hi l _ _ s'.2 (fun x hx => ?_) ?_
      · unfold bestF; rw [if_pos ⟨e1,e2,e3⟩]; exact lt_new (s'.1 x hx)
      · unfold bestF stepS; rw [if_pos ⟨(hc.1 e2).1,e1.symm,(hc.1 e2).2⟩,if_pos ⟨e1,e2,e3⟩]
    · refine style_fold ns i n hi l _ _ s'.2 (fun x hx => ?_) ?_
      · unfold bestF; rw [if_neg e]; exact hn x (by simp [hx])
      · unfold bestF stepS; rw [if_neg (fun h2 => e ⟨h2.2.1.symm,hc.2 ⟨h2.1,h2.2.2⟩,hm⟩),if_neg e]; exact h
theorem sty_best (ns : List Nd) (l : List Mk) (g : GoodM l) (i n : Nat) (hi : i < ns.length) : styF (idsNd ns) l i n = (bestN ns l i (n : Int)).value :=
  style_fold ns i n hi l _ _ g.sort (fun m hm => by
    have := g.ok m hm
    unfold cQ at this
    simp only [Bool.and_eq_true,decide_eq_true_eq] at this
    unfold newM zeroMk
    simp only []
    rw [if_pos (by omega)]
    simp
    omega) rfl
theorem best_zero (ns : List Nd) (l : List Mk) (g : GoodM l) (i : Nat) : (bestN ns l i 0).value = 0 := by
  have h : ∀ (l : List Mk) (b : Mk),(∀ m ∈ l,cQ m = true) → l.foldl (bestF ns i 0) b = b := by
    intro l
    induction l with
    | nil => intro b _; rfl
    | cons m l ih =>
      intro b hok
      rw [List.foldl_cons]
      have hm := hok m (by simp)
      unfold cQ at hm
      simp only [Bool.and_eq_true,decide_eq_true_eq] at hm
      have : bestF ns i 0 b m = b := by
        unfold bestF
        rw [if_neg (by omega)]
      rw [this]
      exact ih b fun x hx => hok x (by simp [hx])
  unfold bestN
  rw [h l _ g.ok]
  rfl
theorem tab_style (ns : List Nd) (l : List Mk) (g : GoodM l) {i : Nat} (hi : i < ns.length) : ((tabC ns.length (styF (idsNd ns) l)).drop (i * 5)).take 5 = styD ns l i := by
  have hs := fun n => sty_best ns l g i n hi
  have h0 := best_zero ns l g i
  rw [tabC_load hi,hs,hs,hs,hs,hs]
  rw [show ((0 : Nat) : Int) = 0 from rfl,h0]
  rfl
end Go.Proofs.YtcgjlmopeblapaaGreat
end
section
set_option linter.unusedSimpArgs false
set_option linter.unusedVariables false
set_option maxRecDepth 8000
set_option maxHeartbeats 4000000
namespace Go.Proofs.YtcgjlmopeblapaaGreat
open Go Go.Abs Go.Proofs Go.Fug
abbrev Sty := Int × Int × Int × Int
structure Rn where
  txt : List UInt8
  s : Sty
deriving DecidableEq
def strR (t : List UInt8) : AV := .sc (.string ⟨t.toArray⟩)
def rnC (r : Rn) : List AV := [strR r.txt,.sc (.int .i64 0),.sc (.int .i64 r.s.1),.sc (.int .i64 r.s.2.1),.sc (.int .i64 r.s.2.2.1),.sc (.int .i64 r.s.2.2.2)]
def rnsC (l : List Rn) : List AV := l.flatMap rnC
abbrev rnsV (l : List Rn) : AV := .imm 0 (rnsC l) l.length
theorem rnC_len (r : Rn) : (rnC r).length = 6 := rfl
theorem rnsC_length (l : List Rn) : (rnsC l).length = l.length * 6 := by
  induction l with
  | nil => rfl
  | cons t r ih => simp only [rnsC,List.flatMap_cons,List.length_append,List.length_cons] at *; rw [ih,rnC_len]; omega
theorem rnsC_append (l r : List Rn) : rnsC (l ++ r) = rnsC l ++ rnsC r := by simp [rnsC]
theorem rnsC_cut (l : List Rn) (i : Nat) (h : i ≤ l.length) : (rnsC l).take (i * 6) = rnsC (l.take i) ∧ (rnsC l).drop (i * 6) = rnsC (l.drop i) := by
  have e : rnsC l = rnsC (l.take i) ++ rnsC (l.drop i) := by rw [← rnsC_append,List.take_append_drop]
  have e2 : (rnsC (l.take i)).length = i * 6 := by rw [rnsC_length,List.length_take]; congr 1; omega
  rw [e]
  exact ⟨List.take_left' e2,List.drop_left' e2⟩
theorem rnsC_load {l : List Rn} {i : Nat} (h : i < l.length) : ((rnsC l).drop (i * 6)).take 6 = rnC l[i] := by
  rw [(rnsC_cut l i (by omega)).2,List.drop_eq_getElem_cons h]
  show (rnC l[i] ++ rnsC _).take 6 = _
  exact List.take_left' rfl
theorem str_inj {a b : List UInt8} : ((⟨a.toArray⟩ : ByteArray) == ⟨b.toArray⟩) = decide (a = b) := by
  rw [ba_beq,Bool.eq_iff_iff]
  simp
theorem eq_run (a b : ByteArray) (a1 a2 a3 a4 a5 b1 b2 b3 b4 b5 : Int) : eqG Tryz.prog 6 99 (.agg [.sc (.string a),.sc (.int .i64 a1),.sc (.int .i64 a2),.sc (.int .i64 a3),.sc (.int .i64 a4),.sc (.int .i64 a5)]) (.agg [.sc (.string b),.sc (.int .i64 b1),.sc (.int .i64 b2),.sc (.int .i64 b3),.sc (.int .i64 b4),.sc (.int .i64 b5)]) = some ((a == b) && (((a1 == b1) && ((a2 == b2) && ((a3 == b3) && ((a4 == b4) && ((a5 == b5) && true))))) && true)) := by kernel_rfl
def rnEq (x y : Rn) : Bool := (⟨x.txt.toArray⟩ : ByteArray) == ⟨y.txt.toArray⟩ && (x.s.1 == y.s.1 && (x.s.2.1 == y.s.2.1 && (x.s.2.2.1 == y.s.2.2.1 && x.s.2.2.2 == y.s.2.2.2)))
theorem rnEq_iff {x y : Rn} : rnEq x y = true ↔ x = y := by
  obtain ⟨xt,xa,xb,xc,xd⟩ := x
  obtain ⟨yt,ya,yb,yc,yd⟩ := y
  simp only [rnEq,str_inj,Bool.and_eq_true,beq_iff_eq,decide_eq_true_eq,Rn.mk.injEq,Prod.mk.injEq,and_assoc]
theorem rsame_pure (l r : List Rn) (hl : l.length ≤ 100000) (hr : r.length ≤ 100000) : APure Tryz.prog 20 [rnsV l,rnsV r] (.sc (.bool (decide (l = r)))) := by
  have hil := rnsC_length l
  have hir := rnsC_length r
  have hqr := eq_run
  by_cases hlen : l.length = r.length
  · have hB : ∀ b : Bool, (b = true ↔ l = r) → decide (l = r) = b := fun b h => by
      cases b with
      | true => simpa using h
      | false => simpa using h
    generalize decide (l = r) = B at *
    refine az (c := ⟨Tryz.prog,26,[(6,[0,0,0,1,0,0,0,1,0])],[],[]⟩) (rs := [ResultVar.tmp 4]) Tryz.mixed Tryz.func20 rfl rfl rfl (Nat.le_of_ble_eq_true rfl) (by kernel_rfl) fun H => ?_
    simp (disch := omega) only [↓aI,↓zP,aD,zD,aS,simprocAttr,Tryz.facts,zA]
    refine br (c := ⟨Tryz.prog,26,[(6,[0,0,0,1,0,0,0,1,0])],[],[]⟩) Tryz.mixed (by kernel_rfl) (fun mm σ H' => H' = H ∧ ∃ i,i + mm = l.length ∧ (∀ j (hj : j < l.length) (hj2 : j < r.length),j < i → l[j] = r[j]) ∧ σ 0 = rnsV l ∧ σ 1 = rnsV r ∧ σ 5 = .sc (.int .i64 (i : Nat))) l.length ?_ ?_
    · refine ⟨rfl,0,by omega,by omega,?_⟩
      simp (disch := omega) only [↓aI,↓zP,aD,zD,aS,simprocAttr,Tryz.facts]
      try rfl
    · rintro mm σ H' ⟨rfl,i,him,hyes,h0,h1,h5⟩
      by_cases hlt : i < l.length
      · have hltr : i < r.length := by omega
        have hld := rnsC_load hlt
        have hle' : i * 6 + 6 ≤ l.length * 6 := by omega
        have hldr := rnsC_load hltr
        have hler : i * 6 + 6 ≤ r.length * 6 := by omega
        have hnx : l[i] = r[i] → ∀ j (hj : j < l.length) (hj2 : j < r.length),j < i + 1 → l[j] = r[j] := fun h j hj hj2 hji => by
          by_cases e : j = i
          · subst e; exact h
          · exact hyes j hj hj2 (by omega)
        have hno : ¬ l[i] = r[i] → ¬ l = r := fun h e => h (by subst e; rfl)
        have hq : ∀ b : Bool,(b = true ↔ l[i] = r[i]) → rnEq l[i] r[i] = b := fun b h => Bool.eq_iff_iff.2 (rnEq_iff.trans h.symm)
        generalize l[i] = x at *
        generalize r[i] = y at *
        by_cases e : x = y
        · have hq1 := hq true (by simp [e])
          clear hno
          obtain ⟨xt,xa,xb,xc,xd⟩ := x
          obtain ⟨yt,ya,yb,yc,yd⟩ := y
          simp only [rnC,strR] at hld hldr
          unfold rnEq at hq1
          simp only [] at hq1
          simp (disch := omega) only [↓aI,↓zP,aD,zD,aS,simprocAttr,Tryz.facts,h0,h1,h5,zA,hld,hldr,hil,hir,hle',hler,hqr,hq1,beq_self_eq_true,Bool.true_and]
          exact ⟨mm - 1,by omega,i + 1,by omega,hnx e,rfl⟩
        · have hq1 := hq false (by simp [e])
          obtain rfl := hB false (by simp only [Bool.false_eq_true,false_iff]; exact hno e)
          obtain ⟨xt,xa,xb,xc,xd⟩ := x
          obtain ⟨yt,ya,yb,yc,yd⟩ := y
          simp only [rnC,strR] at hld hldr
          unfold rnEq at hq1
          simp only [] at hq1
          simp (disch := omega) only [↓aI,↓zP,aD,zD,aS,simprocAttr,Tryz.facts,h0,h1,h5,zA,hld,hldr,hil,hir,hle',hler,hqr,hq1,beq_self_eq_true,Bool.true_and]
          exact Abs.Sub.refl _
      · obtain rfl := hB true (by
          simp only [true_iff]
          exact List.ext_getElem hlen fun j h1 h2 => hyes j h1 h2 (by omega))
        simp (disch := omega) only [↓aI,↓zP,aD,zD,aS,simprocAttr,Tryz.facts,h0,h1,h5,zA,hil,hir]
        exact Abs.Sub.refl _
  · have hne : decide (l = r) = false := by
      simp only [decide_eq_false_iff_not]
      rintro rfl
      exact hlen rfl
    rw [hne]
    refine az (c := ⟨Tryz.prog,26,[(6,[0,0,0,1,0,0,0,1,0])],[],[]⟩) (rs := [ResultVar.tmp 4]) Tryz.mixed Tryz.func20 rfl rfl rfl (Nat.le_of_ble_eq_true rfl) (by kernel_rfl) fun H => ?_
    simp (disch := omega) only [↓aI,↓zP,aD,zD,aS,simprocAttr,Tryz.facts,zA]
    exact Abs.Sub.refl _
end Go.Proofs.YtcgjlmopeblapaaGreat
end
section
set_option linter.unusedSimpArgs false
set_option linter.unusedVariables false
set_option maxRecDepth 8000
set_option maxHeartbeats 4000000
namespace Go.Proofs.YtcgjlmopeblapaaGreat
open Go Go.Abs Go.Proofs Go.Fug
def runS (sty : Nat → Sty) (R : List Rn) (q : Nat × Nd) : List Rn :=
  if q.2.gone = true then R else match R with
    | [] => [⟨dQ q.2.rune,sty q.1⟩]
    | r :: R' => if r.s = sty q.1 then ⟨r.txt ++ dQ q.2.rune,r.s⟩ :: R' else ⟨dQ q.2.rune,sty q.1⟩ :: r :: R'
def runsR (sty : Nat → Sty) (xs : List (Nat × Nd)) : List Rn := xs.foldl (runS sty) []
theorem runsR_snoc (sty : Nat → Sty) (xs : List (Nat × Nd)) (q : Nat × Nd) : runsR sty (xs ++ [q]) = runS sty (runsR sty xs) q := by
  unfold runsR
  rw [List.foldl_append]
  rfl
theorem runS_len (sty : Nat → Sty) (R : List Rn) (q : Nat × Nd) : (runS sty R q).length ≤ R.length + 1 := by
  unfold runS
  split
  · omega
  · split
    · simp
    · split
      · simp
      · simp
theorem runsR_len (sty : Nat → Sty) (xs : List (Nat × Nd)) : (runsR sty xs).length ≤ xs.length := by
  have h : ∀ (xs : List (Nat × Nd)) R,(xs.foldl (runS sty) R).length ≤ R.length + xs.length := by
    intro xs
    induction xs with
    | nil => intro R; simp
    | cons q xs ih =>
      intro R
      rw [List.foldl_cons]
      have := ih (runS sty R q)
      have := runS_len sty R q
      simp only [List.length_cons]
      omega
  have := h xs []
  simpa [runsR] using this
def TxtLe (N : Nat) (R : List Rn) : Prop := ∀ r ∈ R,r.txt.length ≤ N
theorem runS_txt (sty : Nat → Sty) {N : Nat} {R : List Rn} (h : TxtLe N R) (q : Nat × Nd) : TxtLe (N + 4) (runS sty R q) := by
  have h4 := runeB_len q.2.rune
  have h' : TxtLe (N + 4) R := fun r hr => by have := h r hr; omega
  unfold runS
  split
  · exact h'
  · split
    · intro r hr; simp only [List.mem_singleton] at hr; subst hr; simp only []; omega
    · rename_i r0 R'
      split
      · intro r hr
        simp only [List.mem_cons] at hr
        rcases hr with rfl | hr
        · have := h r0 (by simp)
          simp only [List.length_append]
          omega
        · exact h' r (by simp [hr])
      · intro r hr
        simp only [List.mem_cons] at hr
        rcases hr with rfl | hr
        · simp only []; omega
        · exact h' r (by simp [hr])
theorem runsR_txt (sty : Nat → Sty) (xs : List (Nat × Nd)) : TxtLe (4 * xs.length) (runsR sty xs) := by
  have h : ∀ (xs : List (Nat × Nd)) R N,TxtLe N R → TxtLe (N + 4 * xs.length) (xs.foldl (runS sty) R) := by
    intro xs
    induction xs with
    | nil => intro R N h; exact h
    | cons q xs ih =>
      intro R N h
      rw [List.foldl_cons]
      have := ih _ _ (runS_txt sty h q)
      have e : N + 4 * (q :: xs).length = N + 4 + 4 * xs.length := by simp only [List.length_cons]; omega
      rw [e]
      exact this
  have := h xs [] 0 (by intro r hr; cases hr)
  simpa [runsR] using this
theorem rns_last (r : Rn) (R : List Rn) : rnsC (r :: R).reverse = rnsC R.reverse ++ rnC r := by
  rw [List.reverse_cons,rnsC_append]
  simp [rnsC]
theorem rns_revlen (R : List Rn) : (rnsC R.reverse).length = R.length * 6 := by rw [rnsC_length,List.length_reverse]
theorem rns_sty (r : Rn) (R : List Rn) : ((rnsC (r :: R).reverse).drop (R.length * 6 + 1)).take 5 = styC r.s.1 r.s.2.1 r.s.2.2.1 r.s.2.2.2 := by
  rw [rns_last,← rns_revlen,← List.drop_drop,List.drop_left]
  rfl
theorem rns_txt (r : Rn) (R : List Rn) : (rnsC (r :: R).reverse)[R.length * 6]? = some (strR r.txt) := by
  rw [rns_last,List.getElem?_append_right (by rw [rns_revlen]; exact Nat.le_refl _),rns_revlen,Nat.sub_self]
  rfl
theorem rns_put (r : Rn) (R : List Rn) (t : List UInt8) : bG (rnsC (r :: R).reverse) (R.length * 6) [strR t] = rnsC ((⟨t,r.s⟩ : Rn) :: R).reverse := by
  rw [rns_last,rns_last]
  have e : rnsC R.reverse ++ rnC r = rnsC R.reverse ++ [strR r.txt] ++ styC r.s.1 r.s.2.1 r.s.2.2.1 r.s.2.2.2 := by simp [rnC,styC]
  rw [e,put_mid (B := [strR r.txt]) (V := [strR t]) rfl (rns_revlen R).symm]
  simp [rnC,styC]
def styEq (x y : Sty) : Bool := x.1 == y.1 && (x.2.1 == y.2.1 && (x.2.2.1 == y.2.2.1 && x.2.2.2 == y.2.2.2))
theorem styEq_iff {x y : Sty} : styEq x y = true ↔ x = y := by
  obtain ⟨xa,xb,xc,xd⟩ := x
  obtain ⟨ya,yb,yc,yd⟩ := y
  simp only [styEq,Bool.and_eq_true,beq_iff_eq,Prod.mk.injEq,and_assoc]
def styN (ns : List Nd) (l : List Mk) (i : Nat) : Sty := ((bestN ns l i 1).value,(bestN ns l i 2).value,(bestN ns l i 3).value,(bestN ns l i 4).value)
def runsN (ns : List Nd) (l : List Mk) : List Rn := (runsR (styN ns l) (ixd 0 ns)).reverse
def OutH (H : AH) (b : Nat) (R : List Rn) (Hu : AH) : Prop :=
  (R = [] ∧ Hu = H.set b (.cells [.sc (.slice none 0 0)] 46 1)) ∨
  (R ≠ [] ∧ ∃ k,k ≠ 0 ∧ H k = none ∧ ¬ k = b ∧ Hu = (H.set b (.cells [.own k 0 R.length] 46 1)).set k (.cells (rnsC R.reverse) 99 6))
theorem frame_own {H Hu H1 H2 : AH} {b kk k' : Nat} {c1 o' : AObj} (hu : ∀ y, ¬ y = b → ¬ y = kk → Hu y = H y) (hub : Hu b ≠ none) (hkk : H kk = none) (hs : Abs.Sub Hu H1) (hq : ∀ q oq, H1 q = some oq → Hu q = none → ¬ q = k' ∧ ¬ q = kk)
    (hb2 : H2 b = some c1) (hk2 : H2 k' = some o') (hkb : ¬ k' = b) (h2 : ∀ y,¬ y = b → ¬ y = kk → ¬ y = k' → H2 y = H1 y) : bX Hu H1 ((H.set b c1).set k' o') H2 := by
  refine ⟨fun x ox hx => ?_,fun q oq h1 h3 => ?_⟩
  · by_cases e1 : x = k'
    · subst e1; rw [set_get] at hx; rw [hk2]; exact hx
    · rw [aP e1] at hx
      by_cases e2 : x = b
      · subst e2; rw [set_get] at hx; rw [hb2]; exact hx
      · rw [aP e2] at hx
        have e3 := bA hx hkk
        rw [h2 x e2 e3 e1]
        exact hs x ox (by rw [hu x e2 e3]; exact hx)
  · obtain ⟨e1,e3⟩ := hq q oq h1 h3
    have e2 : ¬ q = b := fun e => hub (by rw [← e]; exact h3)
    refine ⟨by rw [h2 q e2 e3 e1]; exact h1,?_⟩
    rw [aP e1,aP e2,← hu q e2 e3]
    exact h3
theorem frame_same {Hu H1 : AH} (hs : Abs.Sub Hu H1) : bX Hu H1 Hu H1 := ⟨hs,fun _ _ h1 h2 => ⟨h1,h2⟩⟩
theorem runs_gen (H : AH) (bv tv : AV) (l : List Mk) (ns : List Nd) (cap : List AV) (Res : AH → Prop) (src : Src H bv tv l ns cap Res) :
    ACalls Tryz.prog 52 [bv,tv] H fun v H' => v = rnsV (runsN ns l) ∧ H' = H := by
  have hst := styles_gen H bv tv l ns cap Res src
  have hsb := src.sb
  have hsv := src.st
  have hnl5 := src.small
  have hal := src.al
  have hit := src.it
  have hres := src.res
  have g := src.g
  have htab := fun i (hi : i < ns.length) => tab_style ns l g hi
  have htl := tabC_length ns.length (styF (idsNd ns) l)
  have hR : ∀ i,styD ns l i = styC (styN ns l i).1 (styN ns l i).2.1 (styN ns l i).2.2.1 (styN ns l i).2.2.2 := fun _ => rfl
  unfold runsN
  simp only [hR] at htab
  clear hR
  generalize styN ns l = sty at *
  generalize tabC ns.length (styF (idsNd ns) l) = T at *
  refine ACalls.freeze (R := fun v H' => (runsR sty (ixd 0 ns) = [] ∧ v = rnsV [] ∧ H' = H) ∨ ∃ k,v = .own k 0 (runsR sty (ixd 0 ns)).length ∧ H k = none ∧ H' k = some (.cells (rnsC (runsR sty (ixd 0 ns)).reverse) 99 6) ∧ Abs.Sub H H') ?_ ?_
  · clear src
    refine ao (c := ⟨Tryz.prog,57,[(7,[1,1,0,0,1,1,1,0,0,0,1,1,0,0,1,0,0]),(8,[1,1,0,0,1,0,0,2,2]),(9,[1,1,1,0,0,0,1,0,1,0,0,0,0,2]),(1000001,[5]),(1000005,[8])],[1000042],[]⟩) (rs := [ResultVar.tmp 4]) Tryz.mixed Tryz.func52 rfl rfl rfl (Nat.le_of_ble_eq_true rfl) (by kernel_rfl) ?_
    simp (disch := omega) only [↓aI,↓zP,aD,zD,aS,simprocAttr,Tryz.facts,hsb,hsv]
    refine CallK.i hst ?_
    rintro v E ⟨rfl,rfl⟩
    simp (disch := omega) only [↓aI,↓zP,aD,zD,aS,simprocAttr,Tryz.facts,hsb,hsv]
    intro b5 hb50 hb5 b6 hb60 hb6
    simp (disch := omega) only [↓aI,↓zP,aD,zD,aS,simprocAttr,Tryz.facts,aj hb5,ah,hsb,hsv]
    rw [aj hb5] at hb6
    refine CallK.i (hal _) ?_
    rintro v E2 ⟨rfl,rfl⟩
    try simp (disch := omega) only [↓aI,↓zP,aD,zD,aS,simprocAttr,Tryz.facts]
    refine range_p Tryz.mixed (by simp (disch := omega) only [↓aI,↓zP,aD,zD,aS,simprocAttr,Tryz.facts]) (by kernel_rfl) (fun _ => rfl) hit
      (fun pre Hu => pre.length ≤ ns.length ∧ OutH E b6 (runsR sty pre) Hu) (fun _ _ _ => False) ?_ ?_ ?_ ?_ ?_
    · rintro pre Hu H' ⟨-,⟨-,rfl⟩ | ⟨-,k,hk0,hk,hkb,rfl⟩⟩ hs
      · exact hres _ ((Sub.set_new hb6).trans hs)
      · exact hres _ (((Sub.set_new hb6).trans (Sub.set_new (by rw [aP hkb]; exact hk))).trans hs)
    · exact ⟨by simp,.inl ⟨rfl,rfl⟩⟩
    · rintro pre ⟨q,x⟩ Hu H1 ⟨hpl,ho⟩ hs ⟨r,hr⟩
      obtain ⟨hlt,hx⟩ := ixd_split hr
      simp only [Prod.mk.injEq] at hx
      obtain ⟨rfl,hx⟩ := hx
      have hpl2 : (pre ++ [(pre.length,x)]).length = pre.length + 1 := by simp
      have hsn := runsR_snoc sty pre (pre.length,x)
      have htx := runsR_txt sty pre
      have hrl := runsR_len sty pre
      have htb := htab _ hlt
      have htle : pre.length * 5 + 5 ≤ T.length := by rw [htl]; omega
      have hlen : (runsR sty (pre ++ [(pre.length,x)])).length ≤ 4096 := by
        have := runsR_len sty (pre ++ [(pre.length,x)])
        omega
      clear hx hr
      generalize hN : ns.length = N at *
      generalize hR2 : runsR sty (pre ++ [(pre.length,x)]) = R2 at *
      generalize runsR sty pre = R at *
      generalize hi0 : pre.length = i at *
      replace htle : i * 5 + 5 ≤ N * 5 := by omega
      obtain ⟨⟨x1,x2⟩,xu,xg⟩ := x
      unfold runS at hsn
      simp only [] at hsn
      change cwp _ _ _ (Sg.put (Sg.put _ (some 14) (.sc (.int .i64 (i : Nat)))) (some 15) (.agg [.sc (.int .i64 x1),.sc (.int .i64 x2),.sc (.int .i32 xu),.sc (.bool xg)])) _
      simp (disch := omega) only [↓aI,↓zP,aD,zD,aS,simprocAttr,Tryz.facts]
      intro b8 hb80 hb8
      have hst4 := runeB_len xu
      cases xg
      · simp only [Bool.false_eq_true,if_false] at hsn
        generalize sty i = st at *
        obtain ⟨s1,s2,s3,s4⟩ := st
        rcases ho with ⟨rfl,rfl⟩ | ⟨hne,k,hk0,hk,hkb,rfl⟩
        · have l1 : H1 b6 = some _ := hs b6 _ set_get
          simp only [] at hsn
          simp (disch := omega) only [↓aI,↓zP,aD,zD,aS,simprocAttr,Tryz.facts,aj hb8,ah,dS,l1,zA,htb,htle,htl]
          intro k' hk'0 hk'
          have n3 := bA l1 hk'
          have hc : (⟨#[]⟩ : ByteArray) ++ (⟨(dQ xu).toArray⟩ : ByteArray) = ⟨(dQ xu).toArray⟩ := by
            apply ByteArray.ext
            simp
          have hz : ((1 : Int) - 1).toNat = 0 := rfl
          have hz2 : (1 : Int) - 1 = 0 := rfl
          simp (disch := omega) only [↓aI,↓zP,aD,zD,aS,simprocAttr,Tryz.facts,aj hb8,ah,dS,l1,zA,htb,htle,htl,aP,n3,set_get,hc,hz,hz2,Nat.zero_mul]
          have hkE := am (hs.free hk')
          refine ⟨_,frame_own (H := E) (b := b6) (kk := k') (k' := k') (fun y h1 _ => aP h1) (by rw [set_get]; simp) hkE hs (fun q oq h1 _ => ⟨bA h1 hk',bA h1 hk'⟩) (by rw [aP n3,set_get]) set_get (fun e => n3 e.symm) (fun y h1 h2 _ => by rw [aP h2,aP h1,aP h2]),by omega,?_⟩
          rw [hR2,hsn]
          exact .inr ⟨by simp,k',hk'0,hkE,fun e => n3 e.symm,rfl⟩
        · obtain ⟨r, R, rfl⟩ : ∃ r R', R = r :: R' := by
            cases R with
            | nil => exact absurd rfl hne
            | cons r R' => exact ⟨r,R',rfl⟩
          have n3 : ¬ b6 = k := fun e => hkb e.symm
          have l1 : H1 b6 = some _ := hs b6 _ (by rw [aP n3]; exact set_get)
          have l2 : H1 k = some _ := hs k _ set_get
          have hgt := rns_txt r R
          have hgs := rns_sty r R
          have hpt := rns_put r R
          have hcl := rns_revlen (r :: R)
          have hrt : r.txt.length ≤ 4 * i := htx r (by simp)
          simp only [List.length_cons] at hrl hcl
          have hz : R.length + 1 - 1 = R.length := rfl
          have hc : (⟨r.txt.toArray⟩ : ByteArray) ++ (⟨(dQ xu).toArray⟩ : ByteArray) = ⟨(r.txt ++ dQ xu).toArray⟩ := by
            apply ByteArray.ext
            simp
          have hle1 : R.length * 6 + 1 + 5 ≤ (R.length + 1) * 6 := by omega
          have hlt1 : R.length * 6 < (R.length + 1) * 6 := by omega
          generalize hW : rnsC (r :: R).reverse = W at *
          obtain ⟨rt,ra,rb,rc,rd⟩ := r
          simp only [strR] at hgt hpt
          simp only [] at hrt hsn hc
          have hpt2 : W.take (R.length * 6) ++ AV.sc (.string ⟨(rt ++ dQ xu).toArray⟩) :: W.drop (R.length * 6 + 1) = rnsC ((⟨rt ++ dQ xu,(ra,rb,rc,rd)⟩ : Rn) :: R).reverse := by
            rw [← hpt,ah]
            simp
          by_cases he : ((ra,rb,rc,rd) : Sty) = (s1,s2,s3,s4)
          · have hq : (ra == s1 && (rb == s2 && (rc == s3 && rd == s4))) = true := styEq_iff.2 he
            rw [if_pos he] at hsn
            simp (disch := omega) only [↓aI,↓zP,aD,zD,aS,simprocAttr,Tryz.facts,aj hb8,ah,dS,l1,l2,zA,htb,htle,htl,aP,n3,set_get,hc,hz,hgt,hgs,hcl,hle1,hlt1,hq,beq_self_eq_true,Bool.true_and]
            refine ⟨_,frame_own (H := E) (b := b6) (kk := k) (k' := k) (fun y h1 h2 => by rw [aP h2,aP h1]) (by rw [aP n3,set_get]; simp) hk hs (fun q oq h1 h2 => ⟨fun e => (by rw [e,set_get] at h2; cases h2),fun e => (by rw [e,set_get] at h2; cases h2)⟩) (by rw [aP n3]; exact l1) set_get hkb (fun y h1 h2 _ => by rw [aP h2]),by omega,?_⟩
            rw [hR2,hsn]
            refine .inr ⟨by simp,k,hk0,hk,hkb,?_⟩
            rw [hpt2]
            rfl
          · have hq : (ra == s1 && (rb == s2 && (rc == s3 && rd == s4))) = false := by
              cases h : (ra == s1 && (rb == s2 && (rc == s3 && rd == s4))) with
              | false => rfl
              | true => exact absurd (styEq_iff (x := (ra,rb,rc,rd)) (y := (s1,s2,s3,s4)).1 h) he
            rw [if_neg he] at hsn
            have htk : W.take ((R.length + 1) * 6) = W := List.take_of_length_le (by omega)
            simp (disch := omega) only [↓aI,↓zP,aD,zD,aS,simprocAttr,Tryz.facts,aj hb8,ah,dS,l1,l2,zA,htb,htle,htl,aP,n3,set_get,hc,hz,hgt,hgs,hcl,hle1,hlt1,hq,htk,beq_self_eq_true,Bool.true_and]
            intro k' hk'
            have hk'0 : k' ≠ 0 := by
              rcases hk' with rfl | ⟨h1,-⟩
              · exact hk0
              · exact h1
            have hk'E : E k' = none := by
              rcases hk' with rfl | ⟨-,h2⟩
              · exact hk
              · exact am (am (hs.free h2))
            have n4 : ¬ b6 = k' := by
              rcases hk' with rfl | ⟨-,h2⟩
              · exact n3
              · exact bA l1 h2
            have hW2 : W ++ [.sc (.string ⟨#[]⟩),.sc (.int .i64 0),.sc (.int .i64 s1),.sc (.int .i64 s2),.sc (.int .i64 s3),.sc (.int .i64 s4)] = rnsC ((⟨[],(s1,s2,s3,s4)⟩ : Rn) :: ⟨rt,(ra,rb,rc,rd)⟩ :: R).reverse := by
              rw [rns_last,hW]
              rfl
            have hgt3 := rns_txt ⟨[],(s1,s2,s3,s4)⟩ (⟨rt,(ra,rb,rc,rd)⟩ :: R)
            have hpt3 := rns_put ⟨[],(s1,s2,s3,s4)⟩ (⟨rt,(ra,rb,rc,rd)⟩ :: R) (dQ xu)
            have hcl3 := rns_revlen ((⟨[],(s1,s2,s3,s4)⟩ : Rn) :: ⟨rt,(ra,rb,rc,rd)⟩ :: R)
            rw [← hW2] at hgt3 hpt3 hcl3
            generalize W ++ [.sc (.string ⟨#[]⟩),.sc (.int .i64 0),.sc (.int .i64 s1),.sc (.int .i64 s2),.sc (.int .i64 s3),.sc (.int .i64 s4)] = W3 at *
            simp only [strR,List.length_cons] at hgt3 hpt3 hcl3
            rw [ah] at hpt3
            simp only [List.length_cons,List.length_nil,Nat.zero_add,List.append_assoc,List.singleton_append] at hpt3
            have hc3 : (⟨#[]⟩ : ByteArray) ++ (⟨(dQ xu).toArray⟩ : ByteArray) = ⟨(dQ xu).toArray⟩ := by
              apply ByteArray.ext
              simp
            have hz3 : R.length + 1 + 1 - 1 = R.length + 1 := rfl
            have hlt3 : (R.length + 1) * 6 < (R.length + 1 + 1) * 6 := by omega
            have hle3 : (R.length + 1) * 6 + 1 ≤ (R.length + 1 + 1) * 6 := by omega
            simp (disch := omega) only [↓aI,↓zP,aD,zD,aS,simprocAttr,Tryz.facts,aj hb8,ah,dS,l1,l2,zA,htb,htle,htl,aP,bZ,n3,n4,set_get,hc3,hz3,hgt3,hcl3,hlt3,hle3]
            have hqk : ∀ q oq,H1 q = some oq → ((E.set b6 (.cells [.own k 0 (R.length + 1)] 46 1)).set k (.cells W 99 6)) q = none → ¬ q = k' ∧ ¬ q = k := fun q oq h1 h2 => by
              have e1 : ¬ q = k := fun e => (by rw [e,set_get] at h2; cases h2)
              refine ⟨fun e => ?_,e1⟩
              rcases hk' with e2 | ⟨-,h3⟩
              · exact e1 (e.trans e2)
              · rw [e,h3] at h1; cases h1
            refine ⟨_,frame_own (H := E) (b := b6) (kk := k) (k' := k') (fun y h1 h2 => by rw [aP h2,aP h1]) (by rw [aP n3,set_get]; simp) hk hs hqk (by rw [aP n4,set_get]) set_get (fun e => n4 e.symm) (fun y h1 h2 h3 => by rw [aP h3,aP h1,aP h3,bZ h2]),by omega,?_⟩
            rw [hR2,hsn]
            refine .inr ⟨by simp,k',hk'0,hk'E,fun e => n4 e.symm,?_⟩
            rw [hpt3]
            rfl
      · simp (disch := omega) only [↓aI,↓zP,aD,zD,aS,simprocAttr,Tryz.facts,aj hb8,ah,dS]
        simp only [if_true] at hsn
        subst hsn
        exact ⟨_,frame_same hs,by omega,by rw [hR2]; exact ho⟩
    · rintro xs Hu rfl ⟨-,ho⟩
      rcases ho with ⟨he,rfl⟩ | ⟨hne,k,hk0,hk,hkb,rfl⟩
      · simp (disch := omega) only [↓aI,↓zP,aD,zD,aS,simprocAttr,Tryz.facts,aP]
        exact ⟨_,rfl,E,Sub.set_new hb6,.inl ⟨he,rfl,rfl⟩⟩
      · have n3 : ¬ b6 = k := fun e => hkb e.symm
        simp (disch := omega) only [↓aI,↓zP,aD,zD,aS,simprocAttr,Tryz.facts,aP,n3]
        exact ⟨_,rfl,_,Abs.Sub.refl _,.inr ⟨k,rfl,hk,set_get,(Sub.set_new hb6).trans (Sub.set_new (by rw [aP hkb]; exact hk))⟩⟩
    · intro _ _ _ _ hf
      exact hf.elim
  · rintro v H' (⟨he,rfl,rfl⟩ | ⟨k,rfl,hk,hc,hs⟩)
    · refine ⟨_,H',Abs.Sub.refl _,Frz.same,?_,rfl⟩
      rw [he]; rfl
    · refine ⟨_,H,hs,Frz.own hc hk (by rw [rns_revlen]; exact Nat.le_refl _),?_,rfl⟩
      rw [List.take_of_length_le (by rw [rns_revlen]; exact Nat.le_refl _)]
      simp
theorem runs_own (H : AH) (hb : Nat) (l : List Mk) (hi : H hb = some (ce l)) (g : GoodM l) (h m : Nat) (L : List Ins) (G : List EId) (t : IsT H h m L G) :
    ACalls Tryz.prog 52 [.ptr hb 0,.ptr h 0] H fun v H' => v = rnsV (runsN (bF L G) l) ∧ H' = H :=
  runs_gen H _ _ l _ _ _ (src_live H hb l hi g h m L G t)
end Go.Proofs.YtcgjlmopeblapaaGreat
end
