/-
  Several texts in one: each says what it proves.
  Conditions: none. Lemmas only.
-/
import Derived.Test.YtimonfakmadhpaaPapGA
import Derived.Test.YtimonfakmadhpaaPapG9
import Derived.Test.YtimonfakmadhpaaPapGB
set_option linter.all false
section
set_option linter.unusedSimpArgs false
set_option linter.unusedVariables false
set_option maxRecDepth 8000
set_option maxHeartbeats 1000000
namespace Go.Proofs.Ytimonfakmadhpaa
open Go Go.Abs Go.Proofs Go.Fug
def stysR (R : List Rn) : List Sty := R.flatMap fun r => List.replicate (dO ⟨r.txt.toArray⟩).length r.s
theorem runesS_snoc {rs : List Int} {x : Int} (h : ∀ r ∈ rs,letO r = true) (hx : letO x = true) : (dO ⟨((rs.flatMap dQ) ++ dQ x).toArray⟩).length = (dO ⟨(rs.flatMap dQ).toArray⟩).length + 1 := by
  have e : (rs.flatMap dQ) ++ dQ x = (rs ++ [x]).flatMap dQ := by simp
  rw [e,runesS_enc (rs ++ [x]) (fun r hr => by
    rcases List.mem_append.1 hr with h1 | h1
    · exact h r h1
    · rw [List.mem_singleton.1 h1]; exact hx),runesS_enc rs h]
  simp
def OkR (R : List Rn) : Prop := ∀ r ∈ R,∃ rs : List Int,(∀ x ∈ rs,letO x = true) ∧ r.txt = rs.flatMap dQ
theorem runS_stys (sty : Nat → Sty) (q : Nat × Nd) (hq : q.2.gone = false → letO q.2.rune = true) (R : List Rn) (h : OkR R) : OkR (runS sty R q) ∧ stysR (runS sty R q).reverse = stysR R.reverse ++ if q.2.gone = true then [] else [sty q.1] := by
  unfold runS
  cases hg : q.2.gone
  · have hl := hq hg
    have h1 : (dO ⟨(dQ q.2.rune).toArray⟩).length = 1 := by
      have := runesS_enc [q.2.rune] (by simpa using hl)
      rw [List.flatMap_cons,List.flatMap_nil,List.append_nil] at this
      rw [this]
      rfl
    have hone : ∃ rs : List Int,(∀ x ∈ rs,letO x = true) ∧ dQ q.2.rune = rs.flatMap dQ := ⟨[q.2.rune],by simpa using hl,by simp⟩
    simp only [Bool.false_eq_true,if_false]
    cases R with
    | nil =>
      refine ⟨fun r hr => ?_,?_⟩
      · rw [List.mem_singleton.1 hr]; exact hone
      · simp [stysR,h1]
    | cons r R =>
      simp only
      by_cases e : r.s = sty q.1
      · rw [if_pos e]
        obtain ⟨rs,hrs,ht⟩ := h r (by simp)
        refine ⟨fun z hz => ?_,?_⟩
        · rcases List.mem_cons.1 hz with rfl | hz
          · exact ⟨rs ++ [q.2.rune], fun x hx => by
              rcases List.mem_append.1 hx with h2 | h2
              · exact hrs x h2
              · rw [List.mem_singleton.1 h2]; exact hl,by simp [ht]⟩
          · exact h z (by simp [hz])
        · have h2 := runesS_snoc hrs hl
          simp only [stysR,List.reverse_cons,List.flatMap_append,List.flatMap_cons,List.flatMap_nil,List.append_nil]
          rw [ht,h2,List.replicate_succ',List.append_assoc,e]
      · rw [if_neg e]
        refine ⟨fun z hz => ?_,?_⟩
        · rcases List.mem_cons.1 hz with rfl | hz
          · exact hone
          · exact h z hz
        · simp only [stysR,List.reverse_cons,List.flatMap_append,List.flatMap_cons,List.flatMap_nil,List.append_nil]
          rw [h1]
          rfl
  · simp only [if_true,List.append_nil]
    exact ⟨h,by trivial⟩
theorem runsR_stys (sty : Nat → Sty) : ∀ (xs : List (Nat × Nd)) (R : List Rn), (∀ q ∈ xs, q.2.gone = false → letO q.2.rune = true) → OkR R →
    stysR (xs.foldl (runS sty) R).reverse = stysR R.reverse ++ (xs.filter fun q => !q.2.gone).map fun q => sty q.1
  | [],R,_,_ => by simp
  | q :: xs,R,h,ok => by
    obtain ⟨h1,h2⟩ := runS_stys sty q (h q (by simp)) R ok
    rw [List.foldl_cons,runsR_stys sty xs _ (fun z hz => h z (by simp [hz])) h1,h2,List.append_assoc]
    congr 1
    cases e : q.2.gone <;> simp [e]
theorem stys_runs (ns : List Nd) (l : List Mk) (h : ∀ n ∈ ns,n.gone = false → letO n.rune = true) : stysR (runsN ns l) = ((ixd 0 ns).filter fun q => !q.2.gone).map fun q => styN ns l q.1 := by
  have hix : ∀ (ns : List Nd) (i : Nat),∀ q ∈ ixd i ns,q.2 ∈ ns := by
    intro ns
    induction ns with
    | nil => intro i q hq; simp [ixd] at hq
    | cons n ns ih =>
      intro i q hq
      rw [ixd] at hq
      rcases List.mem_cons.1 hq with rfl | hq
      · simp
      · exact List.mem_cons_of_mem _ (ih _ q hq)
  have := runsR_stys (styN ns l) (ixd 0 ns) [] (fun q hq hg => h q.2 (hix ns 0 q hq) hg) (by intro r hr; cases hr)
  simpa [stysR,runsN,runsR] using this
def plcs (ns : List Nd) : List (Nat × Nd) := (ixd 0 ns).filter fun q => !q.2.gone
theorem ixd_mem : ∀ (ns : List Nd) (i : Nat) (q : Nat × Nd),q ∈ ixd i ns → i ≤ q.1 ∧ ns[q.1 - i]? = some q.2
  | [],i,q,h => by simp [ixd] at h
  | n :: ns,i,q,h => by
    rw [ixd] at h
    rcases List.mem_cons.1 h with rfl | h
    · simp
    · have := ixd_mem ns (i + 1) q h
      refine ⟨by omega,?_⟩
      rw [show q.1 - i = (q.1 - (i + 1)) + 1 by omega,List.getElem?_cons_succ]
      exact this.2
theorem ixd_sorted : ∀ (ns : List Nd) (i : Nat),(ixd i ns).Pairwise fun a b => a.1 < b.1
  | [],i => by simp [ixd]
  | n :: ns,i => by
    rw [ixd,List.pairwise_cons]
    exact ⟨fun q hq => by have := (ixd_mem ns (i + 1) q hq).1; simp only; omega,ixd_sorted ns (i + 1)⟩
theorem ixd_snd : ∀ (ns : List Nd) (i : Nat),(ixd i ns).map (·.2) = ns
  | [],i => rfl
  | n :: ns,i => by rw [ixd,List.map_cons,ixd_snd ns]
theorem plcs_live (ns : List Nd) : (plcs ns).map (·.2) = live ns := by
  unfold plcs live
  have : (ixd 0 ns).map (·.2) = ns := ixd_snd ns 0
  conv => rhs; rw [← this]
  rw [List.filter_map]
  rfl
theorem plcs_pos {ns : List Nd} (nd : (idsNd ns).Nodup) {j : Nat} (hj : j < (plcs ns).length) : posN ns ((plcs ns)[j]).2.id = (((plcs ns)[j]).1 : Int) := by
  have hm := List.getElem_mem hj
  obtain ⟨-,h2⟩ := ixd_mem ns 0 _ (List.mem_filter.1 hm).1
  rw [Nat.sub_zero] at h2
  generalize (plcs ns)[j] = q at *
  obtain ⟨hq,e⟩ := List.getElem?_eq_some_iff.1 h2
  have hl : (idsNd ns).length = ns.length := List.length_map _
  have e2 : (idsNd ns)[q.1]'(by omega) = q.2.id := by
    unfold idsNd
    rw [List.getElem_map,e]
  have hmem : q.2.id ∈ idsNd ns := by rw [← e2]; exact List.getElem_mem _
  unfold posN
  rw [if_pos hmem,← e2,nd.idxOf_getElem]
theorem clock_last {l : List Mk} (s : SortM l) : ∀ m ∈ l,m.clock ≤ lastM l := by
  intro m hm
  unfold lastM
  obtain ⟨r,z,rfl⟩ : ∃ r z,l = r ++ [z] := ⟨l.dropLast,l.getLast (List.ne_nil_of_mem hm),(List.dropLast_concat_getLast _).symm⟩
  rw [List.getLast?_concat]
  simp only []
  rcases List.mem_append.1 hm with h | h
  · have := (List.pairwise_append.1 s).2.2 m h z (by simp)
    unfold ltM at this
    omega
  · rw [List.mem_singleton.1 h]
    exact Int.le_refl _
theorem last_pos {l : List Mk} (g : GoodM l) : 0 ≤ lastM l := by
  unfold lastM
  cases h : l.getLast? with
  | none => exact Int.le_refl _
  | some m =>
    have := g.ok m (List.mem_of_getLast? h)
    unfold cQ at this
    simp only [Bool.and_eq_true,decide_eq_true_eq] at this
    simp only []
    omega
theorem last_le {l : List Mk} (g : GoodM l) : lastM l ≤ 1099511627776 := by
  unfold lastM
  cases h : l.getLast? with
  | none => decide
  | some m =>
    have := g.ok m (List.mem_of_getLast? h)
    unfold cQ at this
    simp only [Bool.and_eq_true,decide_eq_true_eq] at this
    simp only []
    omega
theorem add_new {l : List Mk} (g : GoodM l) (hl : l.length ≤ 500) {m : Mk} (hr : cQ m = true) (hc : m.clock = lastM l + 1) : eU l m = (l ++ [m],0) ∧ hasM l m.clock m.author = false := by
  have hnew : ∀ x ∈ l,newM m x = true := fun x hx => by
    have := clock_last g.sort x hx
    unfold newM
    rw [if_pos (by omega)]
    exact decide_eq_true (by omega)
  have hh : hasM l m.clock m.author = false := by
    unfold hasM
    rw [List.any_eq_false]
    intro x hx h
    have := clock_last g.sort x hx
    have h2 : x.clock = m.clock := (of_decide_eq_true h).1
    omega
  refine ⟨?_,hh⟩
  unfold eU
  rw [if_neg (by rw [hr]; simp),if_neg (by rw [hh]; simp),if_neg (by omega),List.filter_eq_self.2 hnew,List.filter_eq_nil_iff.2 (fun x hx => by rw [hnew x hx]; simp),List.append_nil]
theorem best_new {l : List Mk} (g : GoodM l) {m : Mk} (hc : m.clock = lastM l + 1) (ns : List Nd) (i : Nat) (n : Int) : (bestN ns (l ++ [m]) i n).value = if m.name = n ∧ covN ns m i = true then m.value else (bestN ns l i n).value := by
  have hp := last_pos g
  have key : ∀ (r : List Mk) (b : Mk),(∀ x ∈ r,x.clock ≤ lastM l) → b.clock ≤ lastM l → (r.foldl (bestF ns i n) b).clock ≤ lastM l := by
    intro r
    induction r with
    | nil => intro b _ h; exact h
    | cons x r ih =>
      intro b hr hb
      rw [List.foldl_cons]
      refine ih _ (fun z hz => hr z (by simp [hz])) ?_
      unfold bestF
      split
      · exact hr x (by simp)
      · exact hb
  have hb := key l zeroMk (clock_last g.sort) hp
  unfold bestN
  rw [List.foldl_append,List.foldl_cons,List.foldl_nil]
  generalize l.foldl (bestF ns i n) zeroMk = b at *
  have hn : newM m b = true := by
    unfold newM
    rw [if_pos (by omega)]
    exact decide_eq_true (by omega)
  unfold bestF
  by_cases e : m.name = n ∧ covN ns m i = true
  · rw [if_pos ⟨e.1,e.2,hn⟩,if_pos e]
  · rw [if_neg (fun h => e ⟨h.1,h.2.1⟩),if_neg e]
def setSty (s : Sty) (k v : Int) : Sty := (if k = 1 then v else s.1,if k = 2 then v else s.2.1,if k = 3 then v else s.2.2.1,if k = 4 then v else s.2.2.2)
theorem sty_new {l : List Mk} (g : GoodM l) {m : Mk} (hc : m.clock = lastM l + 1) (ns : List Nd) (i : Nat) : styN ns (l ++ [m]) i = if covN ns m i = true then setSty (styN ns l i) m.name m.value else styN ns l i := by
  unfold styN setSty
  rw [best_new g hc,best_new g hc,best_new g hc,best_new g hc]
  by_cases e : covN ns m i = true
  · simp only [e,and_true,if_true]
  · simp only [e,and_false,if_false]
    simp
abbrev opM (m : Mk) : Opn := ⟨3,cj,(0,0),m⟩
def paintM (s : PS) (a n : Nat) (name value author : Int) : Mk := ⟨lastM s.l + 1,author,(((live (bF s.L s.G))[a]?).map (·.id)).getD bL,false,(((live (bF s.L s.G))[a + n - 1]?).map (·.id)).getD bL,true,name,value⟩
theorem cov_paint {ns : List Nd} (nd : (idsNd ns).Nodup) (nr : ∀ x ∈ ns, x.id ≠ bL) {a b j : Nat} (ha : a < (plcs ns).length) (hb : b < (plcs ns).length) (hj : j < (plcs ns).length) {m : Mk} (h1 : m.fid = ((plcs ns)[a]).2.id) (h2 : m.fb = false) (h3 : m.tid = ((plcs ns)[b]).2.id) (h4 : m.tb = true) :
    covN ns m ((plcs ns)[j]).1 = decide (a ≤ j ∧ j ≤ b) := by
  have hmem : ∀ k (hk : k < (plcs ns).length),((plcs ns)[k]).2.id ≠ bL := fun k hk => by
    have hm := List.getElem_mem hk
    obtain ⟨-,h⟩ := ixd_mem ns 0 _ (List.mem_filter.1 hm).1
    exact nr _ (List.mem_of_getElem? h)
  have hso : (plcs ns).Pairwise fun a b => a.1 < b.1 := (ixd_sorted ns 0).sublist List.filter_sublist
  have hlt : ∀ x y (hx : x < (plcs ns).length) (hy : y < (plcs ns).length),x < y → ((plcs ns)[x]).1 < ((plcs ns)[y]).1 := fun x y hx hy h => List.pairwise_iff_getElem.1 hso x y hx hy h
  have hle : ∀ x y (hx : x < (plcs ns).length) (hy : y < (plcs ns).length),x ≤ y ↔ ((plcs ns)[x]).1 ≤ ((plcs ns)[y]).1 := fun x y hx hy => by
    constructor
    · intro h
      rcases Nat.eq_or_lt_of_le h with rfl | h
      · exact Nat.le_refl _
      · exact Nat.le_of_lt (hlt x y hx hy h)
    · intro h
      rcases Nat.lt_or_ge y x with h' | h'
      · have := hlt y x hy hx h'; omega
      · exact h'
  have pa := plcs_pos nd ha
  have pb := plcs_pos nd hb
  unfold covN thereN aheadN
  rw [h1,h2,h3,h4,pa,pb]
  have e1 := hle a j ha hj
  have e2 := hle j b hj hb
  rw [Bool.eq_iff_iff]
  simp only [hmem a ha,hmem b hb,decide_false,Bool.false_or,if_false,Bool.and_eq_true,Bool.or_eq_true,decide_eq_true_eq,Bool.not_eq_true',Bool.or_eq_false_iff,Bool.and_eq_false_iff,decide_eq_false_iff_not,Bool.not_true,Bool.not_false,and_true,or_true,e1,e2]
  omega
theorem painted_law {s : PS} (t : InvP s) (gM : GoodM s.l) (g : Fug.Good s.L) (hz : sizP s ≤ 100) {a n : Nat} {name value author : Int} (hn : 0 < n) (han : a + n ≤ (live (bF s.L s.G)).length) (hr : cQ (paintM s a n name value author) = true) :
    (doP s [opM (paintM s a n name value author)]).1 = 0 ∧ (doP s [opM (paintM s a n name value author)]).2 = { s with l := s.l ++ [paintM s a n name value author] } ∧
      ∀ j (hj : j < (plcs (bF s.L s.G)).length),styN (bF s.L s.G) (s.l ++ [paintM s a n name value author]) ((plcs (bF s.L s.G))[j]).1 = if a ≤ j ∧ j < a + n then setSty (styN (bF s.L s.G) s.l ((plcs (bF s.L s.G))[j]).1) name value else styN (bF s.L s.G) s.l ((plcs (bF s.L s.G))[j]).1 := by
  have hml : s.l.length ≤ 100 := by unfold sizP at hz; omega
  have hpl : (plcs (bF s.L s.G)).length = (live (bF s.L s.G)).length := by rw [← plcs_live,List.length_map]
  have hid : ∀ k (hk : k < (live (bF s.L s.G)).length),(((live (bF s.L s.G))[k]?).map (·.id)).getD bL = ((plcs (bF s.L s.G))[k]'(by omega)).2.id := fun k hk => by
    rw [List.getElem?_eq_getElem hk]
    have e : (live (bF s.L s.G))[k] = ((plcs (bF s.L s.G)).map (·.2))[k]'(by rw [List.length_map]; omega) := by
      congr 1
      exact (plcs_live _).symm
    rw [e,List.getElem_map]
    rfl
  have hf : (paintM s a n name value author).fid = ((plcs (bF s.L s.G))[a]'(by omega)).2.id := hid a (by omega)
  have ht : (paintM s a n name value author).tid = ((plcs (bF s.L s.G))[a + n - 1]'(by omega)).2.id := hid (a + n - 1) (by omega)
  have hc : (paintM s a n name value author).clock = lastM s.l + 1 := rfl
  have hnv : (paintM s a n name value author).name = name ∧ (paintM s a n name value author).value = value ∧ (paintM s a n name value author).fb = false ∧ (paintM s a n name value author).tb = true := ⟨rfl,rfl,rfl,rfl⟩
  generalize paintM s a n name value author = m at *
  obtain ⟨hadd,hhas⟩ := add_new gM (by omega) hr hc
  have hop : opR (opM m) = true := by
    unfold opR
    rw [if_neg (show ¬ (3 : Int) = 1 by decide),if_neg (show ¬ (3 : Int) = 2 by decide),if_pos rfl,hr]
    rfl
  have hkn : cf s (opM m) = false := by
    unfold cf
    rw [if_neg (show ¬ (3 : Int) = 1 by decide),if_neg (show ¬ (3 : Int) = 2 by decide)]
    exact hhas
  have hfr : freshP s [opM m] = [opM m] := by
    unfold freshP
    rw [List.foldl_cons,List.foldl_nil]
    unfold dZ
    rw [if_neg]
    · rfl
    · rintro (h | h)
      · simp at h
      · rw [hkn] at h; cases h
  have hmi : dI [opM m] = 1 := by
    unfold dI
    rfl
  have htk : dK s (opM m) = { s with l := s.l ++ [m] } := by
    unfold dK
    rw [if_neg (show ¬ (3 : Int) = 1 by decide),if_neg (show ¬ (3 : Int) = 2 by decide)]
    show { s with l := (eU s.l m).1 } = _
    rw [hadd]
  have hL4 : s.L.length < 4096 := by
    have h1 := t.mid.pm.length_eq
    rw [List.length_append] at h1
    unfold sizP at hz
    omega
  have hdo : doP s [opM m] = (0,{ s with l := s.l ++ [m] }) := by
    unfold doP
    rw [if_neg (by simp [hop]),hfr,if_neg (by rw [hmi]; unfold sizP at hz; simp only [List.length_cons,List.length_nil]; omega),List.foldl_cons,List.foldl_nil,htk]
    rw [settle_stuck (s := { s with l := s.l ++ [m] }) (fun i hi => insO_ok (t.ok i (t.mid.pm.mem_iff.1 (by simp [show i ∈ s.W from hi])))) hL4 t.st]
  rw [hdo]
  refine ⟨rfl,rfl,fun j hj => ?_⟩
  have hnd : (idsNd (bF s.L s.G)).Nodup := nodes_nodup g s.G
  have hroot : ∀ z ∈ bF s.L s.G,z.id ≠ bL := fun z hz e => root_not g ((mem_nodes g s.G).1 (by rw [← e]; exact List.mem_map.2 ⟨z,hz,rfl⟩))
  rw [sty_new gM hc,cov_paint hnd hroot (by omega) (by omega) hj hf hnv.2.2.1 ht hnv.2.2.2,hnv.1,hnv.2.1]
  simp only [decide_eq_true_eq]
  by_cases e : a ≤ j ∧ j ≤ a + n - 1
  · rw [if_pos e,if_pos (by omega)]
  · rw [if_neg e,if_neg (by omega)]
end Go.Proofs.Ytimonfakmadhpaa
end
section
set_option linter.unusedSimpArgs false
set_option linter.unusedVariables false
set_option maxRecDepth 8000
set_option maxHeartbeats 4000000
namespace Go.Proofs.Ytimonfakmadhpaa
open Go Go.Abs Go.Proofs Go.Fug
def paintP (s : PS) (a n name value author : Int) : List Opn × Int :=
  if withinP s a n = false ∨ n = 0 then ([],6)
  else if lastM s.l = 1099511627776 then ([],14)
  else if cQ (paintM s a.toNat n.toNat name value author) = false then ([],1)
  else ([opM (paintM s a.toNat n.toNat name value author)],0)
theorem paint_live (B H : AH) (h : PH) (s : PS) (a n name value author : Int) (p : IsP B H h s) (hh : h.p ≠ 0) : ACalls Try.prog 31 [.ptr h.p 0,.sc (.int .i64 a),.sc (.int .i64 n),.sc (.int .i64 name),.sc (.int .i64 value),.sc (.int .i64 author)] H fun v H' => v = .tup [opsV (paintP s a n name value author).1,.sc (.int .i64 (paintP s a n name value author).2)] ∧ Abs.Sub H H' := by
  have hw := within_live B H h s a n p hh
  obtain ⟨wv,vp,-⟩ := p.pw
  have hls := p.t.small
  have hR : paintP s a n name value author = if withinP s a n = false ∨ n = 0 then ([],6) else if lastM s.l = 1099511627776 then ([],14) else if cQ (paintM s a.toNat n.toNat name value author) = false then ([],1) else ([opM (paintM s a.toNat n.toNat name value author)],0) := rfl
  have hat := fun H' i t => at_live H' h.t h.mt s.L s.G i t
  have hll : (live (bF s.L s.G)).length = s.L.length - s.G.length := live_len p.t.g p.t.gs p.t.gn
  have hla := fun H' hi => last_live H' h.b s.l hi p.g.small
  have hlp := last_pos p.g
  have hlu := last_le p.g
  generalize paintP s a n name value author = R at *
  by_cases hbad : withinP s a n = false ∨ n = 0
  · rw [if_pos hbad] at hR
    subst hR
    cases hwv : withinP s a n
    · rw [hwv] at hw
      refine ao (c := ⟨Try.prog,75,[(7,[0,0,0,0,2,0,0,0,0,0,0,0,0,0,2,2]),(1000005,[14]),(1000006,[16]),(1000007,[18]),(4000010,[12,13]),(4000007,[18]),(4000006,[0,3,4,5,14,16]),(4000005,[0,1,2,3,4,5,14]),(4000003,[0,1,2,3,4,5,33]),(4000001,[0,1,2,3,4,5,27])],[],[(7,(.op 0 0 (.op 1 0 (.op 2 0 (.op 6 0 (.op 7 0 (.op 8 0 (.op 9 0 (.op 10 0 (.op 11 0 (.op 12 0 (.or (.op 3 2 (.or (.op 4 2 (.op 5 0 (.op 13 0 (.op 14 2 (.op 15 2 .nil))))) (.op 14 2 (.op 4 2 (.op 5 0 (.op 13 0 (.op 15 2 .nil))))))) (.op 14 2 (.op 3 2 (.op 4 2 (.op 5 0 (.op 13 0 (.op 15 2 .nil))))))))))))))))))]⟩) (rs := [ResultVar.tmp 12,ResultVar.tmp 13]) Try.mixed Try.func31 rfl rfl rfl (Nat.le_of_ble_eq_true rfl) (by kernel_rfl) ?_
      simp (disch := omega) only [↓aI,aD,aG,ixA,aX,aV,ag,aT,ae,mkA,ab,bnd,aS,aH,aK,cvO,aJ,aY,↓aO,aW,aE,aF,aM,aA,aC,aB,aN,ad,frz,aR,aL,AV.cellsOf,AV.fine,AV.one,aQ,indexK.aggOf,simprocAttr,aZ,aU,Try.facts,dT,dF,qT,qF,nT,nF,Bool.false_and,Bool.and_false,hh]
      refine CallK.i hw ?_
      rintro v E ⟨rfl,rfl⟩
      simp (disch := omega) only [↓aI,aD,aG,ixA,aX,aV,ag,aT,ae,mkA,ab,bnd,aS,aH,aK,cvO,aJ,aY,↓aO,aW,aE,aF,aM,aA,aC,aB,aN,ad,frz,aR,aL,AV.cellsOf,AV.fine,AV.one,aQ,indexK.aggOf,simprocAttr,aZ,aU,Try.facts,dT,dF,qT,qF,nT,nF,Bool.false_and,Bool.and_false]
      exact ⟨_,rfl,_,Abs.Sub.refl _,rfl,Abs.Sub.refl _⟩
    · rw [hwv] at hw hbad
      have hn0 : n = 0 := by simpa using hbad
      refine ao (c := ⟨Try.prog,75,[(7,[0,0,0,0,2,0,0,0,0,0,0,0,0,0,2,2]),(1000005,[14]),(1000006,[16]),(1000007,[18]),(4000010,[12,13]),(4000007,[18]),(4000006,[0,3,4,5,14,16]),(4000005,[0,1,2,3,4,5,14]),(4000003,[0,1,2,3,4,5,33]),(4000001,[0,1,2,3,4,5,27])],[],[(7,(.op 0 0 (.op 1 0 (.op 2 0 (.op 6 0 (.op 7 0 (.op 8 0 (.op 9 0 (.op 10 0 (.op 11 0 (.op 12 0 (.or (.op 3 2 (.or (.op 4 2 (.op 5 0 (.op 13 0 (.op 14 2 (.op 15 2 .nil))))) (.op 14 2 (.op 4 2 (.op 5 0 (.op 13 0 (.op 15 2 .nil))))))) (.op 14 2 (.op 3 2 (.op 4 2 (.op 5 0 (.op 13 0 (.op 15 2 .nil))))))))))))))))))]⟩) (rs := [ResultVar.tmp 12,ResultVar.tmp 13]) Try.mixed Try.func31 rfl rfl rfl (Nat.le_of_ble_eq_true rfl) (by kernel_rfl) ?_
      simp (disch := omega) only [↓aI,aD,aG,ixA,aX,aV,ag,aT,ae,mkA,ab,bnd,aS,aH,aK,cvO,aJ,aY,↓aO,aW,aE,aF,aM,aA,aC,aB,aN,ad,frz,aR,aL,AV.cellsOf,AV.fine,AV.one,aQ,indexK.aggOf,simprocAttr,aZ,aU,Try.facts,dT,dF,qT,qF,nT,nF,Bool.false_and,Bool.and_false,hh]
      refine CallK.i hw ?_
      rintro v E ⟨rfl,rfl⟩
      simp (disch := omega) only [↓aI,aD,aG,ixA,aX,aV,ag,aT,ae,mkA,ab,bnd,aS,aH,aK,cvO,aJ,aY,↓aO,aW,aE,aF,aM,aA,aC,aB,aN,ad,frz,aR,aL,AV.cellsOf,AV.fine,AV.one,aQ,indexK.aggOf,simprocAttr,aZ,aU,Try.facts,dT,dF,qT,qF,nT,nF,Bool.false_and,Bool.and_false,hn0]
      exact ⟨_,rfl,_,Abs.Sub.refl _,rfl,Abs.Sub.refl _⟩
  · rw [if_neg hbad] at hR
    have hwv : withinP s a n = true := by
      cases e : withinP s a n
      · exact absurd (.inl e) hbad
      · rfl
    have hn0 : n ≠ 0 := fun e => hbad (.inr e)
    rw [hwv] at hw
    unfold withinP at hwv
    simp only [decide_eq_true_eq] at hwv
    obtain ⟨c1,c2,c3,c4⟩ := hwv
    obtain ⟨i,rfl⟩ : ∃ i : Nat,a = (i : Int) := ⟨a.toNat,by omega⟩
    obtain ⟨q,rfl⟩ : ∃ q : Nat,n = (q : Int) := ⟨n.toNat,by omega⟩
    simp only [Int.toNat_natCast] at hR
    have hlaB := hla _ p.b
    have hc : (paintM s i q name value author) = ⟨lastM s.l + 1,author,(((live (bF s.L s.G))[i]?).map (·.id)).getD bL,false,(((live (bF s.L s.G))[i + q - 1]?).map (·.id)).getD bL,true,name,value⟩ := rfl
    have hA1 := hat H (i : Int) p.t
    have hA2 := hat H ((i : Int) + (q : Int) - 1) p.t
    have e1 : atL (bF s.L s.G) (i : Int) = ((((live (bF s.L s.G))[i]?).map (·.id)).getD bL,0) := by
      unfold atL
      rw [if_pos (by omega),Int.toNat_natCast]
    have e2 : atL (bF s.L s.G) ((i : Int) + (q : Int) - 1) = ((((live (bF s.L s.G))[i + q - 1]?).map (·.id)).getD bL,0) := by
      unfold atL
      rw [if_pos (by omega),show ((i : Int) + (q : Int) - 1).toNat = i + q - 1 by omega]
    rw [e1] at hA1
    rw [e2,show (i : Int) + (q : Int) - 1 = ((i + q - 1 : Nat) : Int) by omega] at hA2
    generalize (((live (bF s.L s.G))[i]?).map (·.id)).getD bL = x at *
    generalize (((live (bF s.L s.G))[i + q - 1]?).map (·.id)).getD bL = y at *
    generalize paintM s i q name value author = M at *
    subst hc
    have hmr := mright_pure ⟨lastM s.l + 1,author,x,false,y,true,name,value⟩
    generalize hrm : cQ ⟨lastM s.l + 1,author,x,false,y,true,name,value⟩ = rm at *
    obtain ⟨x1,x2⟩ := x
    obtain ⟨y1,y2⟩ := y
    simp only [mkC] at hmr
    generalize hlm : lastM s.l = lm at *
    by_cases hbig : lm = 1099511627776
    · rw [if_pos hbig] at hR
      subst hR
      refine ao (c := ⟨Try.prog,75,[(7,[0,0,0,0,2,0,0,0,0,0,0,0,0,0,2,2]),(1000005,[14]),(1000006,[16]),(1000007,[18]),(4000010,[12,13]),(4000007,[18]),(4000006,[0,3,4,5,14,16]),(4000005,[0,1,2,3,4,5,14]),(4000003,[0,1,2,3,4,5,33]),(4000001,[0,1,2,3,4,5,27])],[],[(7,(.op 0 0 (.op 1 0 (.op 2 0 (.op 6 0 (.op 7 0 (.op 8 0 (.op 9 0 (.op 10 0 (.op 11 0 (.op 12 0 (.or (.op 3 2 (.or (.op 4 2 (.op 5 0 (.op 13 0 (.op 14 2 (.op 15 2 .nil))))) (.op 14 2 (.op 4 2 (.op 5 0 (.op 13 0 (.op 15 2 .nil))))))) (.op 14 2 (.op 3 2 (.op 4 2 (.op 5 0 (.op 13 0 (.op 15 2 .nil))))))))))))))))))]⟩) (rs := [ResultVar.tmp 12,ResultVar.tmp 13]) Try.mixed Try.func31 rfl rfl rfl (Nat.le_of_ble_eq_true rfl) (by kernel_rfl) ?_
      simp (disch := omega) only [↓aI,aD,aG,ixA,aX,aV,ag,aT,ae,mkA,ab,bnd,aS,aH,aK,cvO,aJ,aY,↓aO,aW,aE,aF,aM,aA,aC,aB,aN,ad,frz,aR,aL,AV.cellsOf,AV.fine,AV.one,aQ,indexK.aggOf,simprocAttr,aZ,aU,Try.facts,dT,dF,qT,qF,nT,nF,Bool.false_and,Bool.and_false,hh]
      refine CallK.i hw ?_
      rintro v E ⟨rfl,rfl⟩
      simp (disch := omega) only [↓aI,aD,aG,ixA,aX,aV,ag,aT,ae,mkA,ab,bnd,aS,aH,aK,cvO,aJ,aY,↓aO,aW,aE,aF,aM,aA,aC,aB,aN,ad,frz,aR,aL,AV.cellsOf,AV.fine,AV.one,aQ,indexK.aggOf,simprocAttr,aZ,aU,Try.facts,dT,dF,qT,qF,nT,nF,Bool.false_and,Bool.and_false,vp]
      refine CallK.i hlaB ?_
      rintro v E ⟨rfl,hE⟩
      subst hE
      simp (disch := omega) only [↓aI,aD,aG,ixA,aX,aV,ag,aT,ae,mkA,ab,bnd,aS,aH,aK,cvO,aJ,aY,↓aO,aW,aE,aF,aM,aA,aC,aB,aN,ad,frz,aR,aL,AV.cellsOf,AV.fine,AV.one,aQ,indexK.aggOf,simprocAttr,aZ,aU,Try.facts,dT,dF,qT,qF,nT,nF,Bool.false_and,Bool.and_false,hbig]
      exact ⟨_,rfl,_,Abs.Sub.refl _,rfl,Abs.Sub.refl _⟩
    · rw [if_neg hbig] at hR
      refine ao (c := ⟨Try.prog,75,[(7,[0,0,0,0,2,0,0,0,0,0,0,0,0,0,2,2]),(1000005,[14]),(1000006,[16]),(1000007,[18]),(4000010,[12,13]),(4000007,[18]),(4000006,[0,3,4,5,14,16]),(4000005,[0,1,2,3,4,5,14]),(4000003,[0,1,2,3,4,5,33]),(4000001,[0,1,2,3,4,5,27])],[],[(7,(.op 0 0 (.op 1 0 (.op 2 0 (.op 6 0 (.op 7 0 (.op 8 0 (.op 9 0 (.op 10 0 (.op 11 0 (.op 12 0 (.or (.op 3 2 (.or (.op 4 2 (.op 5 0 (.op 13 0 (.op 14 2 (.op 15 2 .nil))))) (.op 14 2 (.op 4 2 (.op 5 0 (.op 13 0 (.op 15 2 .nil))))))) (.op 14 2 (.op 3 2 (.op 4 2 (.op 5 0 (.op 13 0 (.op 15 2 .nil))))))))))))))))))]⟩) (rs := [ResultVar.tmp 12,ResultVar.tmp 13]) Try.mixed Try.func31 rfl rfl rfl (Nat.le_of_ble_eq_true rfl) (by kernel_rfl) ?_
      simp (disch := omega) only [↓aI,aD,aG,ixA,aX,aV,ag,aT,ae,mkA,ab,bnd,aS,aH,aK,cvO,aJ,aY,↓aO,aW,aE,aF,aM,aA,aC,aB,aN,ad,frz,aR,aL,AV.cellsOf,AV.fine,AV.one,aQ,indexK.aggOf,simprocAttr,aZ,aU,Try.facts,dT,dF,qT,qF,nT,nF,Bool.false_and,Bool.and_false,hh]
      refine CallK.i hw ?_
      rintro v E ⟨rfl,rfl⟩
      simp (disch := omega) only [↓aI,aD,aG,ixA,aX,aV,ag,aT,ae,mkA,ab,bnd,aS,aH,aK,cvO,aJ,aY,↓aO,aW,aE,aF,aM,aA,aC,aB,aN,ad,frz,aR,aL,AV.cellsOf,AV.fine,AV.one,aQ,indexK.aggOf,simprocAttr,aZ,aU,Try.facts,dT,dF,qT,qF,nT,nF,Bool.false_and,Bool.and_false,vp]
      refine CallK.i hlaB ?_
      rintro v E ⟨rfl,hE⟩
      subst hE
      simp (disch := omega) only [↓aI,aD,aG,ixA,aX,aV,ag,aT,ae,mkA,ab,bnd,aS,aH,aK,cvO,aJ,aY,↓aO,aW,aE,aF,aM,aA,aC,aB,aN,ad,frz,aR,aL,AV.cellsOf,AV.fine,AV.one,aQ,indexK.aggOf,simprocAttr,aZ,aU,Try.facts,dT,dF,qT,qF,nT,nF,Bool.false_and,Bool.and_false,vp]
      refine CallK.i hA1 ?_
      rintro v E ⟨rfl,hE⟩
      subst hE
      simp (disch := omega) only [↓aI,aD,aG,ixA,aX,aV,ag,aT,ae,mkA,ab,bnd,aS,aH,aK,cvO,aJ,aY,↓aO,aW,aE,aF,aM,aA,aC,aB,aN,ad,frz,aR,aL,AV.cellsOf,AV.fine,AV.one,aQ,indexK.aggOf,simprocAttr,aZ,aU,Try.facts,dT,dF,qT,qF,nT,nF,Bool.false_and,Bool.and_false]
      intro b14 hb140 hb14
      try simp (disch := omega) only [↓aI,aD,aG,ixA,aX,aV,ag,aT,ae,mkA,ab,bnd,aS,aH,aK,cvO,aJ,aY,↓aO,aW,aE,aF,aM,aA,aC,aB,aN,ad,frz,aR,aL,AV.cellsOf,AV.fine,AV.one,aQ,indexK.aggOf,simprocAttr,aZ,aU,Try.facts,dT,dF,qT,qF,nT,nF,Bool.false_and,Bool.and_false,aj hb14,ah,vp]
      refine CallK.i hA2 ?_
      rintro v E ⟨rfl,hE⟩
      subst hE
      simp (disch := omega) only [↓aI,aD,aG,ixA,aX,aV,ag,aT,ae,mkA,ab,bnd,aS,aH,aK,cvO,aJ,aY,↓aO,aW,aE,aF,aM,aA,aC,aB,aN,ad,frz,aR,aL,AV.cellsOf,AV.fine,AV.one,aQ,indexK.aggOf,simprocAttr,aZ,aU,Try.facts,dT,dF,qT,qF,nT,nF,Bool.false_and,Bool.and_false]
      intro b16 hb160 hb16
      try simp (disch := omega) only [↓aI,aD,aG,ixA,aX,aV,ag,aT,ae,mkA,ab,bnd,aS,aH,aK,cvO,aJ,aY,↓aO,aW,aE,aF,aM,aA,aC,aB,aN,ad,frz,aR,aL,AV.cellsOf,AV.fine,AV.one,aQ,indexK.aggOf,simprocAttr,aZ,aU,Try.facts,dT,dF,qT,qF,nT,nF,Bool.false_and,Bool.and_false,aj hb16,ah,vp]
      refine eI (fun σ F => ∃ b,F = E.set b (.cells [.sc (.int .i64 (lm + 1)),.sc (.int .i64 author),.sc (.int .i64 x1),.sc (.int .i64 x2),.sc (.bool false),.sc (.int .i64 y1),.sc (.int .i64 y2),.sc (.bool true),.sc (.int .i64 name),.sc (.int .i64 value)] 82 10) ∧ E b = none ∧ σ 18 = .ptr b 0) ?_ ?_
      · simp (disch := omega) only [↓aI,aD,aG,ixA,aX,aV,ag,aT,ae,mkA,ab,bnd,aS,aH,aK,cvO,aJ,aY,↓aO,aW,aE,aF,aM,aA,aC,aB,aN,ad,frz,aR,aL,AV.cellsOf,AV.fine,AV.one,aQ,indexK.aggOf,simprocAttr,aZ,aU,Try.facts,dT,dF,qT,qF,nT,nF,Bool.false_and,Bool.and_false,vp,ah]
        refine ⟨⟨?_,?_⟩,?_⟩
        · refine CallK.i hlaB ?_
          rintro v E2 ⟨rfl,hE⟩
          subst hE
          simp (disch := omega) only [↓aI,aD,aG,ixA,aX,aV,ag,aT,ae,mkA,ab,bnd,aS,aH,aK,cvO,aJ,aY,↓aO,aW,aE,aF,aM,aA,aC,aB,aN,ad,frz,aR,aL,AV.cellsOf,AV.fine,AV.one,aQ,indexK.aggOf,simprocAttr,aZ,aU,Try.facts,dT,dF,qT,qF,nT,nF,Bool.false_and,Bool.and_false,vp,ah]
          intro b18 hb180 hb18
          exact ⟨b18,rfl,hb18,rfl⟩
        · intro b18 hb180 hb18
          have pb := p.b
          have nb : ¬ h.b = b18 := bA pb hb18
          refine CallK.i (hla _ (by rw [aP nb]; exact pb)) ?_
          rintro v E2 ⟨rfl,hE⟩
          subst hE
          simp (disch := omega) only [↓aI,aD,aG,ixA,aX,aV,ag,aT,ae,mkA,ab,bnd,aS,aH,aK,cvO,aJ,aY,↓aO,aW,aE,aF,aM,aA,aC,aB,aN,ad,frz,aR,aL,AV.cellsOf,AV.fine,AV.one,aQ,indexK.aggOf,simprocAttr,aZ,aU,Try.facts,dT,dF,qT,qF,nT,nF,Bool.false_and,Bool.and_false,vp,ah,set_get,set_set]
          exact ⟨b18,rfl,hb18,rfl⟩
        · intro b18 hb180 hb18
          have pb := p.b
          have nb : ¬ h.b = b18 := bA pb hb18
          have np : ¬ h.p = b18 := bA vp hb18
          have vp' := fun o => (show (E.set b18 o) h.p = some (papO h wv) by rw [aP np]; exact vp)
          simp (disch := omega) only [↓aI,aD,aG,ixA,aX,aV,ag,aT,ae,mkA,ab,bnd,aS,aH,aK,cvO,aJ,aY,↓aO,aW,aE,aF,aM,aA,aC,aB,aN,ad,frz,aR,aL,AV.cellsOf,AV.fine,AV.one,aQ,indexK.aggOf,simprocAttr,aZ,aU,Try.facts,dT,dF,qT,qF,nT,nF,Bool.false_and,Bool.and_false,vp',ah]
          refine CallK.i (hla _ (by rw [aP nb]; exact pb)) ?_
          rintro v E2 ⟨rfl,hE⟩
          subst hE
          simp (disch := omega) only [↓aI,aD,aG,ixA,aX,aV,ag,aT,ae,mkA,ab,bnd,aS,aH,aK,cvO,aJ,aY,↓aO,aW,aE,aF,aM,aA,aC,aB,aN,ad,frz,aR,aL,AV.cellsOf,AV.fine,AV.one,aQ,indexK.aggOf,simprocAttr,aZ,aU,Try.facts,dT,dF,qT,qF,nT,nF,Bool.false_and,Bool.and_false,vp,ah,set_get,set_set]
          exact ⟨b18,rfl,hb18,rfl⟩
      · rintro σ F ⟨b,rfl,hb,s18⟩
        simp (disch := omega) only [↓aI,aD,aG,ixA,aX,aV,ag,aT,ae,mkA,ab,bnd,aS,aH,aK,cvO,aJ,aY,↓aO,aW,aE,aF,aM,aA,aC,aB,aN,ad,frz,aR,aL,AV.cellsOf,AV.fine,AV.one,aQ,indexK.aggOf,simprocAttr,aZ,aU,Try.facts,s18,dT,dF,qT,qF,nT,nF,Bool.false_and,Bool.and_false,aj hb]
        cases rm
        · rw [if_pos rfl] at hR
          subst hR
          first | refine CallK.p (hmr) ?_ | refine CallP.i (hmr) ?_
          simp (disch := omega) only [↓aI,aD,aG,ixA,aX,aV,ag,aT,ae,mkA,ab,bnd,aS,aH,aK,cvO,aJ,aY,↓aO,aW,aE,aF,aM,aA,aC,aB,aN,ad,frz,aR,aL,AV.cellsOf,AV.fine,AV.one,aQ,indexK.aggOf,simprocAttr,aZ,aU,Try.facts,s18,dT,dF,qT,qF,nT,nF,Bool.false_and,Bool.and_false]
          exact ⟨_,rfl,_,Abs.Sub.refl _,rfl,Abs.Sub.refl _⟩
        · rw [if_neg (by simp)] at hR
          subst hR
          first | refine CallK.p (hmr) ?_ | refine CallP.i (hmr) ?_
          simp (disch := omega) only [↓aI,aD,aG,ixA,aX,aV,ag,aT,ae,mkA,ab,bnd,aS,aH,aK,cvO,aJ,aY,↓aO,aW,aE,aF,aM,aA,aC,aB,aN,ad,frz,aR,aL,AV.cellsOf,AV.fine,AV.one,aQ,indexK.aggOf,simprocAttr,aZ,aU,Try.facts,s18,dT,dF,qT,qF,nT,nF,Bool.false_and,Bool.and_false]
          exact ⟨_,rfl,_,Abs.Sub.refl _,rfl,Abs.Sub.refl _⟩
end Go.Proofs.Ytimonfakmadhpaa
end
section
set_option linter.unusedSimpArgs false
set_option linter.unusedVariables false
set_option maxRecDepth 8000
set_option maxHeartbeats 4000000
namespace Go.Proofs.Ytimonfakmadhpaa
open Go Go.Abs Go.Proofs Go.Fug
def stysC (S : List Sty) : List AV := S.flatMap fun s => styC s.1 s.2.1 s.2.2.1 s.2.2.2
abbrev stysV (S : List Sty) : AV := .imm 0 (stysC S) S.length
theorem stysC_length (S : List Sty) : (stysC S).length = S.length * 5 := by
  induction S with
  | nil => rfl
  | cons s S ih => simp only [stysC,List.flatMap_cons,List.length_append,List.length_cons] at *; rw [ih]; simp; omega
theorem stysC_snoc (S : List Sty) (s : Sty) : stysC S ++ styC s.1 s.2.1 s.2.2.1 s.2.2.2 = stysC (S ++ [s]) := by simp [stysC]
theorem styles_pure (R : List Rn) (hR : R.length ≤ 100000) (hT : ∀ r ∈ R,r.txt.length ≤ 1000000) (hS : (stysR R).length ≤ 1000000) : APure Try.prog 30 [rnsV R] (stysV (stysR R)) := by
  have hrl := rnsC_length R
  refine az (c := ⟨Try.prog,24,[(1000004,[5])],[],[]⟩) (rs := [ResultVar.tmp 2]) Try.mixed Try.func30 rfl rfl rfl (Nat.le_of_ble_eq_true rfl) (by kernel_rfl) fun H => ?_
  simp (disch := omega) only [↓aI,aD,aG,ixA,aX,aV,ag,aT,ae,mkA,ab,bnd,aS,aH,aK,cvO,aJ,aY,↓aO,aW,aE,aF,aM,aA,aC,aB,aN,ad,frz,aR,aL,AV.cellsOf,AV.fine,AV.one,aQ,indexK.aggOf,simprocAttr,aZ,aU,Try.facts]
  refine tok_t 3 (by simp (disch := omega) only [↓aI,aD,aG,ixA,aX,aV,ag,aT,ae,mkA,ab,bnd,aS,aH,aK,cvO,aJ,aY,↓aO,aW,aE,aF,aM,aA,aC,aB,aN,ad,frz,aR,aL,AV.cellsOf,AV.fine,AV.one,aQ,indexK.aggOf,simprocAttr,aZ,aU,Try.facts]) fun k hk0 hk => ?_
  refine br (c := ⟨Try.prog,24,[(1000004,[5])],[],[]⟩) Try.mixed (by kernel_rfl) (fun mm σ H' => ∃ (i : Nat) (A : List Sty) (k : Nat) (o : AObj),i + mm = R.length ∧ A = stysR (R.take i) ∧ k ≠ 0 ∧ H k = none ∧ H' k = some o ∧ cy 61 5 o (A.length * 5) ∧ Abs.Sub H H' ∧ σ 3 = .imm k (stysC A) A.length ∧ σ 6 = rnsV R ∧ σ 7 = .sc (.int .i64 (R.length : Nat)) ∧ σ 8 = .sc (.int .i64 (i : Nat))) R.length ?_ ?_
  · refine ⟨0,[],k,.nilt,by omega,rfl,hk0,hk,set_get,.inr ⟨rfl,rfl⟩,Sub.set_new hk,?_⟩
    simp (disch := omega) only [↓aI,aD,aG,ixA,aX,aV,ag,aT,ae,mkA,ab,bnd,aS,aH,aK,cvO,aJ,aY,↓aO,aW,aE,aF,aM,aA,aC,aB,aN,ad,frz,aR,aL,AV.cellsOf,AV.fine,AV.one,aQ,indexK.aggOf,simprocAttr,aZ,aU,Try.facts]
    try rfl
  · clear hk0 hk k
    rintro mm σ H' ⟨i,A,k,o,him,hA,hk0,hk,vk,ho,hs,s3,s6,s7,s8⟩
    by_cases hlt : i < R.length
    · have hld := rnsC_load hlt
      have hle : i * 6 + 6 ≤ R.length * 6 := by omega
      have ht := hT _ (List.getElem_mem hlt)
      have hst : stysR (R.take (i + 1)) = A ++ List.replicate (dO ⟨(R[i]).txt.toArray⟩).length (R[i]).s := by
        rw [List.take_succ_eq_append_getElem hlt,hA]
        unfold stysR
        rw [List.flatMap_append,List.flatMap_cons,List.flatMap_nil,List.append_nil]
      generalize R[i] = r at *
      obtain ⟨tx,sa,sb,sc,sd⟩ := r
      simp only at ht hst
      simp only [rnC,strR] at hld
      have hTs : (⟨tx.toArray⟩ : ByteArray).size = tx.length := by simp [ByteArray.size]
      generalize hTT : (⟨tx.toArray⟩ : ByteArray) = T at *
      have hrunl : (dO T).length ≤ T.size := by have := runesAt_len T T.size 0; simpa [dO] using this
      have hA1 : (stysR (R.take (i + 1))).length ≤ 1000000 := by
        have e : stysR R = stysR (R.take (i + 1)) ++ stysR (R.drop (i + 1)) := by
          unfold stysR
          rw [← List.flatMap_append,List.take_append_drop]
        rw [e,List.length_append] at hS
        omega
      rw [hst,List.length_append,List.length_replicate] at hA1
      simp (disch := omega) only [↓aI,aD,aG,ixA,aX,aV,ag,aT,ae,mkA,ab,bnd,aS,aH,aK,cvO,aJ,aY,↓aO,aW,aE,aF,aM,aA,aC,aB,aN,ad,frz,aR,aL,AV.cellsOf,AV.fine,AV.one,aQ,indexK.aggOf,simprocAttr,aZ,aU,Try.facts,s3,s6,s7,s8,dT,dF,qT,qF,nT,nF,Bool.false_and,Bool.and_false,hrl,hld,hle]
      intro b5 hb50 hb5
      try simp (disch := omega) only [↓aI,aD,aG,ixA,aX,aV,ag,aT,ae,mkA,ab,bnd,aS,aH,aK,cvO,aJ,aY,↓aO,aW,aE,aF,aM,aA,aC,aB,aN,ad,frz,aR,aL,AV.cellsOf,AV.fine,AV.one,aQ,indexK.aggOf,simprocAttr,aZ,aU,Try.facts,s3,s6,s7,s8,dT,dF,qT,qF,nT,nF,Bool.false_and,Bool.and_false,aj hb5,ah]
      refine range_s (by kernel_rfl) fun hr hr0 hrf => ?_
      simp (disch := omega) only [↓aI,aD,aG,ixA,aX,aV,ag,aT,ae,mkA,ab,bnd,aS,aH,aK,cvO,aJ,aY,↓aO,aW,aE,aF,aM,aA,aC,aB,aN,ad,frz,aR,aL,AV.cellsOf,AV.fine,AV.one,aQ,indexK.aggOf,simprocAttr,aZ,aU,Try.facts,s3,s6,s7,s8]
      have hrk : ¬ k = hr := bA vk hrf
      have hrf2 := hs.free hrf
      refine br (c := ⟨Try.prog,24,[(1000004,[5])],[],[]⟩) Try.mixed (by kernel_rfl) (fun m2 σ H2 => ∃ (pos : Nat) (B : List Sty) (k : Nat) (o : AObj),m2 = T.size - pos ∧ B ++ List.replicate (cT T (T.size - pos) pos).length (sa,sb,sc,sd) = A ++ List.replicate (dO T).length (sa,sb,sc,sd) ∧ k ≠ 0 ∧ H k = none ∧ ¬ hr = k ∧ H2 hr = some (.raw (.stringIter T pos)) ∧ H2 k = some o ∧ cy 61 5 o (B.length * 5) ∧ Abs.Sub H H2 ∧ pos ≤ T.size + 4 ∧
        σ 3 = .imm k (stysC B) B.length ∧ σ 5 = .ip [.sc (.string T),.sc (.int .i64 0),.sc (.int .i64 sa),.sc (.int .i64 sb),.sc (.int .i64 sc),.sc (.int .i64 sd)] 0 ∧ σ 6 = rnsV R ∧ σ 7 = .sc (.int .i64 (R.length : Nat)) ∧ σ 8 = .sc (.int .i64 (i : Nat)) ∧ σ 14 = .ptr hr 0) T.size ?_ ?_
      · refine ⟨0,A,k,o,by simp,rfl,hk0,hk,fun e => hrk e.symm,set_get,by rw [aP hrk]; exact vk,ho,hs.trans (Sub.set_new hrf),by omega,?_⟩
        simp (disch := omega) only [↓aI,aD,aG,ixA,aX,aV,ag,aT,ae,mkA,ab,bnd,aS,aH,aK,cvO,aJ,aY,↓aO,aW,aE,aF,aM,aA,aC,aB,aN,ad,frz,aR,aL,AV.cellsOf,AV.fine,AV.one,aQ,indexK.aggOf,simprocAttr,aZ,aU,Try.facts,s3,s6,s7,s8]
        try rfl
      · clear s3 s6 s7 s8 vk ho hs hk hk0 hrk
        rintro m2 σ H2 ⟨pos,B,k,o,rfl,hB,hk0,hk,hrk,vr,vk,ho,hs,hp4,s3,s5,s6,s7,s8,s14⟩
        have hkr : ¬ k = hr := fun e => hrk e.symm
        have hBl := stysC_length B
        have hBb : B.length ≤ 1000000 := by
          have := congrArg List.length hB
          simp only [List.length_append,List.length_replicate] at this
          omega
        simp (disch := omega) only [↓aI,aD,aG,ixA,aX,aV,ag,aT,ae,mkA,ab,bnd,aS,aH,aK,cvO,aJ,aY,↓aO,aW,aE,aF,aM,aA,aC,aB,aN,ad,frz,aR,aL,AV.cellsOf,AV.fine,AV.one,aQ,indexK.aggOf,simprocAttr,aZ,aU,Try.facts,s3,s5,s6,s7,s8,s14]
        refine next_s vr (fun hpos => ?_) (fun hpos => ?_)
        · have hw := dec_pos T pos
          have hsn := stysC_snoc B (sa,sb,sc,sd)
          have hB1 : (B ++ [(sa,sb,sc,sd)]).length = B.length + 1 := by simp
          have hsl := stysC_length (B ++ [(sa,sb,sc,sd)])
          have hnx : (B ++ [(sa,sb,sc,sd)]) ++ List.replicate (cT T (T.size - (pos + (Utf8.decode T pos).2)) (pos + (Utf8.decode T pos).2)).length (sa,sb,sc,sd) = A ++ List.replicate (dO T).length (sa,sb,sc,sd) := by
            rw [← hB]
            obtain ⟨q,hq⟩ : ∃ q,T.size - pos = q + 1 := ⟨T.size - pos - 1,by omega⟩
            rw [hq]
            conv => rhs; unfold cT
            rw [if_pos hpos,List.length_cons,List.replicate_succ,List.append_assoc,List.singleton_append,runesAt_fuel T _ q _ (Nat.le_refl _) (by omega)]
          have vr2 : (H2.set hr (.raw (.stringIter T (pos + (Utf8.decode T pos).2)))) hr = some (.raw (.stringIter T (pos + (Utf8.decode T pos).2))) := set_get
          have vk2 : (H2.set hr (.raw (.stringIter T (pos + (Utf8.decode T pos).2)))) k = some o := by rw [aP hkr]; exact vk
          have hs2 : Abs.Sub H (H2.set hr (.raw (.stringIter T (pos + (Utf8.decode T pos).2)))) := hs.set_free hrf2
          have hpl : pos + (Utf8.decode T pos).2 ≤ T.size + 4 := by
            have : (Utf8.decode T pos).2 ≤ 4 := by
              unfold Utf8.decode
              simp only []
              repeat' split
              all_goals simp
            omega
          generalize H2.set hr _ = H3 at *
          simp (disch := omega) only [↓aI,aD,aG,ixA,aX,aV,ag,aT,ae,mkA,ab,bnd,aS,aH,aK,cvO,aJ,aY,↓aO,aW,aE,aF,aM,aA,aC,aB,aN,ad,frz,aR,aL,AV.cellsOf,AV.fine,AV.one,aQ,indexK.aggOf,simprocAttr,aZ,aU,Try.facts,s3,s5,s6,s7,s8,s14,dT,dF,qT,qF,nT,nF,Bool.false_and,Bool.and_false,vk2,ho,hBl]
          intro k3 o3 hk30 hk3 ho3
          have n1 := bA vr2 hk3
          exact ⟨_,by omega,_,B ++ [(sa,sb,sc,sd)],k3,o3,rfl,hnx,hk30,hs2.free hk3,n1,by rw [aP n1,bZ hrk]; exact vr2,set_get,by rw [hB1,Nat.succ_mul]; exact ho3,(hs2.kill_free hk).set_free (hs2.free hk3),hpl,by rw [hB1]; exact congrArg (fun c => AV.imm k3 c (B.length + 1)) hsn⟩
        · have hAe : B = A ++ List.replicate (dO T).length (sa, sb, sc, sd) := by
            have : T.size - pos = 0 := by omega
            rw [this] at hB
            rw [← hB]
            simp [cT]
          rw [← hst] at hAe
          simp (disch := omega) only [↓aI,aD,aG,ixA,aX,aV,ag,aT,ae,mkA,ab,bnd,aS,aH,aK,cvO,aJ,aY,↓aO,aW,aE,aF,aM,aA,aC,aB,aN,ad,frz,aR,aL,AV.cellsOf,AV.fine,AV.one,aQ,indexK.aggOf,simprocAttr,aZ,aU,Try.facts,s3,s5,s6,s7,s8,s14]
          exact ⟨mm - 1,by omega,i + 1,B,k,o,by omega,hAe,hk0,hk,vk,ho,hs,rfl,rfl⟩
    · obtain rfl : i = R.length := by omega
      rw [List.take_length] at hA
      subst hA
      simp (disch := omega) only [↓aI,aD,aG,ixA,aX,aV,ag,aT,ae,mkA,ab,bnd,aS,aH,aK,cvO,aJ,aY,↓aO,aW,aE,aF,aM,aA,aC,aB,aN,ad,frz,aR,aL,AV.cellsOf,AV.fine,AV.one,aQ,indexK.aggOf,simprocAttr,aZ,aU,Try.facts,s3,s6,s7,s8,dT,dF,qT,qF,nT,nF,Bool.false_and,Bool.and_false]
      exact hs
end Go.Proofs.Ytimonfakmadhpaa
end
