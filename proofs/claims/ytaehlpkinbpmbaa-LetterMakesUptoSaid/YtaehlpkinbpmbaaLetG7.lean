/-
  Several texts in one: each says what it proves.
  Conditions: none. Lemmas only.
-/
import Derived.Test.YtaehlpkinbpmbaaLetG2
import Derived.Test.YtaehlpkinbpmbaaLetG6
set_option linter.all false
section
set_option linter.unusedSimpArgs false
set_option linter.unusedVariables false
set_option maxRecDepth 8000
set_option maxHeartbeats 1000000
namespace Go.Proofs.Ytaehlpkinbpmbaa
open Go Go.Abs Go.Proofs
theorem ofN8 (n : Nat) (h : n < 256) : (UInt8.ofNat n).toNat = n := by rw [UInt8.toNat_ofNat']; omega
theorem vr_last (f k acc n : Nat) (r : List UInt8) (hn : n < 128) (h0 : 0 < k → 0 < n) (h : acc + n * 128 ^ k ≤ 1099511627776) : vr (f + 1) k acc (UInt8.ofNat n :: r) = (acc + n * 128 ^ k,k + 1,0) := by
  have e := ofN8 n (by omega)
  rw [vr,e,if_neg (by omega),if_neg (by omega),Nat.mod_eq_of_lt hn,if_neg (by omega)]
theorem vr_dig : ∀ (g f k acc n : Nat) (r : List UInt8),1 ≤ f → f ≤ g + 1 → n < 128 ^ f → (0 < k → 0 < n) → acc + n * 128 ^ k ≤ 1099511627776 → vr f k acc (digN g n ++ r) = (acc + n * 128 ^ k,k + (digN g n).length,0) := by
  intro g
  induction g with
  | zero =>
    intro f k acc n r h1 h2 h3 h4 h5
    obtain rfl : f = 1 := by omega
    exact vr_last 0 k acc n r (by simpa using h3) h4 h5
  | succ g ih =>
    intro f k acc n r h1 h2 h3 h4 h5
    obtain ⟨f,rfl⟩ : ∃ m,f = m + 1 := ⟨f - 1,by omega⟩
    unfold digN
    split
    · rename_i hn
      exact vr_last f k acc n r hn h4 h5
    · rename_i hn
      have e := ofN8 (128 + n % 128) (by omega)
      have hf : 1 ≤ f := by
        rcases Nat.eq_zero_or_pos f with rfl | h
        · simp at h3; omega
        · exact h
      have hp : n / 128 < 128 ^ f := by
        rw [Nat.pow_succ] at h3
        exact Nat.div_lt_of_lt_mul (by rw [Nat.mul_comm]; exact h3)
      have hs : acc + (128 + n % 128) % 128 * 128 ^ k + n / 128 * 128 ^ (k + 1) = acc + n * 128 ^ k := by
        rw [Nat.pow_succ,show (128 + n % 128) % 128 = n % 128 by omega,Nat.add_assoc,show n / 128 * (128 ^ k * 128) = 128 * (n / 128) * 128 ^ k by rw [Nat.mul_comm (128 ^ k) 128,← Nat.mul_assoc,Nat.mul_comm (n / 128) 128],← Nat.add_mul,Nat.mod_add_div]
      have h := ih f (k + 1) (acc + (128 + n % 128) % 128 * 128 ^ k) (n / 128) r hf (by omega) hp (fun _ => by omega) (by rw [hs]; exact h5)
      rw [List.cons_append,vr,e,if_pos (by omega),h,hs,List.length_cons,Nat.add_assoc,Nat.add_comm 1]
theorem vread_vnum {z : Int} (h0 : 0 ≤ z) (h1 : z ≤ 1099511627776) (r : List UInt8) : vread (vnum z ++ r) = (z.toNat,(vnum z).length,0) := by
  have hz := clampN_of h0 h1
  unfold vread vnum
  rw [vr_dig 6 6 0 0 (clampN z) r (by omega) (by omega) (by have := clampN_le z; omega) (by omega) (by have := clampN_le z; omega)]
  simp only [Nat.pow_zero,Nat.mul_one,Nat.zero_add]
  rw [show z.toNat = clampN z by omega]
theorem dig_vr : ∀ (f k acc : Nat) (l : List UInt8),(vr f k acc l).2.2 = 0 → ∃ n m,vr f k acc l = (acc + n * 128 ^ k,k + m,0) ∧ m ≤ l.length ∧ (0 < k → 0 < n) ∧ ∀ g,f ≤ g + 1 → digN g n = l.take m
  | 0,k,acc,l,h => by simp [vr] at h
  | f + 1,k,acc,[],h => by simp [vr] at h
  | f + 1,k,acc,c :: l,h => by
    have hc := c.toNat_lt
    rw [vr] at h ⊢
    split
    · rename_i h1
      rw [if_pos h1] at h
      obtain ⟨n,m,e1,e2,e3,e4⟩ := dig_vr f (k + 1) _ l h
      refine ⟨c.toNat % 128 + 128 * n,m + 1,?_,by rw [List.length_cons]; omega,fun _ => by have := e3 (by omega); omega,fun g hg => ?_⟩
      · rw [e1,Nat.pow_succ]
        refine Prod.ext ?_ (Prod.ext ?_ rfl)
        · simp only
          rw [Nat.add_mul,Nat.add_assoc,Nat.mul_comm (128 ^ k) 128,← Nat.mul_assoc,Nat.mul_comm n 128]
        · simp only; omega
      · have hn := e3 (by omega)
        obtain ⟨g,rfl⟩ : ∃ q,g = q + 1 := by
          rcases Nat.eq_zero_or_pos f with rfl | hf
          · simp [vr] at h
          · exact ⟨g - 1,by omega⟩
        rw [digN,if_neg (by omega),List.take_succ_cons,← e4 g (by omega)]
        rw [show (c.toNat % 128 + 128 * n) / 128 = n by omega,show 128 + (c.toNat % 128 + 128 * n) % 128 = c.toNat by omega,UInt8.ofNat_toNat]
    · rename_i h1
      rw [if_neg h1] at h
      split
      · rename_i h2
        rw [if_pos h2] at h; cases h
      · rename_i h2
        rw [if_neg h2] at h
        split
        · rename_i h3
          rw [if_pos h3] at h; cases h
        · refine ⟨c.toNat,1,by rw [Nat.mod_eq_of_lt (by omega)],by rw [List.length_cons]; omega,fun hk => ?_,fun g hg => ?_⟩
          · rcases Nat.eq_zero_or_pos c.toNat with e | e
            · exact absurd ⟨hk,e⟩ h2
            · exact e
          · cases g with
            | zero => simp [digN]
            | succ g => rw [digN,if_pos (by omega)]; simp
theorem vnum_vread {l : List UInt8} (h : (vread l).2.2 = 0) : l = vnum ((vread l).1 : Int) ++ l.drop (vread l).2.1 := by
  have hle := (vr_le 6 0 0 l h).1
  obtain ⟨n,m,e1,e2,-,e3⟩ := dig_vr 6 0 0 l h
  rw [show vr 6 0 0 l = vread l from rfl] at e1 hle
  rw [e1] at hle ⊢
  simp only [Nat.pow_zero,Nat.mul_one,Nat.zero_add] at hle ⊢
  unfold vnum
  rw [show clampN (n : Int) = n by unfold clampN; omega,e3 6 (by omega),List.take_append_drop]
theorem rdNum_of {z lo hi : Int} (h : lo ≤ z ∧ z ≤ hi) (h0 : 0 ≤ z ∧ z ≤ 1099511627776) (r : List UInt8) : rdNum (vnum z ++ r,0) lo hi = ((r,0),z) := by
  unfold rdNum
  simp only [vread_vnum h0.1 h0.2,if_true]
  rw [show ((z.toNat : Nat) : Int) = z by omega,if_neg (by omega),List.drop_left]
theorem rdNum_to {s : RS} {lo hi : Int} (h : (rdNum s lo hi).1.2 = 0) : s.2 = 0 ∧ s.1 = vnum (rdNum s lo hi).2 ++ (rdNum s lo hi).1.1 := by
  unfold rdNum at h ⊢
  split
  · rename_i h1
    rw [if_pos h1] at h
    split
    · rename_i h2
      rw [if_pos h2] at h
      split
      · rename_i h3
        rw [if_pos h3] at h; cases h
      · exact ⟨h1,vnum_vread h2⟩
    · rename_i h2
      rw [if_neg h2] at h
      exact absurd h h2
  · rename_i h1
    rw [if_neg h1] at h
    exact absurd h h1
theorem vnum_inj {a b : Int} {s t : List UInt8} (ha : 0 ≤ a ∧ a ≤ 1099511627776) (hb : 0 ≤ b ∧ b ≤ 1099511627776) (h : vnum a ++ s = vnum b ++ t) : a = b ∧ s = t := by
  have h1 := vread_vnum ha.1 ha.2 s
  have h2 := vread_vnum hb.1 hb.2 t
  rw [h,h2] at h1
  simp only [Prod.mk.injEq] at h1
  have e : a = b := by omega
  subst e
  exact ⟨rfl,List.append_cancel_left h⟩
theorem vtext_inj {a b s t : List UInt8} (ha : a.length ≤ 2000000) (hb : b.length ≤ 2000000) (h : vtext a ++ s = vtext b ++ t) : a = b ∧ s = t := by
  unfold vtext at h
  rw [List.append_assoc,List.append_assoc] at h
  obtain ⟨h1,h2⟩ := vnum_inj (by omega) (by omega) h
  have hl : a.length = b.length := by omega
  exact List.append_inj h2 hl
structure HdR (l : Ltr) : Prop where
  k : 0 ≤ l.kind ∧ l.kind ≤ 1099511627776
  a : 0 ≤ l.author ∧ l.author ≤ 1099511627776
  e : 0 ≤ l.epoch ∧ l.epoch ≤ 1099511627776
  n : 0 ≤ l.number ∧ l.number ≤ 1099511627776
  p : l.prev.length ≤ 2000000
theorem headL_inj {x y : Ltr} {s t : List UInt8} (hx : HdR x) (hy : HdR y) (h : headL x ++ s = headL y ++ t) : (x.kind = y.kind ∧ x.author = y.author ∧ x.epoch = y.epoch ∧ x.number = y.number ∧ x.prev = y.prev) ∧ s = t := by
  unfold headL at h
  simp only [List.append_assoc] at h
  obtain ⟨h1,h⟩ := vnum_inj hx.k hy.k h
  obtain ⟨h2,h⟩ := vnum_inj hx.a hy.a h
  obtain ⟨h3,h⟩ := vnum_inj hx.e hy.e h
  obtain ⟨h4,h⟩ := vnum_inj hx.n hy.n h
  obtain ⟨h5,h⟩ := vtext_inj hx.p hy.p h
  exact ⟨⟨h1,h2,h3,h4,h5⟩,h⟩
theorem putL_inj {x y : Ltr} (hx : HdR x) (hy : HdR y) (bx : x.box.length ≤ 2000000) (by' : y.box.length ≤ 2000000) (sx : x.sig.length ≤ 2000000) (sy : y.sig.length ≤ 2000000) (h : dq x = dq y) : x = y := by
  unfold dq at h
  rw [List.append_assoc,List.append_assoc] at h
  obtain ⟨⟨h1,h2,h3,h4,h5⟩,h⟩ := headL_inj hx hy h
  obtain ⟨h6,h⟩ := vtext_inj bx by' h
  obtain ⟨h7,-⟩ := vtext_inj (s := []) (t := []) sx sy (by simpa using h)
  obtain ⟨a1,a2,a3,a4,a5,a6,a7⟩ := x
  obtain ⟨b1,b2,b3,b4,b5,b6,b7⟩ := y
  simp only at h1 h2 h3 h4 h5 h6 h7
  subst h1 h2 h3 h4 h5 h6 h7
  rfl
theorem named_hd {l : Ltr} (h : namedL l = true) : HdR l := by
  obtain ⟨f1,f2,f3,f4,f5,f6,f7,f8,f9⟩ := named_facts h
  exact ⟨⟨by omega,by omega⟩,⟨by omega,by omega⟩,⟨by omega,by omega⟩,⟨by omega,by omega⟩,by omega⟩
end Go.Proofs.Ytaehlpkinbpmbaa
end
section
set_option linter.unusedSimpArgs false
set_option linter.unusedVariables false
set_option maxRecDepth 20000
set_option maxHeartbeats 4000000
namespace Go.Abs
open Go Go.RowKit
theorem Frz.aggL {H H0 : AH} {l r : List AV} (h : FrzL H H0 l r) : Frz H H0 (.agg l) (.agg r) := by
  intro C u hc w hs hv
  obtain ⟨vs,rfl,hsz,h1,hv⟩ := hv.agg_inv
  obtain ⟨e1,e2⟩ := h.get
  refine .agg _ vs (by rw [hsz,e1]) h1 fun j hj => ?_
  have hj' : j < l.length := by omega
  exact e2 j hj' hj C _ hc w hs (hv j hj')
theorem FrzL.same' {H H0 : AH} : ∀ {l : List AV},FrzL H H0 l l
  | [] => trivial
  | _ :: _ => ⟨Frz.same,FrzL.same'⟩
theorem FrzL.at {H H0 : AH} {a b : AV} (h : Frz H H0 a b) : ∀ {l r : List AV},FrzL H H0 (l ++ a :: r) (l ++ b :: r)
  | [],_ => ⟨h,FrzL.same'⟩
  | _ :: _,_ => ⟨Frz.same,FrzL.at h⟩
end Go.Abs
namespace Go.Proofs.Ytaehlpkinbpmbaa
open Go Go.Abs Go.Proofs
theorem lown_own (b : List UInt8) (hb : b.length ≤ 4000000) (H : AH) : ACalls Try.prog 12 [bytesV b] H (OwnB b H) := by
  have h8 := encB_len b
  refine ao (c := ⟨Try.prog,6,[],[1000003,1000005],[]⟩) (rs := [ResultVar.tmp 2]) Try.mixed Try.func12 rfl rfl rfl (Nat.le_of_ble_eq_true rfl) (by kernel_rfl) ?_
  simp (disch := omega) only [↓aI,↓zP,aD,zD,aS,simprocAttr,Try.facts,h8]
  intro k hk0 hk k2 hk2
  obtain ⟨hk20,hk2'⟩ := own_next hk0 hk hk2
  exact ⟨_,rfl,_,Abs.Sub.refl _,k2,hk20,hk2',rfl,by rw [aj hk]⟩
theorem lown_pure (b : List UInt8) (hb : b.length ≤ 4000000) : APure Try.prog 12 [bytesV b] (bytesV b) := OwnB.pure (lown_own b hb)
def flipB (b : List UInt8) (i : Nat) : List UInt8 := b.set i (b.getD i 0 ^^^ 1)
def flipI (at_ : Int) (n : Nat) : Nat := (IntKind.u64.wrap at_).toNat % n
def flipL (b : List UInt8) (at_ : Int) : List UInt8 := if b.length = 0 then b else flipB b (flipI at_ b.length)
theorem flipL_nil {b : List UInt8} {at_ : Int} (h : b.length = 0) : flipL b at_ = b := if_pos h
def chM (m : Nat) (l : Ltr) (at_ : Int) : Ltr := match m with
  | 1 => { l with epoch := l.epoch + 1 }
  | 2 => { l with number := l.number + 1 }
  | 3 => { l with author := (((l.author + 1).toNat % 5 : Nat) : Int) }
  | 4 => { l with box := flipL l.box at_ }
  | 5 => { l with sig := flipL l.sig at_ }
  | 6 => { l with kind := 2 + (l.kind - 1).tmod 3 }
  | 7 => { l with prev := flipL l.prev at_ }
  | _ => l
def chL (l : Ltr) (how : UInt8) (at_ : Int) : Ltr := chM (how.toNat % 8) l at_
theorem changed_plain (l : Ltr) (how : UInt8) (at_ : Int) (hl : okL l) (hd : HdR l) (hm : (how.toNat % 8 = 4 → l.box.length = 0) ∧ (how.toNat % 8 = 5 → l.sig.length = 0) ∧ (how.toNat % 8 = 7 → l.prev.length = 0)) : APure Try.prog 15 [.agg (ltrC l),.sc (.int .u8 how.toNat),.sc (.int .i64 at_)] (.agg (ltrC (chL l how at_))) := by
  have hR : chL l how at_ = chM (how.toNat % 8) l at_ := rfl
  generalize chL l how at_ = R at *
  have hm8 : how.toNat % 8 < 8 := Nat.mod_lt _ (by omega)
  have hmod : ((how.toNat : Nat) : Int).tmod 8 = ((how.toNat % 8 : Nat) : Int) := tmodN _ 8
  generalize hM : how.toNat % 8 = m at *
  obtain ⟨hpv,hbx,hsg⟩ := hl
  obtain ⟨hk,hau,hep,hnu,-⟩ := hd
  obtain ⟨kd,au,ep,nu,pv,bx,sg⟩ := l
  simp only [ltrC] at *
  have o1 := lown_pure pv (by omega)
  have o2 := lown_pure bx (by omega)
  have o3 := lown_pure sg (by omega)
  have w1 : IntKind.i64.wrap (ep + 1) = ep + 1 := wrapI (by omega)
  have w2 : IntKind.i64.wrap (nu + 1) = nu + 1 := wrapI (by omega)
  have w3 : IntKind.i64.wrap (au + 1) = au + 1 := wrapI (by omega)
  have w4 : IntKind.i64.wrap (kd - 1) = kd - 1 := wrapI (by omega)
  have w5 : IntKind.i64.wrap (2 + (kd - 1).tmod 3) = 2 + (kd - 1).tmod 3 := by
    rcases (by omega : kd = 0 ∨ 1 ≤ kd) with rfl | h
    · rfl
    · obtain ⟨n,hn⟩ : ∃ n : Nat,kd - 1 = n := ⟨(kd - 1).toNat,by omega⟩
      rw [hn,tmodN n 3]
      have := Nat.mod_lt n (show 0 < 3 by omega)
      generalize n % 3 = q at *
      exact wrapI (by omega)
  have e3 : (au + 1).tmod 5 = (((au + 1).toNat % 5 : Nat) : Int) := by
    obtain ⟨n,hn⟩ : ∃ n : Nat,au + 1 = n := ⟨(au + 1).toNat,by omega⟩
    rw [hn,tmodN n 5,Int.toNat_natCast]
  have mc : m = 0 ∨ m = 1 ∨ m = 2 ∨ m = 3 ∨ m = 4 ∨ m = 5 ∨ m = 6 ∨ m = 7 := by omega
  unfold chM at hR
  rcases mc with rfl | rfl | rfl | rfl | rfl | rfl | rfl | rfl
  all_goals
    simp only [] at hR
    subst hR
    refine az (c := ⟨Try.prog,109,[(1,[0,1,0,0,1,0,0,1,0,0,2,0,2,0,2]),(11,[0,1,0,0,0,1,1,0,0,0,0,1,0,0,2]),(14,[0,1,0,0,0,1,1,0,0,0,0,1,0,0,2]),(19,[0,1,0,0,0,1,1,0,0,0,0,1,0,0,2]),(4000004,[3,6]),(4000006,[3,6]),(4000008,[3,6]),(4000011,[3,6]),(4000014,[3,6]),(4000016,[3,6]),(4000019,[3,6]),(4000001,[1,2,3,6])],[],[]⟩) (rs := [ResultVar.cell 6 24]) Try.mixed Try.func15 rfl rfl rfl (Nat.le_of_ble_eq_true rfl) (by kernel_rfl) fun H => ?_
    simp (disch := omega) only [↓aI,↓zP,aD,zD,aS,simprocAttr,Try.facts,zA,hmod]
    intro k3 hk30 hk3 k6 hk60 hk6
    have n36 := bK hk6
    simp (disch := omega) only [↓aI,↓zP,aD,zD,aS,simprocAttr,Try.facts,zA,hmod,aP,n36]
    first | refine CallK.p (o1) ?_ | refine CallP.i (o1) ?_
    simp (disch := omega) only [↓aI,↓zP,aD,zD,aS,simprocAttr,Try.facts,zA,hmod,aP,n36,ah]
    first | refine CallK.p (o2) ?_ | refine CallP.i (o2) ?_
    simp (disch := omega) only [↓aI,↓zP,aD,zD,aS,simprocAttr,Try.facts,zA,hmod,aP,n36,ah]
    first | refine CallK.p (o3) ?_ | refine CallP.i (o3) ?_
    simp (disch := omega) only [↓aI,↓zP,aD,zD,aS,simprocAttr,Try.facts,zA,hmod,aP,n36,ah,w1,w2,w3,w4,w5,e3]
    have f6 := am hk6
    try rw [flipL_nil (hm.1 rfl)]
    try rw [flipL_nil (hm.2.1 rfl)]
    try rw [flipL_nil (hm.2.2 rfl)]
    first
      | exact (((Sub.set_new hk3).set_free f6).set_free hk3).set_free f6
      | exact ((((Sub.set_new hk3).set_free f6).set_free hk3).set_free hk3).set_free f6
      | exact ⟨rfl,(((Sub.set_new hk3).set_free f6).set_free hk3).set_free f6⟩
      | exact ⟨rfl,((((Sub.set_new hk3).set_free f6).set_free hk3).set_free hk3).set_free f6⟩
      | (trace_state; fail)
end Go.Proofs.Ytaehlpkinbpmbaa
end
section
set_option linter.unusedSimpArgs false
set_option linter.unusedVariables false
set_option maxRecDepth 20000
set_option maxHeartbeats 4000000
namespace Go.Proofs.Ytaehlpkinbpmbaa
open Go Go.Abs Go.Proofs
theorem numT_mem {ts : List Term} {t u : Term} (h : u ∈ (numT ts t).1) : u ∈ ts ∨ u = t := by
  unfold numT at h
  split at h
  · exact .inl h
  · simpa using h
def OneS (ts : List Term) (t : Term) : Prop := ∀ u ∈ ts,u.kind = 103 → u = t
def NoS (ts : List Term) : Prop := ∀ u ∈ ts,¬ u.kind = 103
theorem NoS.nil : NoS [] := fun u h => by cases h
theorem NoS.num {ts : List Term} {t : Term} (h : NoS ts) (hk : ¬ t.kind = 103) : NoS (numT ts t).1 := fun u hu => by
  rcases numT_mem hu with h1 | rfl
  · exact h u h1
  · exact hk
theorem NoS.one {ts : List Term} {t : Term} (h : NoS ts) : OneS (numT ts t).1 t := fun u hu hk => by
  rcases numT_mem hu with h1 | rfl
  · exact absurd hk (h u h1)
  · rfl
theorem OneS.num {ts : List Term} {t s : Term} (h : OneS ts s) (hk : ¬ t.kind = 103) : OneS (numT ts t).1 s := fun u hu e => by
  rcases numT_mem hu with h1 | rfl
  · exact h u h1 e
  · exact absurd e hk
theorem made_one {ts : List Term} {secret epoch : List UInt8} {l : Ltr} {p : List UInt8} (h : NoS ts) : OneS (madeL ts secret epoch l p).ts4 ⟨103,[secret,headL l ++ vtext (madeL ts secret epoch l p).hash]⟩ := by
  unfold madeL
  exact (((h.num (t := keyTm epoch l) (fun e => absurd (show (107 : UInt8) = 103 from e) (by decide))).num (fun e => absurd (show (98 : UInt8) = 103 from e) (by decide))).num (fun e => absurd (show (104 : UInt8) = 103 from e) (by decide))).one
theorem check_other {ts ts' : List Term} {secret epoch : List UInt8} {l x : Ltr} {p sgn : List UInt8} {M : Made} {N N' : Nat} (F : MadeF ts secret epoch l p M N) (hp : M.ts4 <+: ts') (ho : OneS ts' ⟨103, [secret, headL l ++ vtext M.hash]⟩) (g : GT N' ts') (hN : N' ≤ 999990) (hn : namedL l = true) (hne : x ≠ boxed l M.box M.sig) :
    (checkL ts' sgn x).2.2 ≠ 0 ∧ (checkL ts' sgn x).2.1 = zeroK := by
  unfold checkL
  by_cases hr : rightL x = false
  · rw [if_pos hr]
    exact ⟨by simp,rfl⟩
  · rw [if_neg hr]
    have hr : rightL x = true := by simpa using hr
    obtain ⟨xn,lb,lsg⟩ := right_facts hr
    have wh : wfT (hashT x) := wf1 (by decide) (by omega)
    have g1 : GT (N' + 1) (numT ts' (hashT x)).1 := g.num wh (fun e => absurd (show (104 : UInt8) = 112 from e) (by decide))
    have ho1 := ho.num (t := hashT x) (fun e => absurd (show (104 : UInt8) = 103 from e) (by decide))
    have nh := (numT_nm ts' (hashT x))
    by_cases hv : verT (numT ts' (hashT x)).1 sgn (headL x ++ vtext (hashL ts' x)) x.sig = false
    · rw [if_pos hv]
      exact ⟨by simp,rfl⟩
    · exfalso
      have hv : verT (numT ts' (hashT x)).1 sgn (headL x ++ vtext (hashL ts' x)) x.sig = true := by simpa using hv
      unfold verT at hv
      rw [Bool.and_eq_true,Bool.and_eq_true,Bool.and_eq_true] at hv
      obtain ⟨⟨⟨v1,v2⟩,v3⟩,v4⟩ := hv
      obtain ⟨m1,k1⟩ := Nm.of_find v1
      have e1 := ho1 _ m1.mem k1
      rw [e1] at m1 v4
      have v4' : headL l ++ vtext M.hash = headL x ++ vtext (hashL ts' x) := by simpa [partT] using v4
      have hxd := named_hd xn
      have hld := named_hd hn
      have lh : (hashL ts' x).length = 32 := by unfold hashL; rw [nameT_length]; rfl
      obtain ⟨⟨a1,a2,a3,a4,a5⟩,a6⟩ := headL_inj hld hxd v4'
      obtain ⟨a7,-⟩ := vtext_inj (s := []) (t := []) (by rw [F.lh]; omega) (by rw [lh]; omega) (by simpa using a6)
      have nM := ((F.h.up F.p4).up hp).up nh.2
      have nx : Nm (numT ts' (hashT x)).1 (hashT x) (hashL ts' x) := nh.1
      rw [← a7] at nx
      have e2 := nM.inj nx (by have := g1.len; omega)
      have e3 : M.box = x.box := by simpa [hashT] using e2
      have ns := (F.s.up hp).up nh.2
      have e4 := ns.one m1 g1.nd
      apply hne
      obtain ⟨b1,b2,b3,b4,b5,b6,b7⟩ := x
      simp only [boxed] at *
      subst a1 a2 a3 a4 a5 e3 e4
      rfl
end Go.Proofs.Ytaehlpkinbpmbaa
end
