/-
  The document's letters: keys, and letters that are made.
  Conditions: none. Lemmas only.
-/
import Derived.Test.YtaehlpkinbpmbaaLtK
set_option linter.all false
set_option linter.unusedSimpArgs false
set_option linter.unusedVariables false
set_option maxRecDepth 20000
set_option maxHeartbeats 16000000
namespace Go.Proofs.Ytaehlpkinbpmbaa
open Go Go.Abs Go.Proofs
theorem GT.ok {N : Nat} {ts : List Term} (g : GT N ts) : ∀ x ∈ ts,okT x := fun x hx => (g.wf x hx).1
theorem kill_mid1 {G : AH} {a b : Nat} {o y : AObj} (h : G a = none) (h1 : ¬ a = b) : ((G.set a o).set b y).kill a = G.set b y := bH h h1
theorem kill_set_comm {G : AH} {a c : Nat} {z : AObj} (h : ¬ a = c) : (G.set c z).kill a = (G.kill a).set c z := by
  funext w
  simp only [AH.set,AH.kill]
  by_cases e : w = a
  · subst e
    rw [if_pos rfl,if_neg h,if_pos rfl]
  · by_cases e2 : w = c
    · rw [if_neg e,if_pos e2,if_pos e2]
    · rw [if_neg e,if_neg e2,if_neg e2,if_neg e]
theorem kill_mid2 {G : AH} {a b c : Nat} {o y z : AObj} (h : G a = none) (h1 : ¬ a = b) (h2 : ¬ a = c) : (((G.set a o).set b y).set c z).kill a = (G.set b y).set c z := by
  rw [kill_set_comm h2,bH h h1]
theorem vkey_pure {N : Nat} (ts : List Term) (d : Nat) (epoch : List UInt8) (l : Ltr) (he : epoch.length = 32) (g : GT N ts) (hN : N ≤ 999990) : APure Try.prog 57 [vaultV ts d,bytesV epoch,.agg (ltrC l)] (.tup [vaultV (numT ts (keyTm epoch l)).1 d,bytesV (keyN ts epoch l)]) := by
  have h1 := rnum_pure [] (by simp) l.kind
  have h2 := rnum_pure (vnum l.kind) (by have := vnum_length l.kind; omega) l.author
  rw [List.nil_append] at h1
  have wk : wfT (keyTm epoch l) := wf2 (k := 107) (by decide) (by omega) (by have := keyI_len l; omega)
  have hd := vderive_pure ts d epoch (keyI l) wk.1 g.ok (by have := g.len; omega)
  rw [if_pos he] at hd
  have e : bytesV (keyI l) = .imm 0 (bw (vnum l.kind ++ vnum l.author)) ((vnum l.kind).length + (vnum l.author).length) := by rw [bytesV,List.length_append]
  rw [e] at hd
  rw [show nameT ⟨107,[epoch,keyI l]⟩ (numT ts ⟨107,[epoch,keyI l]⟩).2 = keyN ts epoch l from rfl] at hd
  rw [show (numT ts ⟨107,[epoch,keyI l]⟩).1 = (numT ts (keyTm epoch l)).1 from rfl] at hd
  generalize keyN ts epoch l = K at *
  generalize (numT ts (keyTm epoch l)).1 = ts1 at *
  obtain ⟨kd,au,ep,nu,pv,bx,sg⟩ := l
  simp only [ltrC,vaultV] at *
  refine az (c := ⟨Try.prog,19,[(1,[1,0,0,1,0,0,1,0,0,0,0,2,0]),(1000000,[5,3])],[],[]⟩) (rs := [ResultVar.cell 6 54,ResultVar.tmp 7]) Try.mixed Try.func57 rfl rfl rfl (Nat.le_of_ble_eq_true rfl) (by kernel_rfl) fun H => ?_
  simp (disch := omega) only [↓aI,↓zP,aD,zD,aS,simprocAttr,Try.facts,zA]
  intro b3 hb30 hb3 b5 hb50 hb5 b6 hb60 hb6
  have n35 := bK hb5
  have n36 := bK (am hb6)
  have n56 := bK hb6
  have f5 := am hb5
  have f6 := am (am hb6)
  simp (disch := omega) only [↓aI,↓zP,aD,zD,aS,simprocAttr,Try.facts,zA,aP,n35,n36,n56,kill_mid1 hb5 n56,kill_mid1 hb3 n36,kill_mid2 hb3 n35 n36]
  first | refine CallK.p (h1) ?_ | refine CallP.i (h1) ?_
  simp (disch := omega) only [↓aI,↓zP,aD,zD,aS,simprocAttr,Try.facts,zA,aP,n35,n36,n56]
  first | refine CallK.p (h2) ?_ | refine CallP.i (h2) ?_
  simp (disch := omega) only [↓aI,↓zP,aD,zD,aS,simprocAttr,Try.facts,zA,aP,n35,n36,n56]
  first | refine CallK.p (hd) ?_ | refine CallP.i (hd) ?_
  simp (disch := omega) only [↓aI,↓zP,aD,zD,aS,simprocAttr,Try.facts,zA,aP,n35,n36,n56,ah]
  first | exact ⟨rfl,Sub.set_new f6⟩ | exact Sub.set_new f6 | (trace_state; fail)
end Go.Proofs.Ytaehlpkinbpmbaa
