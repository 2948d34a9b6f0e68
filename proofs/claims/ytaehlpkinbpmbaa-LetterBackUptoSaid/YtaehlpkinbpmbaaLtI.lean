/-
  Letters that are read back and opened, in plain Lean.
  Conditions: none. Lemmas only.
-/
import Derived.Test.YtaehlpkinbpmbaaLtB
import Derived.Test.YtaehlpkinbpmbaaLetG5
set_option linter.all false
set_option linter.unusedSimpArgs false
set_option linter.unusedVariables false
set_option maxRecDepth 20000
set_option maxHeartbeats 4000000
namespace Go.Proofs.Ytaehlpkinbpmbaa
open Go Go.Abs Go.Proofs
theorem rdTx_of {b : List UInt8} {most : Nat} (h : b.length ≤ most) (hm : most ≤ 1099511627776) (r : List UInt8) : rdTx (vtext b ++ r,0) most = ((r,0),b) := by
  unfold rdTx vtext
  have hv := vread_vnum (z := (b.length : Int)) (by omega) (by omega) (b ++ r)
  simp only [List.append_assoc,hv,if_true,Int.toNat_natCast,List.drop_left]
  rw [if_neg (by omega),if_neg (by simp only [List.length_append]; omega),List.take_left]
theorem rdLtr_of {l : Ltr} (h : rightL l = true) (r : List UInt8) : rdLtr (dq l ++ r,0) = ((r,0),l) := by
  obtain ⟨hn,lb,ls⟩ := right_facts h
  obtain ⟨f1,f2,f3,f4,f5,f6,f7,f8,f9⟩ := named_facts hn
  have e : dq l ++ r = vnum l.kind ++ (vnum l.author ++ (vnum l.epoch ++ (vnum l.number ++ (vtext l.prev ++ (vtext l.box ++ (vtext l.sig ++ r)))))) := by
    unfold dq headL
    simp only [List.append_assoc]
  have r1 := rdNum_of (z := l.kind) (lo := 2) (hi := 4) ⟨f1,f2⟩ (by omega)
  have r2 := rdNum_of (z := l.author) (lo := 0) (hi := 4) ⟨f3,f4⟩ (by omega)
  have r3 := rdNum_of (z := l.epoch) (lo := 1) (hi := 65536) ⟨f5,f6⟩ (by omega)
  have r4 := rdNum_of (z := l.number) (lo := 1) (hi := 1048576) ⟨f7,f8⟩ (by omega)
  have r5 := rdTx_of (b := l.prev) (most := 64) (by omega) (by omega)
  have r6 := rdTx_of (b := l.box) (most := 4112) lb (by omega)
  have r7 := rdTx_of (b := l.sig) (most := 64) (by omega) (by omega)
  unfold rdLtr
  rw [e]
  simp only [r1,r2,r3,r4,r5,r6,r7]
  unfold fixL
  rw [if_pos rfl,if_pos h]
theorem made_right {ts : List Term} {secret epoch : List UInt8} {l : Ltr} {p : List UInt8} {M : Made} {N : Nat} (F : MadeF ts secret epoch l p M N) (hn : namedL l = true) (hb : bxR (p.length + 16) = true) : rightL (boxed l M.box M.sig) = true := by
  show (namedL l && bxR M.box.length && decide (M.sig.length = 64)) = true
  rw [hn,F.lb,hb,F.ls]; rfl
theorem unpad_pad {text : List UInt8} (h : (padL text).2 = 0) : unpadL (padL text).1 = (text,0) := by
  have c : (bktL text.length).2 = 0 := by
    unfold padL at h
    by_cases c : (bktL text.length).2 = 0
    · exact c
    · rw [if_neg c] at h
      exact absurd h c
  have e : padL text = (padN text (bktL text.length).1.toNat,0) := by unfold padL; rw [if_pos c]
  obtain ⟨l1,l2,l3⟩ := bkt_lt c
  have ht : (padN text (bktL text.length).1.toNat).take text.length = text := by
    unfold padN
    exact List.take_left
  have hl : text.length < (padN text (bktL text.length).1.toNat).length := by
    unfold padN
    rw [List.length_append,List.length_cons]
    omega
  have := unpad_hit (b := padN text (bktL text.length).1.toNat) (n := text.length) hl (by rw [ht,e])
  rw [e]
  simp only []
  rw [this,ht]
theorem open_made {ts ts' : List Term} {secret epoch text : List UInt8} {l : Ltr} {M : Made} {N N' : Nat} (F : MadeF ts secret epoch l (padL text).1 M N) (hp : M.ts4 <+: ts') (g : GT N' ts') (hN : N' ≤ 1000000) (hn : namedL l = true) (ht : (padL text).2 = 0) (he : epoch.length = 32) :
    openL ts' epoch (boxed l M.box M.sig) = (ts',text,0) := by
  have hr := made_right F hn (pad_bx ht)
  obtain ⟨K,lK,nK,nB⟩ := F.k
  have hkt : keyTm epoch (boxed l M.box M.sig) = keyTm epoch l := rfl
  have hoK := numT_old ((nK.up (F.p2.trans (F.p3.trans (F.p4.trans hp))))) g.nd
  have nB' := nB.up (F.p3.trans (F.p4.trans hp))
  have hf := nB'.find (by have := g.len; omega)
  have hop : opT ts' K l.number.toNat (headL l) M.box = true := by
    unfold opT
    simp only [] at hf
    rw [hf]
    simp [partT]
  have hP : openP ts' K (boxed l M.box M.sig) = ((padL text).1,0) := by
    unfold openP
    show (if opT ts' K l.number.toNat (headL l) M.box = true then (partT (findT ts' M.box 98).1 3,(0 : Int)) else ([],9)) = _
    rw [if_pos hop]
    simp only [] at hf
    rw [hf]
    simp [partT]
  unfold openL keyN
  rw [hkt,hoK.1,hoK.2,hP,if_neg (by rw [hr]; simp [he]),if_neg (by simp),unpad_pad ht]
theorem open_wrong {ts ts' : List Term} {secret epoch other : List UInt8} {l : Ltr} {p : List UInt8} {M : Made} {N N' : Nat} (F : MadeF ts secret epoch l p M N) (hp : M.ts4 <+: ts') (g : GT N' ts') (hN : N' ≤ 999990) (hn : namedL l = true) (hb : bxR (p.length + 16) = true) (he : other.length = 32) (hne : other ≠ epoch) :
    openL ts' other (boxed l M.box M.sig) = ((numT ts' (keyTm other l)).1,[],9) := by
  have hr := made_right F hn hb
  obtain ⟨K,lK,nK,nB⟩ := F.k
  have hkt : keyTm other (boxed l M.box M.sig) = keyTm other l := rfl
  have wk : wfT (keyTm other l) := wf2 (k := 107) (by decide) (by omega) (by have := keyI_len l; omega)
  have g1 := g.num wk (fun e => absurd (show (107 : UInt8) = 112 from e) (by decide))
  have nn := numT_nm ts' (keyTm other l)
  have nB' := (nB.up (F.p3.trans (F.p4.trans hp))).up nn.2
  have nK' := (nK.up (F.p2.trans (F.p3.trans (F.p4.trans hp)))).up nn.2
  have hf := nB'.find (by have := g1.len; omega)
  have hKn : K ≠ keyN ts' other l := fun e => by
    rw [e] at nK'
    have := nK'.inj nn.1 (by have := g1.len; omega)
    simp at this
    exact hne this.symm
  have hop : opT (numT ts' (keyTm other l)).1 (keyN ts' other l) l.number.toNat (headL l) M.box = false := by
    unfold opT
    simp only [] at hf
    rw [hf]
    simp [partT,hKn]
  have hP : openP (numT ts' (keyTm other l)).1 (keyN ts' other l) (boxed l M.box M.sig) = ([],9) := by
    unfold openP
    show (if opT (numT ts' (keyTm other l)).1 (keyN ts' other l) l.number.toNat (headL l) M.box = true then (partT (findT (numT ts' (keyTm other l)).1 M.box 98).1 3,(0 : Int)) else ([],9)) = _
    rw [if_neg (by rw [hop]; simp)]
  unfold openL
  rw [hkt,show keyN ts' other (boxed l M.box M.sig) = keyN ts' other l from rfl,hP,if_neg (by rw [hr]; simp [he]),if_pos (by simp)]
theorem check_wrong {ts ts' : List Term} {secret other epoch : List UInt8} {l : Ltr} {p sgn : List UInt8} {M : Made} {N N' : Nat} (F : MadeF ts secret epoch l p M N) (hp : M.ts4 <+: ts') (g : GT N' ts') (hN : N' ≤ 1000000) (ks : Nm ts' ⟨118, [other]⟩ sgn) (hn : namedL l = true) (hb : bxR (p.length + 16) = true) (hne : other ≠ secret) :
    checkL ts' sgn (boxed l M.box M.sig) = (ts',zeroK,10) := by
  have hr := made_right F hn hb
  have ho := numT_old (F.h.up (F.p4.trans hp)) g.nd
  have h1 := ks.find (by have := g.len; omega)
  have h2 := (F.s.up hp).find (by have := g.len; omega)
  simp only [] at h1 h2
  have hv : verT ts' sgn (headL l ++ vtext M.hash) M.sig = false := by
    unfold verT
    rw [h1,h2]
    simp [partT]
    exact fun e => absurd e.symm hne
  unfold checkL hashL hashT
  simp only [boxed] at *
  rw [hr,ho.1,ho.2,if_neg (by simp)]
  rw [show headL ({ kind := l.kind,author := l.author,epoch := l.epoch,number := l.number,prev := l.prev,box := M.box,sig := M.sig } : Ltr) = headL l from rfl,hv,if_pos rfl]
theorem draw_ne {ts : List Term} {i j : Nat} {x y : List UInt8} (hx : Nm ts (drawT i) x) (hy : Nm ts (drawT j) y) (hl : ts.length ≤ 1000000) (hi : i < 1000000) (hj : j < 1000000) (hij : i ≠ j) : x ≠ y := fun e => by
  subst e
  have := hx.inj hy hl
  simp only [drawT,Term.mk.injEq,List.cons.injEq,and_true,true_and] at this
  exact hij (by have := lowL8_inj (by omega) (by omega) this; omega)
end Go.Proofs.Ytaehlpkinbpmbaa
