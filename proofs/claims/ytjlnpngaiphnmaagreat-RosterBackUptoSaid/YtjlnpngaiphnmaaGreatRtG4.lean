/-
  Several texts in one: each says what it proves.
  Conditions: none. Lemmas only.
-/
import Derived.Test.YtjlnpngaiphnmaaGreatRtG2
set_option linter.all false
section
set_option linter.unusedSimpArgs false
set_option linter.unusedVariables false
set_option maxRecDepth 20000
set_option maxHeartbeats 8000000
namespace Go.Abs
open Go Go.RowKit
theorem imm_of_own {C : Ctx} (g : WR C) {k n : Nat} {cs : List AV} {e s : Nat} (hk : C.H k = some (.cells cs e s)) (hn : n * s ≤ cs.length) {u : Value} (h : VR C (.own k 0 n) u) : VR { C with H := C.H.kill k } (.imm 0 (cs.take (n * s)) n) u := by
  have hs : ∀ x o,(C.H.kill k) x = some o → C.H x = some o := fun x o hx => by simp only [AH.kill] at hx; split at hx; cases hx; exact hx
  have h2 := frz_sound (H0 := C.H.kill k) g hs h (fun hh off m cs' e' s' e1 e2 => by cases e1; rw [hk] at e2; cases e2; omega)
  have e0 : (C.H.kill k) k = none := by simp [AH.kill]
  have e5 : frz C.H (C.H.kill k) (.own k 0 n) = .imm 0 (cs.take (n * s)) n := by simp [frz,e0,hk]
  rw [e5] at h2
  exact h2
theorem G.own {N : Nat} {Γ : Ctx} {B : Nat} {σ : Sg} {H : AH} {a : Act} {w : World} (g : G N Γ B σ H a w) {x k n : Nat} {cs : List AV} {e s : Nat} (hx : σ x = .own k 0 n) (hk : H k = some (.cells cs e s)) (hn : n * s ≤ cs.length) : G N Γ B (σ.put (some x) (.imm 0 (cs.take (n * s)) n)) (H.kill k) a w := by
  obtain ⟨m,i,c,g1,g2,g3,g4,g5⟩ := g
  have hs : ∀ x o,(H.kill k) x = some o → H x = some o := fun x o hx => by simp only [AH.kill] at hx; split at hx; cases hx; exact hx
  have ew := Ext.weaken (C := ⟨H,m,i,c,w⟩) (H.kill k) hs
  refine ⟨m,i,c,g1.weaken (H.kill k) hs,g2.trans ew,g3,g4.ext ew,fun t => ?_⟩
  show VR _ (if t = x then _ else σ t) _
  split
  · rename_i ht
    subst ht
    have h1 := g5 t
    rw [hx] at h1
    exact imm_of_own (C := ⟨H,m,i,c,w⟩) g1 hk hn h1
  · exact (g5 t).ext ew
theorem loop_fz {c : Cfg} {a : Code} {Q : Exit → Sg → AH → Prop} {σ : Sg} {H : AH} {t : Tie a} {t' : Tie Q} {k n : Nat} {cs : List AV} {e s : Nat} (x : Nat) (hx : σ x = .own k 0 n) (hk : H k = some (.cells cs e s)) (hn : n * s ≤ cs.length)
    (h : LoopT c a Q (σ.put (some x) (.imm 0 (cs.take (n * s)) n)) (H.kill k) ⟨⟩ ⟨⟩) : LoopT c a Q σ H t t' := by
  intro Γ ro ok B a' w g
  exact h Γ ro ok B a' w (g.own hx hk hn)
end Go.Abs
namespace Go.Proofs.YtjlnpngaiphnmaaGreat
open Go Go.Abs Go.Proofs
def bitB (w : UInt8) (i : Nat) : Bool := decide (w.toNat / 2 ^ i % 2 = 1)
def iV (mem : List Mem) (w : UInt8) : Nat → List Mem
  | 0 => []
  | i + 1 => iV mem w i ++ (if bitB w i then [mem.getD i noM] else [])
theorem put_mid (X : List AV) (a b c b' : AV) : bG (X ++ [a,b,c]) (X.length + 1) [b'] = X ++ [a,b',c] := by
  have e1 : (X ++ [a,b,c]).take (X.length + 1) = X ++ [a] := by
    rw [show X ++ [a,b,c] = (X ++ [a]) ++ [b,c] by simp]
    exact List.take_left' (by simp)
  have e2 : (X ++ [a,b,c]).drop (X.length + 1 + [b'].length) = [c] := by
    rw [show X ++ [a,b,c] = (X ++ [a,b]) ++ [c] by simp]
    exact List.drop_left' (by simp)
  rw [ah,e1,e2]
  simp
theorem pickA_len (mem : List Mem) (w : UInt8) : ∀ i,(iV mem w i).length ≤ i
  | 0 => Nat.le_refl _
  | i + 1 => by
    have := pickA_len mem w i
    rw [iV,List.length_append]
    split
    · simp; omega
    · simp; omega
def strangeM (mem : List Mem) (w : Nat) (ms : List Mem) : List Mem := match ms.getLast? with
  | none => []
  | some x => ms.dropLast ++ [{ x with pub := (mem.getD ((w + 1) % 5) noM).pub }]
def iL (mem : List Mem) (t : DoM) : List Mem := if t.strange then strangeM mem t.who.toNat (iV mem t.who 5) else iV mem t.who 5
def iU (ms : List Mem) (q : Int) : List Mem → List Nd
  | [] => []
  | m :: l => if gG ms m.id then iU ms q l else ⟨m.id,q⟩ :: iU ms q l
def ic (mem : List Mem) (g : LogM) (t : DoM) : List Nd := if t.auto then iU (iL mem t) ((t.by_.toNat % 4 : Nat) : Int) (jN g g.L.length) else t.ends
abbrev iD (h r : Nat) (ts : List Term) (d : Nat) (ad : List UInt8) (g : LogM) (secs sgns : List (List UInt8)) (mem : List Mem) (made : List Ent) : List AV :=
  [.ptr h 0,.ptr r 0,.imm 0 (dC ts) ts.length,.sc (.int .i64 (d : Nat)),eu ad,.imm 0 (g.L.flatMap fX) g.L.length,.imm 0 (g.D.map eu) g.D.length,fZ secs,fZ sgns,fE mem,.imm 0 (made.flatMap fX) made.length]
def OwnM (H : AH) (ms : List Mem) (v : AV) (E : AH) : Prop :=
  (ms = [] ∧ v = .sc (.slice none 0 0) ∧ E = H) ∨ (ms ≠ [] ∧ ∃ k,v = .own k 0 ms.length ∧ k ≠ 0 ∧ H k = none ∧ E = H.set k (.cells (ms.flatMap fL) 30 3))
theorem mem_getD {mem : List Mem} {i : Nat} (h : i < mem.length) : mem.getD i noM = mem[i] := by simp [List.getD,h]
theorem bit_at (w : UInt8) (i : Nat) (h : i < 5) : (bits BinOp.and IntKind.u8 ((w.toNat : Int).fdiv (2 ^ min i 8)) 1 == 1) = bitB w i := by
  have hlt : w.toNat / 2 ^ i < 256 := Nat.lt_of_le_of_lt (Nat.div_le_self _ _) w.toNat_lt
  have hq : (UInt8.ofNat (w.toNat / 2 ^ i)).toNat = w.toNat / 2 ^ i := by
    simp only [UInt8.toNat_ofNat']
    exact Nat.mod_eq_of_lt hlt
  have e : ((w.toNat : Int).fdiv (2 ^ min i 8)) = ((UInt8.ofNat (w.toNat / 2 ^ i)).toNat : Int) := by
    rw [hq,Nat.min_eq_left (by omega),show ((2 : Int) ^ i) = ((2 ^ i : Nat) : Int) from by simp]
    rw [Int.fdiv_eq_ediv_of_nonneg _ (Int.natCast_nonneg _)]
    first | exact (Int.natCast_ediv _ _).symm | exact (Int.ofNat_ediv _ _).symm | rfl | simp
  have h1 := n8and (UInt8.ofNat (w.toNat / 2 ^ i)) 1
  rw [show ((1 : UInt8).toNat : Int) = 1 from rfl] at h1
  rw [e,h1,UInt8.toNat_and,hq]
  unfold bitB
  rw [show (1 : UInt8).toNat = 1 from rfl,Nat.and_one_is_mod]
  generalize w.toNat / 2 ^ i = x
  by_cases hx : x % 2 = 1
  · simp [hx]
  · have : x % 2 = 0 := by omega
    simp [this]
theorem memsM_len {g : LogM} (hg : OkG g) (n : Int) : (jN g n).length ≤ 5 := by
  unfold jN
  split
  · simp
  · rename_i h
    have hi : n.toNat - 1 < g.L.length := by omega
    simp only [List.getD,List.getElem?_eq_getElem hi,Option.getD_some]
    exact (gH (fy (hg.ent _ (List.getElem_mem hi))).2.2.2.1).1
theorem choice_pure (h r : Nat) (ts : List Term) (d : Nat) (ad : List UInt8) (g : LogM) (secs sgns : List (List UInt8)) (mem : List Mem) (made : List Ent) (t : DoM) (hg : OkG g) (hm5 : mem.length = 5) (hme : ∀ m ∈ mem, m.pub.length ≤ 1000000 ∧ m.sgn.length ≤ 1000000) :
    APure Tryz.prog 18 [.agg (iD h r ts d ad g secs sgns mem made),.agg (doC t)] (.tup [fE (iL mem t),fY (ic mem g t)]) := by
  have hmc : (mem.flatMap fL).length = mem.length * 3 := fF fU _
  have hml := fun i (h : i < mem.length) => iJ h
  have hrm := rmems_pure (ad := ad) hg g.L.length (by have := hg.few; omega)
  have hnc := hg.few
  intro H
  suffices X : ACalls Tryz.prog 18 [.agg (iD h r ts d ad g secs sgns mem made),.agg (doC t)] H (fun v H' => Abs.Sub H H' ∧ (v = .tup [fE (iL mem t),fY (ic mem g t)] ∨ ∃ k,v = .tup [.own k 0 (iL mem t).length,fY (ic mem g t)] ∧ H k = none ∧ H' k = some (.cells ((iL mem t).flatMap fL) 30 3))) by
    refine X.freeze ?_
    rintro v H' ⟨hs,rfl | ⟨k,rfl,fk,vk⟩⟩
    · exact ⟨_,H,hs,.same,rfl,rfl⟩
    · have hcl : ((iL mem t).flatMap fL).length = (iL mem t).length * 3 := fF fU _
      refine ⟨_,H,hs,.tup2 (Frz.own vk fk (by rw [hcl]; exact Nat.le_refl _)) .same,?_,rfl⟩
      rw [List.take_of_length_le (by rw [hcl]; exact Nat.le_refl _)]
  obtain ⟨who,strange,auto,ends,by_,take,at_,change⟩ := t
  unfold ic
  generalize hMM : iL mem ⟨who,strange,auto,ends,by_,take,at_,change⟩ = MM
  unfold iL at hMM
  simp only [] at hMM ⊢
  have hgm := memsM_len hg g.L.length
  generalize jN g g.L.length = gs at *
  have hgc : (gs.flatMap fL).length = gs.length * 3 := fF fU _
  have hgl := fun i (h : i < gs.length) => iJ h
  have hwq : (IntKind.i64.wrap (by_.toNat : Int)).tmod 4 = ((by_.toNat % 4 : Nat) : Int) := by
    have := by_.toNat_lt
    rw [iw (by omega)]
    exact jd _ 4
  generalize hNN : (if auto then iU MM ((by_.toNat % 4 : Nat) : Int) gs else ends) = NN
  refine ao (c := ⟨Tryz.prog,95,[(11,[0,0,1,0,0]),(1000000,[3,2]),(1000015,[10]),(1000016,[11]),(4000018,[3,6,8,66,67,68]),(4000016,[3,6,8,10,12,66,67,68]),(4000013,[3,6,8,66,67,68]),(4000011,[4,5]),(4000009,[2,3,6]),(4000008,[2,3,6,37]),(4000006,[2,3,6,13]),(4000005,[2,3,6,7,13,21])],[1000029],[]⟩) (rs := [ResultVar.tmp 4,ResultVar.tmp 5]) Tryz.mixed Tryz.func18 rfl rfl rfl (Nat.le_of_ble_eq_true rfl) (by kernel_rfl) ?_
  simp (disch := omega) only [↓aI,↓zP,aD,zD,aS,Nat.reduceBEq,Nat.reduceLT,reduceCtorEq,↓reduceIte,Nat.reduceMul,Nat.reduceAdd,Nat.reduceLeDiff,Nat.reduceEqDiff,Int.reduceToNat,Nat.reduceSub,Nat.reduceMod,Nat.reduceDiv,Int.reducePow,Int.reduceLE,Int.reduceNeg,Int.reduceLT,Int.reduceBEq,Int.reduceBNe,Int.reduceEq,Tryz.facts,zA,doC]
  intro b2 hb20 hb2 b3 hb30 hb3
  have n23 := bK hb3
  have f3 := am hb3
  simp (disch := omega) only [↓aI,↓zP,aD,zD,aS,Nat.reduceBEq,Nat.reduceLT,reduceCtorEq,↓reduceIte,Nat.reduceMul,Nat.reduceAdd,Nat.reduceLeDiff,Nat.reduceEqDiff,Int.reduceToNat,Nat.reduceSub,Nat.reduceMod,Nat.reduceDiv,Int.reducePow,Int.reduceLE,Int.reduceNeg,Int.reduceLT,Int.reduceBEq,Int.reduceBNe,Int.reduceEq,Tryz.facts,zA,aP,n23,gU,gj,gI f3,aj hb2,aj f3]
  refine br (c := ⟨Tryz.prog,95,[(11,[0,0,1,0,0]),(1000000,[3,2]),(1000015,[10]),(1000016,[11]),(4000018,[3,6,8,66,67,68]),(4000016,[3,6,8,10,12,66,67,68]),(4000013,[3,6,8,66,67,68]),(4000011,[4,5]),(4000009,[2,3,6]),(4000008,[2,3,6,37]),(4000006,[2,3,6,13]),(4000005,[2,3,6,7,13,21])],[1000029],[]⟩) Tryz.mixed (by kernel_rfl) (fun mm σ E => ∃ (i : Nat),i + mm = 5 ∧ OwnM H (iV mem who i) (σ 6) E ∧
    σ 2 = .ip (iD h r ts d ad g secs sgns mem made) 0 ∧ σ 3 = .ip [.sc (.int .u8 who.toNat),.sc (.bool strange),.sc (.bool auto),fY ends,.sc (.int .u8 by_.toNat),.sc (.bool take),.sc (.int .i64 at_),.sc (.int .u8 change.toNat)] 0 ∧ σ 13 = .sc (.int .i64 (i : Nat))) 5 ?_ ?_
  · refine ⟨0,by omega,.inl ⟨rfl,?_,rfl⟩,?_⟩
    · simp (disch := omega) only [↓aI,↓zP,aD,zD,aS,Nat.reduceBEq,Nat.reduceLT,reduceCtorEq,↓reduceIte,Nat.reduceMul,Nat.reduceAdd,Nat.reduceLeDiff,Nat.reduceEqDiff,Int.reduceToNat,Nat.reduceSub,Nat.reduceMod,Nat.reduceDiv,Int.reducePow,Int.reduceLE,Int.reduceNeg,Int.reduceLT,Int.reduceBEq,Int.reduceBNe,Int.reduceEq,Tryz.facts,zA]
    · simp (disch := omega) only [↓aI,↓zP,aD,zD,aS,Nat.reduceBEq,Nat.reduceLT,reduceCtorEq,↓reduceIte,Nat.reduceMul,Nat.reduceAdd,Nat.reduceLeDiff,Nat.reduceEqDiff,Int.reduceToNat,Nat.reduceSub,Nat.reduceMod,Nat.reduceDiv,Int.reducePow,Int.reduceLE,Int.reduceNeg,Int.reduceLT,Int.reduceBEq,Int.reduceBNe,Int.reduceEq,Tryz.facts,zA]
  · rintro mm σ E ⟨i,him,ho,s2,s3,s13⟩
    by_cases hlt : i < 5
    · have hl := hml i (by omega)
      have hc3 : i * 3 + 3 ≤ mem.length * 3 := by omega
      have hp : iV mem who (i + 1) = iV mem who i ++ (if bitB who i then [mem.getD i noM] else []) := rfl
      rw [mem_getD (by omega)] at hp
      have hbit := bit_at who i hlt
      generalize hx : mem[i] = x at *
      have hx0 : ∃ a b c,x = ⟨a,b,c⟩ := ⟨_,_,_,rfl⟩
      obtain ⟨xa,xb,xc,rfl⟩ := hx0
      simp only [] at hl
      generalize hbb : bitB who i = bb at *
      cases bb
      · simp (disch := omega) only [↓aI,↓zP,aD,zD,aS,Nat.reduceBEq,Nat.reduceLT,reduceCtorEq,↓reduceIte,Nat.reduceMul,Nat.reduceAdd,Nat.reduceLeDiff,Nat.reduceEqDiff,Int.reduceToNat,Nat.reduceSub,Nat.reduceMod,Nat.reduceDiv,Int.reducePow,Int.reduceLE,Int.reduceNeg,Int.reduceLT,Int.reduceBEq,Int.reduceBNe,Int.reduceEq,Tryz.facts,zA,s2,s3,s13,hbit]
        refine ⟨mm - 1,by omega,i + 1,by omega,?_,rfl⟩
        rw [hp,if_neg (by decide),List.append_nil]
        exact ho
      · rw [if_pos rfl] at hp
        have hcl : ((iV mem who i).flatMap fL).length = (iV mem who i).length * 3 := fF fU _
        have hpl : (iV mem who i).length ≤ i := pickA_len _ _ _
        have hfc : ((iV mem who (i + 1)).flatMap fL) = (iV mem who i).flatMap fL ++ [.sc (.int .i64 xa),eu xb,eu xc] := by rw [hp,List.flatMap_append]; simp [fL]
        have hfl : (iV mem who (i + 1)).length = (iV mem who i).length + 1 := by rw [hp,List.length_append]; rfl
        have hne : iV mem who (i + 1) ≠ [] := fun h0 => by rw [h0] at hfl; simp at hfl
        rcases ho with ⟨h1,h2,rfl⟩ | ⟨h1,k,h2,hk0,hk,rfl⟩
        · rw [h1] at hfc hfl hcl
          simp (disch := omega) only [↓aI,↓zP,aD,zD,aS,Nat.reduceBEq,Nat.reduceLT,reduceCtorEq,↓reduceIte,Nat.reduceMul,Nat.reduceAdd,Nat.reduceLeDiff,Nat.reduceEqDiff,Int.reduceToNat,Nat.reduceSub,Nat.reduceMod,Nat.reduceDiv,Int.reducePow,Int.reduceLE,Int.reduceNeg,Int.reduceLT,Int.reduceBEq,Int.reduceBNe,Int.reduceEq,Tryz.facts,zA,s2,s3,s13,hbit,h2,hmc,hl,hc3]
          intro k' hk0' hk'
          exact ⟨mm - 1,by omega,i + 1,by omega,.inr ⟨hne,k',by rw [hfl]; rfl,hk0',hk',by rw [hfc]; rfl⟩,rfl⟩
        · have hv := set_get (H := H) (k := k) (o := .cells ((iV mem who i).flatMap fL) 30 3)
          simp (disch := omega) only [↓aI,↓zP,aD,zD,aS,Nat.reduceBEq,Nat.reduceLT,reduceCtorEq,↓reduceIte,Nat.reduceMul,Nat.reduceAdd,Nat.reduceLeDiff,Nat.reduceEqDiff,Int.reduceToNat,Nat.reduceSub,Nat.reduceMod,Nat.reduceDiv,Int.reducePow,Int.reduceLE,Int.reduceNeg,Int.reduceLT,Int.reduceBEq,Int.reduceBNe,Int.reduceEq,Tryz.facts,zA,s2,s3,s13,hbit,h2,hmc,hl,hc3,hv,hcl,aj hk]
          intro k' hk'
          have hk0' : k' ≠ 0 := by
            rcases hk' with rfl | ⟨h,_⟩
            · exact hk0
            · exact h
          have hk' : H k' = none := by
            rcases hk' with rfl | ⟨_,h⟩
            · exact hk
            · exact am h
          refine ⟨mm - 1,by omega,i + 1,by omega,.inr ⟨hne,k',by rw [hfl],hk0',hk',?_⟩,rfl⟩
          rw [hfc,List.take_of_length_le (by rw [hcl]; exact Nat.le_refl _)]
    · obtain rfl : i = 5 := by omega
      have hpl : (iV mem who 5).length ≤ 5 := pickA_len _ _ _
      have hR : strangeM mem who.toNat (iV mem who 5) = strangeM mem who.toNat (iV mem who 5) := rfl
      generalize iV mem who 5 = P at *
      have hcl : (P.flatMap fL).length = P.length * 3 := fF fU _
      cases strange
      · rw [if_neg (by decide)] at hMM
        subst hMM
        rcases ho with ⟨h1,h2,hEH⟩ | ⟨h1,k,h2,hk0,hk,rfl⟩
        · subst h1
          have hEH := hEH.symm
          subst hEH
          cases auto
          all_goals simp only [if_true,if_false,Bool.false_eq_true] at hNN
          · subst hNN
            simp (disch := omega) only [↓aI,↓zP,aD,zD,aS,Nat.reduceBEq,Nat.reduceLT,reduceCtorEq,↓reduceIte,Nat.reduceMul,Nat.reduceAdd,Nat.reduceLeDiff,Nat.reduceEqDiff,Int.reduceToNat,Nat.reduceSub,Nat.reduceMod,Nat.reduceDiv,Int.reducePow,Int.reduceLE,Int.reduceNeg,Int.reduceLT,Int.reduceBEq,Int.reduceBNe,Int.reduceEq,Tryz.facts,zA,s2,s3,s13,h2]
            exact ⟨_,rfl,_,Abs.Sub.refl _,Abs.Sub.refl _,.inl rfl⟩
          · simp (disch := omega) only [↓aI,↓zP,aD,zD,aS,Nat.reduceBEq,Nat.reduceLT,reduceCtorEq,↓reduceIte,Nat.reduceMul,Nat.reduceAdd,Nat.reduceLeDiff,Nat.reduceEqDiff,Int.reduceToNat,Nat.reduceSub,Nat.reduceMod,Nat.reduceDiv,Int.reducePow,Int.reduceLE,Int.reduceNeg,Int.reduceLT,Int.reduceBEq,Int.reduceBNe,Int.reduceEq,Tryz.facts,zA,s2,s3,s13,h2]
            first | refine CallK.p (hrm) ?_ | refine CallP.i (hrm) ?_
            simp (disch := omega) only [↓aI,↓zP,aD,zD,aS,Nat.reduceBEq,Nat.reduceLT,reduceCtorEq,↓reduceIte,Nat.reduceMul,Nat.reduceAdd,Nat.reduceLeDiff,Nat.reduceEqDiff,Int.reduceToNat,Nat.reduceSub,Nat.reduceMod,Nat.reduceDiv,Int.reducePow,Int.reduceLE,Int.reduceNeg,Int.reduceLT,Int.reduceBEq,Int.reduceBNe,Int.reduceEq,Tryz.facts,zA,s2,s3,s13,h2]
            refine jn 6 (by simp (disch := omega) only [↓aI,↓zP,aD,zD,aS,Nat.reduceBEq,Nat.reduceLT,reduceCtorEq,↓reduceIte,Nat.reduceMul,Nat.reduceAdd,Nat.reduceLeDiff,Nat.reduceEqDiff,Int.reduceToNat,Nat.reduceSub,Nat.reduceMod,Nat.reduceDiv,Int.reducePow,Int.reduceLE,Int.reduceNeg,Int.reduceLT,Int.reduceBEq,Int.reduceBNe,Int.reduceEq,Tryz.facts]) fun k6 hk60 hk6 => ?_
            refine jn 8 (by simp (disch := omega) only [↓aI,↓zP,aD,zD,aS,Nat.reduceBEq,Nat.reduceLT,reduceCtorEq,↓reduceIte,Nat.reduceMul,Nat.reduceAdd,Nat.reduceLeDiff,Nat.reduceEqDiff,Int.reduceToNat,Nat.reduceSub,Nat.reduceMod,Nat.reduceDiv,Int.reducePow,Int.reduceLE,Int.reduceNeg,Int.reduceLT,Int.reduceBEq,Int.reduceBNe,Int.reduceEq,Tryz.facts]) fun kt hkt0 hkt => ?_
            refine br (c := ⟨Tryz.prog,95,[(11,[0,0,1,0,0]),(1000000,[3,2]),(1000015,[10]),(1000016,[11]),(4000018,[3,6,8,66,67,68]),(4000016,[3,6,8,10,12,66,67,68]),(4000013,[3,6,8,66,67,68]),(4000011,[4,5]),(4000009,[2,3,6]),(4000008,[2,3,6,37]),(4000006,[2,3,6,13]),(4000005,[2,3,6,7,13,21])],[1000029],[]⟩) Tryz.mixed (by kernel_rfl) (fun mm σ E => ∃ (i kt : Nat) (o : AObj) (acc : List Nd),i + mm = gs.length ∧ acc.length ≤ i ∧ acc ++ iU [] ((by_.toNat % 4 : Nat) : Int) (gs.drop i) = NN ∧ E kt = some o ∧ kt ≠ 0 ∧ H kt = none ∧ Abs.Sub H E ∧ cy 84 2 o (acc.length * 2) ∧
              σ 3 = .ip [.sc (.int .u8 who.toNat),.sc (.bool false),.sc (.bool true),fY ends,.sc (.int .u8 by_.toNat),.sc (.bool take),.sc (.int .i64 at_),.sc (.int .u8 change.toNat)] 0 ∧ (∃ k6,σ 6 = .imm k6 (([] : List Mem).flatMap fL) ([] : List Mem).length) ∧ σ 8 = .imm kt (acc.flatMap ndC) acc.length ∧ σ 66 = fE gs ∧ σ 67 = .sc (.int .i64 (gs.length : Nat)) ∧ σ 68 = .sc (.int .i64 (i : Nat))) gs.length ?_ ?_
            · refine ⟨0,kt,.nilt,[],by omega,by simp,hNN,set_get,hkt0,(am hkt),((Sub.set_new hk6).set_free (am hkt)),.inr ⟨rfl,rfl⟩,?_⟩
              simp (disch := omega) only [↓aI,↓zP,aD,zD,aS,Nat.reduceBEq,Nat.reduceLT,reduceCtorEq,↓reduceIte,Nat.reduceMul,Nat.reduceAdd,Nat.reduceLeDiff,Nat.reduceEqDiff,Int.reduceToNat,Nat.reduceSub,Nat.reduceMod,Nat.reduceDiv,Int.reducePow,Int.reduceLE,Int.reduceNeg,Int.reduceLT,Int.reduceBEq,Int.reduceBNe,Int.reduceEq,Tryz.facts,zA,s3]
              first | exact ⟨⟨k6,rfl⟩,rfl⟩ | exact ⟨⟨0,rfl⟩,rfl⟩ | exact ⟨k6,rfl⟩ | exact ⟨0,rfl⟩ | exact ⟨_,rfl⟩
            · rintro mm σ E ⟨i,kt,o,acc,him,hai,hf,vk,hkt0,hkH,hsE,ho,s3,⟨k6,s6⟩,s8,s66,s67,s68⟩
              by_cases hlt : i < gs.length
              · have hd : gs.drop i = gs[i] :: gs.drop (i + 1) := List.drop_eq_getElem_cons hlt
                have hl := hgl i hlt
                have hc3 : i * 3 + 3 ≤ gs.length * 3 := by omega
                have his := jU (.sc (.int .i64 0)) (.imm 0 [] 0) [] (.imm 0 [] 0) (.imm 0 [] 0) (.imm 0 [] 0) (.imm 0 [] 0) (gs[i]).id (by simp)
                rw [hd,iU,show gG [] (gs[i]).id = (fu [] (gs[i]).id).2 from rfl] at hf
                have hacl : (acc.flatMap ndC).length = acc.length * 2 := fF gZ _
                generalize fu [] (gs[i]).id = fm at *
                generalize gs[i] = x at *
                obtain ⟨xa,xb,xc⟩ := x
                obtain ⟨⟨fa,fb,fc⟩,ff⟩ := fm
                simp only [fL] at his hl hf
                cases ff
                · simp (disch := omega) only [↓aI,↓zP,aD,zD,aS,Nat.reduceBEq,Nat.reduceLT,reduceCtorEq,↓reduceIte,Nat.reduceMul,Nat.reduceAdd,Nat.reduceLeDiff,Nat.reduceEqDiff,Int.reduceToNat,Nat.reduceSub,Nat.reduceMod,Nat.reduceDiv,Int.reducePow,Int.reduceLE,Int.reduceNeg,Int.reduceLT,Int.reduceBEq,Int.reduceBNe,Int.reduceEq,Tryz.facts,zA,s3,s6,s8,s66,s67,s68,hgc,hl,hc3,ah]
                  intro b10 hb100 hb10
                  rw [aj hb10]
                  try simp (disch := omega) only [↓aI,↓zP,aD,zD,aS,Nat.reduceBEq,Nat.reduceLT,reduceCtorEq,↓reduceIte,Nat.reduceMul,Nat.reduceAdd,Nat.reduceLeDiff,Nat.reduceEqDiff,Int.reduceToNat,Nat.reduceSub,Nat.reduceMod,Nat.reduceDiv,Int.reducePow,Int.reduceLE,Int.reduceNeg,Int.reduceLT,Int.reduceBEq,Int.reduceBNe,Int.reduceEq,Tryz.facts,zA,s3,s6,s8,s66,s67,s68]
                  first | refine CallK.p (his) ?_ | refine CallP.i (his) ?_
                  simp (disch := omega) only [↓aI,↓zP,aD,zD,aS,Nat.reduceBEq,Nat.reduceLT,reduceCtorEq,↓reduceIte,Nat.reduceMul,Nat.reduceAdd,Nat.reduceLeDiff,Nat.reduceEqDiff,Int.reduceToNat,Nat.reduceSub,Nat.reduceMod,Nat.reduceDiv,Int.reducePow,Int.reduceLE,Int.reduceNeg,Int.reduceLT,Int.reduceBEq,Int.reduceBNe,Int.reduceEq,Tryz.facts,zA,s3,s6,s8,s66,s67,s68]
                  intro b11 hb110 hb11
                  have hac5 : acc.length ≤ 5 := by omega
                  try simp (disch := omega) only [↓aI,↓zP,aD,zD,aS,Nat.reduceBEq,Nat.reduceLT,reduceCtorEq,↓reduceIte,Nat.reduceMul,Nat.reduceAdd,Nat.reduceLeDiff,Nat.reduceEqDiff,Int.reduceToNat,Nat.reduceSub,Nat.reduceMod,Nat.reduceDiv,Int.reducePow,Int.reduceLE,Int.reduceNeg,Int.reduceLT,Int.reduceBEq,Int.reduceBNe,Int.reduceEq,Tryz.facts,zA,s3,s6,s8,s66,s67,s68,aj hb11,vk,ho,hacl,hwq]
                  intro k' o' hk0' hk' ho'
                  have hfa : (acc ++ [(⟨xa,((by_.toNat % 4 : Nat) : Int)⟩ : Nd)]).flatMap ndC = acc.flatMap ndC ++ [.sc (.int .i64 xa),.sc (.int .i64 ((by_.toNat % 4 : Nat) : Int))] := by rw [List.flatMap_append]; rfl
                  have hfl : (acc ++ [(⟨xa,((by_.toNat % 4 : Nat) : Int)⟩ : Nd)]).length = acc.length + 1 := by rw [List.length_append]; rfl
                  refine ⟨mm - 1,by omega,i + 1,k',o',acc ++ [⟨xa,((by_.toNat % 4 : Nat) : Int)⟩],by omega,by omega,?_,set_get,hk0',hsE.free hk',(hsE.kill_free hkH).set_free (hsE.free hk'),?_,⟨_,rfl⟩,?_,rfl⟩
                  · rw [List.append_assoc]
                    exact hf
                  · rw [hfl]
                    simpa [Nat.add_mul] using ho'
                  · rw [hfa,hfl]
                · simp (disch := omega) only [↓aI,↓zP,aD,zD,aS,Nat.reduceBEq,Nat.reduceLT,reduceCtorEq,↓reduceIte,Nat.reduceMul,Nat.reduceAdd,Nat.reduceLeDiff,Nat.reduceEqDiff,Int.reduceToNat,Nat.reduceSub,Nat.reduceMod,Nat.reduceDiv,Int.reducePow,Int.reduceLE,Int.reduceNeg,Int.reduceLT,Int.reduceBEq,Int.reduceBNe,Int.reduceEq,Tryz.facts,zA,s3,s6,s8,s66,s67,s68,hgc,hl,hc3,ah]
                  intro b10 hb100 hb10
                  rw [aj hb10]
                  try simp (disch := omega) only [↓aI,↓zP,aD,zD,aS,Nat.reduceBEq,Nat.reduceLT,reduceCtorEq,↓reduceIte,Nat.reduceMul,Nat.reduceAdd,Nat.reduceLeDiff,Nat.reduceEqDiff,Int.reduceToNat,Nat.reduceSub,Nat.reduceMod,Nat.reduceDiv,Int.reducePow,Int.reduceLE,Int.reduceNeg,Int.reduceLT,Int.reduceBEq,Int.reduceBNe,Int.reduceEq,Tryz.facts,zA,s3,s6,s8,s66,s67,s68]
                  first | refine CallK.p (his) ?_ | refine CallP.i (his) ?_
                  simp (disch := omega) only [↓aI,↓zP,aD,zD,aS,Nat.reduceBEq,Nat.reduceLT,reduceCtorEq,↓reduceIte,Nat.reduceMul,Nat.reduceAdd,Nat.reduceLeDiff,Nat.reduceEqDiff,Int.reduceToNat,Nat.reduceSub,Nat.reduceMod,Nat.reduceDiv,Int.reducePow,Int.reduceLE,Int.reduceNeg,Int.reduceLT,Int.reduceBEq,Int.reduceBNe,Int.reduceEq,Tryz.facts,zA,s3,s6,s8,s66,s67,s68]
                  intro b11 hb110 hb11
                  rw [aj hb11]
                  try simp (disch := omega) only [↓aI,↓zP,aD,zD,aS,Nat.reduceBEq,Nat.reduceLT,reduceCtorEq,↓reduceIte,Nat.reduceMul,Nat.reduceAdd,Nat.reduceLeDiff,Nat.reduceEqDiff,Int.reduceToNat,Nat.reduceSub,Nat.reduceMod,Nat.reduceDiv,Int.reducePow,Int.reduceLE,Int.reduceNeg,Int.reduceLT,Int.reduceBEq,Int.reduceBNe,Int.reduceEq,Tryz.facts,zA,s3,s6,s8,s66,s67,s68]
                  exact ⟨mm - 1,by omega,i + 1,kt,o,acc,by omega,by omega,hf,vk,hkt0,hkH,hsE,ho,⟨_,rfl⟩,rfl,rfl⟩
              · obtain rfl : i = gs.length := by omega
                rw [List.drop_length,iU,List.append_nil] at hf
                subst hf
                simp (disch := omega) only [↓aI,↓zP,aD,zD,aS,Nat.reduceBEq,Nat.reduceLT,reduceCtorEq,↓reduceIte,Nat.reduceMul,Nat.reduceAdd,Nat.reduceLeDiff,Nat.reduceEqDiff,Int.reduceToNat,Nat.reduceSub,Nat.reduceMod,Nat.reduceDiv,Int.reducePow,Int.reduceLE,Int.reduceNeg,Int.reduceLT,Int.reduceBEq,Int.reduceBNe,Int.reduceEq,Tryz.facts,zA,s3,s6,s8,s66,s67,s68]
                exact ⟨_,rfl,_,Abs.Sub.refl _,hsE,.inl rfl⟩
        · have hv := set_get (H := H) (k := k) (o := .cells (P.flatMap fL) 30 3)
          cases auto
          all_goals simp only [if_true,if_false,Bool.false_eq_true] at hNN
          · subst hNN
            simp (disch := omega) only [↓aI,↓zP,aD,zD,aS,Nat.reduceBEq,Nat.reduceLT,reduceCtorEq,↓reduceIte,Nat.reduceMul,Nat.reduceAdd,Nat.reduceLeDiff,Nat.reduceEqDiff,Int.reduceToNat,Nat.reduceSub,Nat.reduceMod,Nat.reduceDiv,Int.reducePow,Int.reduceLE,Int.reduceNeg,Int.reduceLT,Int.reduceBEq,Int.reduceBNe,Int.reduceEq,Tryz.facts,zA,s2,s3,s13,h2,hv,hcl]
            exact ⟨_,rfl,_,Abs.Sub.refl _,Sub.set_new hk,.inr ⟨k,rfl,hk,set_get⟩⟩
          · simp (disch := omega) only [↓aI,↓zP,aD,zD,aS,Nat.reduceBEq,Nat.reduceLT,reduceCtorEq,↓reduceIte,Nat.reduceMul,Nat.reduceAdd,Nat.reduceLeDiff,Nat.reduceEqDiff,Int.reduceToNat,Nat.reduceSub,Nat.reduceMod,Nat.reduceDiv,Int.reducePow,Int.reduceLE,Int.reduceNeg,Int.reduceLT,Int.reduceBEq,Int.reduceBNe,Int.reduceEq,Tryz.facts,zA,s2,s3,s13,h2,hv,hcl]
            first | refine CallK.p (hrm) ?_ | refine CallP.i (hrm) ?_
            simp (disch := omega) only [↓aI,↓zP,aD,zD,aS,Nat.reduceBEq,Nat.reduceLT,reduceCtorEq,↓reduceIte,Nat.reduceMul,Nat.reduceAdd,Nat.reduceLeDiff,Nat.reduceEqDiff,Int.reduceToNat,Nat.reduceSub,Nat.reduceMod,Nat.reduceDiv,Int.reducePow,Int.reduceLE,Int.reduceNeg,Int.reduceLT,Int.reduceBEq,Int.reduceBNe,Int.reduceEq,Tryz.facts,zA,s2,s3,s13,h2]
            refine loop_fz 6 (by simp (disch := omega) only [↓aI,↓zP,aD,zD,aS,Nat.reduceBEq,Nat.reduceLT,reduceCtorEq,↓reduceIte,Nat.reduceMul,Nat.reduceAdd,Nat.reduceLeDiff,Nat.reduceEqDiff,Int.reduceToNat,Nat.reduceSub,Nat.reduceMod,Nat.reduceDiv,Int.reducePow,Int.reduceLE,Int.reduceNeg,Int.reduceLT,Int.reduceBEq,Int.reduceBNe,Int.reduceEq,Tryz.facts]; rfl) hv (by rw [hcl]; exact Nat.le_refl _) ?_
            rw [List.take_of_length_le (by rw [hcl]; exact Nat.le_refl _),aj hk]
            refine jn 8 (by simp (disch := omega) only [↓aI,↓zP,aD,zD,aS,Nat.reduceBEq,Nat.reduceLT,reduceCtorEq,↓reduceIte,Nat.reduceMul,Nat.reduceAdd,Nat.reduceLeDiff,Nat.reduceEqDiff,Int.reduceToNat,Nat.reduceSub,Nat.reduceMod,Nat.reduceDiv,Int.reducePow,Int.reduceLE,Int.reduceNeg,Int.reduceLT,Int.reduceBEq,Int.reduceBNe,Int.reduceEq,Tryz.facts]) fun kt hkt0 hkt => ?_
            refine br (c := ⟨Tryz.prog,95,[(11,[0,0,1,0,0]),(1000000,[3,2]),(1000015,[10]),(1000016,[11]),(4000018,[3,6,8,66,67,68]),(4000016,[3,6,8,10,12,66,67,68]),(4000013,[3,6,8,66,67,68]),(4000011,[4,5]),(4000009,[2,3,6]),(4000008,[2,3,6,37]),(4000006,[2,3,6,13]),(4000005,[2,3,6,7,13,21])],[1000029],[]⟩) Tryz.mixed (by kernel_rfl) (fun mm σ E => ∃ (i kt : Nat) (o : AObj) (acc : List Nd),i + mm = gs.length ∧ acc.length ≤ i ∧ acc ++ iU P ((by_.toNat % 4 : Nat) : Int) (gs.drop i) = NN ∧ E kt = some o ∧ kt ≠ 0 ∧ H kt = none ∧ Abs.Sub H E ∧ cy 84 2 o (acc.length * 2) ∧
              σ 3 = .ip [.sc (.int .u8 who.toNat),.sc (.bool false),.sc (.bool true),fY ends,.sc (.int .u8 by_.toNat),.sc (.bool take),.sc (.int .i64 at_),.sc (.int .u8 change.toNat)] 0 ∧ (∃ k6,σ 6 = .imm k6 (P.flatMap fL) P.length) ∧ σ 8 = .imm kt (acc.flatMap ndC) acc.length ∧ σ 66 = fE gs ∧ σ 67 = .sc (.int .i64 (gs.length : Nat)) ∧ σ 68 = .sc (.int .i64 (i : Nat))) gs.length ?_ ?_
            · refine ⟨0,kt,.nilt,[],by omega,by simp,hNN,set_get,hkt0,hkt,(Sub.set_new hkt),.inr ⟨rfl,rfl⟩,?_⟩
              simp (disch := omega) only [↓aI,↓zP,aD,zD,aS,Nat.reduceBEq,Nat.reduceLT,reduceCtorEq,↓reduceIte,Nat.reduceMul,Nat.reduceAdd,Nat.reduceLeDiff,Nat.reduceEqDiff,Int.reduceToNat,Nat.reduceSub,Nat.reduceMod,Nat.reduceDiv,Int.reducePow,Int.reduceLE,Int.reduceNeg,Int.reduceLT,Int.reduceBEq,Int.reduceBNe,Int.reduceEq,Tryz.facts,zA,s3]
              first | exact ⟨⟨k6,rfl⟩,rfl⟩ | exact ⟨⟨0,rfl⟩,rfl⟩ | exact ⟨k6,rfl⟩ | exact ⟨0,rfl⟩ | exact ⟨_,rfl⟩
            · rintro mm σ E ⟨i,kt,o,acc,him,hai,hf,vk,hkt0,hkH,hsE,ho,s3,⟨k6,s6⟩,s8,s66,s67,s68⟩
              by_cases hlt : i < gs.length
              · have hd : gs.drop i = gs[i] :: gs.drop (i + 1) := List.drop_eq_getElem_cons hlt
                have hl := hgl i hlt
                have hc3 : i * 3 + 3 ≤ gs.length * 3 := by omega
                have his := jU (.sc (.int .i64 0)) (.imm 0 [] 0) P (.imm 0 [] 0) (.imm 0 [] 0) (.imm 0 [] 0) (.imm 0 [] 0) (gs[i]).id (by omega)
                rw [hd,iU,show gG P (gs[i]).id = (fu P (gs[i]).id).2 from rfl] at hf
                have hacl : (acc.flatMap ndC).length = acc.length * 2 := fF gZ _
                generalize fu P (gs[i]).id = fm at *
                generalize gs[i] = x at *
                obtain ⟨xa,xb,xc⟩ := x
                obtain ⟨⟨fa,fb,fc⟩,ff⟩ := fm
                simp only [fL] at his hl hf
                cases ff
                · simp (disch := omega) only [↓aI,↓zP,aD,zD,aS,Nat.reduceBEq,Nat.reduceLT,reduceCtorEq,↓reduceIte,Nat.reduceMul,Nat.reduceAdd,Nat.reduceLeDiff,Nat.reduceEqDiff,Int.reduceToNat,Nat.reduceSub,Nat.reduceMod,Nat.reduceDiv,Int.reducePow,Int.reduceLE,Int.reduceNeg,Int.reduceLT,Int.reduceBEq,Int.reduceBNe,Int.reduceEq,Tryz.facts,zA,s3,s6,s8,s66,s67,s68,hgc,hl,hc3,ah]
                  intro b10 hb100 hb10
                  rw [aj hb10]
                  try simp (disch := omega) only [↓aI,↓zP,aD,zD,aS,Nat.reduceBEq,Nat.reduceLT,reduceCtorEq,↓reduceIte,Nat.reduceMul,Nat.reduceAdd,Nat.reduceLeDiff,Nat.reduceEqDiff,Int.reduceToNat,Nat.reduceSub,Nat.reduceMod,Nat.reduceDiv,Int.reducePow,Int.reduceLE,Int.reduceNeg,Int.reduceLT,Int.reduceBEq,Int.reduceBNe,Int.reduceEq,Tryz.facts,zA,s3,s6,s8,s66,s67,s68]
                  first | refine CallK.p (his) ?_ | refine CallP.i (his) ?_
                  simp (disch := omega) only [↓aI,↓zP,aD,zD,aS,Nat.reduceBEq,Nat.reduceLT,reduceCtorEq,↓reduceIte,Nat.reduceMul,Nat.reduceAdd,Nat.reduceLeDiff,Nat.reduceEqDiff,Int.reduceToNat,Nat.reduceSub,Nat.reduceMod,Nat.reduceDiv,Int.reducePow,Int.reduceLE,Int.reduceNeg,Int.reduceLT,Int.reduceBEq,Int.reduceBNe,Int.reduceEq,Tryz.facts,zA,s3,s6,s8,s66,s67,s68]
                  intro b11 hb110 hb11
                  have hac5 : acc.length ≤ 5 := by omega
                  try simp (disch := omega) only [↓aI,↓zP,aD,zD,aS,Nat.reduceBEq,Nat.reduceLT,reduceCtorEq,↓reduceIte,Nat.reduceMul,Nat.reduceAdd,Nat.reduceLeDiff,Nat.reduceEqDiff,Int.reduceToNat,Nat.reduceSub,Nat.reduceMod,Nat.reduceDiv,Int.reducePow,Int.reduceLE,Int.reduceNeg,Int.reduceLT,Int.reduceBEq,Int.reduceBNe,Int.reduceEq,Tryz.facts,zA,s3,s6,s8,s66,s67,s68,aj hb11,vk,ho,hacl,hwq]
                  intro k' o' hk0' hk' ho'
                  have hfa : (acc ++ [(⟨xa,((by_.toNat % 4 : Nat) : Int)⟩ : Nd)]).flatMap ndC = acc.flatMap ndC ++ [.sc (.int .i64 xa),.sc (.int .i64 ((by_.toNat % 4 : Nat) : Int))] := by rw [List.flatMap_append]; rfl
                  have hfl : (acc ++ [(⟨xa,((by_.toNat % 4 : Nat) : Int)⟩ : Nd)]).length = acc.length + 1 := by rw [List.length_append]; rfl
                  refine ⟨mm - 1,by omega,i + 1,k',o',acc ++ [⟨xa,((by_.toNat % 4 : Nat) : Int)⟩],by omega,by omega,?_,set_get,hk0',hsE.free hk',(hsE.kill_free hkH).set_free (hsE.free hk'),?_,⟨_,rfl⟩,?_,rfl⟩
                  · rw [List.append_assoc]
                    exact hf
                  · rw [hfl]
                    simpa [Nat.add_mul] using ho'
                  · rw [hfa,hfl]
                · simp (disch := omega) only [↓aI,↓zP,aD,zD,aS,Nat.reduceBEq,Nat.reduceLT,reduceCtorEq,↓reduceIte,Nat.reduceMul,Nat.reduceAdd,Nat.reduceLeDiff,Nat.reduceEqDiff,Int.reduceToNat,Nat.reduceSub,Nat.reduceMod,Nat.reduceDiv,Int.reducePow,Int.reduceLE,Int.reduceNeg,Int.reduceLT,Int.reduceBEq,Int.reduceBNe,Int.reduceEq,Tryz.facts,zA,s3,s6,s8,s66,s67,s68,hgc,hl,hc3,ah]
                  intro b10 hb100 hb10
                  rw [aj hb10]
                  try simp (disch := omega) only [↓aI,↓zP,aD,zD,aS,Nat.reduceBEq,Nat.reduceLT,reduceCtorEq,↓reduceIte,Nat.reduceMul,Nat.reduceAdd,Nat.reduceLeDiff,Nat.reduceEqDiff,Int.reduceToNat,Nat.reduceSub,Nat.reduceMod,Nat.reduceDiv,Int.reducePow,Int.reduceLE,Int.reduceNeg,Int.reduceLT,Int.reduceBEq,Int.reduceBNe,Int.reduceEq,Tryz.facts,zA,s3,s6,s8,s66,s67,s68]
                  first | refine CallK.p (his) ?_ | refine CallP.i (his) ?_
                  simp (disch := omega) only [↓aI,↓zP,aD,zD,aS,Nat.reduceBEq,Nat.reduceLT,reduceCtorEq,↓reduceIte,Nat.reduceMul,Nat.reduceAdd,Nat.reduceLeDiff,Nat.reduceEqDiff,Int.reduceToNat,Nat.reduceSub,Nat.reduceMod,Nat.reduceDiv,Int.reducePow,Int.reduceLE,Int.reduceNeg,Int.reduceLT,Int.reduceBEq,Int.reduceBNe,Int.reduceEq,Tryz.facts,zA,s3,s6,s8,s66,s67,s68]
                  intro b11 hb110 hb11
                  rw [aj hb11]
                  try simp (disch := omega) only [↓aI,↓zP,aD,zD,aS,Nat.reduceBEq,Nat.reduceLT,reduceCtorEq,↓reduceIte,Nat.reduceMul,Nat.reduceAdd,Nat.reduceLeDiff,Nat.reduceEqDiff,Int.reduceToNat,Nat.reduceSub,Nat.reduceMod,Nat.reduceDiv,Int.reducePow,Int.reduceLE,Int.reduceNeg,Int.reduceLT,Int.reduceBEq,Int.reduceBNe,Int.reduceEq,Tryz.facts,zA,s3,s6,s8,s66,s67,s68]
                  exact ⟨mm - 1,by omega,i + 1,kt,o,acc,by omega,by omega,hf,vk,hkt0,hkH,hsE,ho,⟨_,rfl⟩,rfl,rfl⟩
              · obtain rfl : i = gs.length := by omega
                rw [List.drop_length,iU,List.append_nil] at hf
                subst hf
                simp (disch := omega) only [↓aI,↓zP,aD,zD,aS,Nat.reduceBEq,Nat.reduceLT,reduceCtorEq,↓reduceIte,Nat.reduceMul,Nat.reduceAdd,Nat.reduceLeDiff,Nat.reduceEqDiff,Int.reduceToNat,Nat.reduceSub,Nat.reduceMod,Nat.reduceDiv,Int.reducePow,Int.reduceLE,Int.reduceNeg,Int.reduceLT,Int.reduceBEq,Int.reduceBNe,Int.reduceEq,Tryz.facts,zA,s3,s6,s8,s66,s67,s68]
                exact ⟨_,rfl,_,Abs.Sub.refl _,hsE,.inl rfl⟩
      · rw [if_pos rfl] at hMM
        rcases ho with ⟨h1,h2,hEH⟩ | ⟨h1,k,h2,hk0,hk,rfl⟩
        · subst h1
          have hEH := hEH.symm
          subst hEH
          have hMM : MM = [] := hMM.symm
          subst hMM
          cases auto
          all_goals simp only [if_true,if_false,Bool.false_eq_true] at hNN
          · subst hNN
            simp (disch := omega) only [↓aI,↓zP,aD,zD,aS,Nat.reduceBEq,Nat.reduceLT,reduceCtorEq,↓reduceIte,Nat.reduceMul,Nat.reduceAdd,Nat.reduceLeDiff,Nat.reduceEqDiff,Int.reduceToNat,Nat.reduceSub,Nat.reduceMod,Nat.reduceDiv,Int.reducePow,Int.reduceLE,Int.reduceNeg,Int.reduceLT,Int.reduceBEq,Int.reduceBNe,Int.reduceEq,Tryz.facts,zA,s2,s3,s13,h2]
            exact ⟨_,rfl,_,Abs.Sub.refl _,Abs.Sub.refl _,.inl rfl⟩
          · simp (disch := omega) only [↓aI,↓zP,aD,zD,aS,Nat.reduceBEq,Nat.reduceLT,reduceCtorEq,↓reduceIte,Nat.reduceMul,Nat.reduceAdd,Nat.reduceLeDiff,Nat.reduceEqDiff,Int.reduceToNat,Nat.reduceSub,Nat.reduceMod,Nat.reduceDiv,Int.reducePow,Int.reduceLE,Int.reduceNeg,Int.reduceLT,Int.reduceBEq,Int.reduceBNe,Int.reduceEq,Tryz.facts,zA,s2,s3,s13,h2]
            first | refine CallK.p (hrm) ?_ | refine CallP.i (hrm) ?_
            simp (disch := omega) only [↓aI,↓zP,aD,zD,aS,Nat.reduceBEq,Nat.reduceLT,reduceCtorEq,↓reduceIte,Nat.reduceMul,Nat.reduceAdd,Nat.reduceLeDiff,Nat.reduceEqDiff,Int.reduceToNat,Nat.reduceSub,Nat.reduceMod,Nat.reduceDiv,Int.reducePow,Int.reduceLE,Int.reduceNeg,Int.reduceLT,Int.reduceBEq,Int.reduceBNe,Int.reduceEq,Tryz.facts,zA,s2,s3,s13,h2]
            refine jn 6 (by simp (disch := omega) only [↓aI,↓zP,aD,zD,aS,Nat.reduceBEq,Nat.reduceLT,reduceCtorEq,↓reduceIte,Nat.reduceMul,Nat.reduceAdd,Nat.reduceLeDiff,Nat.reduceEqDiff,Int.reduceToNat,Nat.reduceSub,Nat.reduceMod,Nat.reduceDiv,Int.reducePow,Int.reduceLE,Int.reduceNeg,Int.reduceLT,Int.reduceBEq,Int.reduceBNe,Int.reduceEq,Tryz.facts]) fun k6 hk60 hk6 => ?_
            refine jn 8 (by simp (disch := omega) only [↓aI,↓zP,aD,zD,aS,Nat.reduceBEq,Nat.reduceLT,reduceCtorEq,↓reduceIte,Nat.reduceMul,Nat.reduceAdd,Nat.reduceLeDiff,Nat.reduceEqDiff,Int.reduceToNat,Nat.reduceSub,Nat.reduceMod,Nat.reduceDiv,Int.reducePow,Int.reduceLE,Int.reduceNeg,Int.reduceLT,Int.reduceBEq,Int.reduceBNe,Int.reduceEq,Tryz.facts]) fun kt hkt0 hkt => ?_
            refine br (c := ⟨Tryz.prog,95,[(11,[0,0,1,0,0]),(1000000,[3,2]),(1000015,[10]),(1000016,[11]),(4000018,[3,6,8,66,67,68]),(4000016,[3,6,8,10,12,66,67,68]),(4000013,[3,6,8,66,67,68]),(4000011,[4,5]),(4000009,[2,3,6]),(4000008,[2,3,6,37]),(4000006,[2,3,6,13]),(4000005,[2,3,6,7,13,21])],[1000029],[]⟩) Tryz.mixed (by kernel_rfl) (fun mm σ E => ∃ (i kt : Nat) (o : AObj) (acc : List Nd),i + mm = gs.length ∧ acc.length ≤ i ∧ acc ++ iU [] ((by_.toNat % 4 : Nat) : Int) (gs.drop i) = NN ∧ E kt = some o ∧ kt ≠ 0 ∧ H kt = none ∧ Abs.Sub H E ∧ cy 84 2 o (acc.length * 2) ∧
              σ 3 = .ip [.sc (.int .u8 who.toNat),.sc (.bool true),.sc (.bool true),fY ends,.sc (.int .u8 by_.toNat),.sc (.bool take),.sc (.int .i64 at_),.sc (.int .u8 change.toNat)] 0 ∧ (∃ k6,σ 6 = .imm k6 (([] : List Mem).flatMap fL) ([] : List Mem).length) ∧ σ 8 = .imm kt (acc.flatMap ndC) acc.length ∧ σ 66 = fE gs ∧ σ 67 = .sc (.int .i64 (gs.length : Nat)) ∧ σ 68 = .sc (.int .i64 (i : Nat))) gs.length ?_ ?_
            · refine ⟨0,kt,.nilt,[],by omega,by simp,hNN,set_get,hkt0,(am hkt),((Sub.set_new hk6).set_free (am hkt)),.inr ⟨rfl,rfl⟩,?_⟩
              simp (disch := omega) only [↓aI,↓zP,aD,zD,aS,Nat.reduceBEq,Nat.reduceLT,reduceCtorEq,↓reduceIte,Nat.reduceMul,Nat.reduceAdd,Nat.reduceLeDiff,Nat.reduceEqDiff,Int.reduceToNat,Nat.reduceSub,Nat.reduceMod,Nat.reduceDiv,Int.reducePow,Int.reduceLE,Int.reduceNeg,Int.reduceLT,Int.reduceBEq,Int.reduceBNe,Int.reduceEq,Tryz.facts,zA,s3]
              first | exact ⟨⟨k6,rfl⟩,rfl⟩ | exact ⟨⟨0,rfl⟩,rfl⟩ | exact ⟨k6,rfl⟩ | exact ⟨0,rfl⟩ | exact ⟨_,rfl⟩
            · rintro mm σ E ⟨i,kt,o,acc,him,hai,hf,vk,hkt0,hkH,hsE,ho,s3,⟨k6,s6⟩,s8,s66,s67,s68⟩
              by_cases hlt : i < gs.length
              · have hd : gs.drop i = gs[i] :: gs.drop (i + 1) := List.drop_eq_getElem_cons hlt
                have hl := hgl i hlt
                have hc3 : i * 3 + 3 ≤ gs.length * 3 := by omega
                have his := jU (.sc (.int .i64 0)) (.imm 0 [] 0) [] (.imm 0 [] 0) (.imm 0 [] 0) (.imm 0 [] 0) (.imm 0 [] 0) (gs[i]).id (by simp)
                rw [hd,iU,show gG [] (gs[i]).id = (fu [] (gs[i]).id).2 from rfl] at hf
                have hacl : (acc.flatMap ndC).length = acc.length * 2 := fF gZ _
                generalize fu [] (gs[i]).id = fm at *
                generalize gs[i] = x at *
                obtain ⟨xa,xb,xc⟩ := x
                obtain ⟨⟨fa,fb,fc⟩,ff⟩ := fm
                simp only [fL] at his hl hf
                cases ff
                · simp (disch := omega) only [↓aI,↓zP,aD,zD,aS,Nat.reduceBEq,Nat.reduceLT,reduceCtorEq,↓reduceIte,Nat.reduceMul,Nat.reduceAdd,Nat.reduceLeDiff,Nat.reduceEqDiff,Int.reduceToNat,Nat.reduceSub,Nat.reduceMod,Nat.reduceDiv,Int.reducePow,Int.reduceLE,Int.reduceNeg,Int.reduceLT,Int.reduceBEq,Int.reduceBNe,Int.reduceEq,Tryz.facts,zA,s3,s6,s8,s66,s67,s68,hgc,hl,hc3,ah]
                  intro b10 hb100 hb10
                  rw [aj hb10]
                  try simp (disch := omega) only [↓aI,↓zP,aD,zD,aS,Nat.reduceBEq,Nat.reduceLT,reduceCtorEq,↓reduceIte,Nat.reduceMul,Nat.reduceAdd,Nat.reduceLeDiff,Nat.reduceEqDiff,Int.reduceToNat,Nat.reduceSub,Nat.reduceMod,Nat.reduceDiv,Int.reducePow,Int.reduceLE,Int.reduceNeg,Int.reduceLT,Int.reduceBEq,Int.reduceBNe,Int.reduceEq,Tryz.facts,zA,s3,s6,s8,s66,s67,s68]
                  first | refine CallK.p (his) ?_ | refine CallP.i (his) ?_
                  simp (disch := omega) only [↓aI,↓zP,aD,zD,aS,Nat.reduceBEq,Nat.reduceLT,reduceCtorEq,↓reduceIte,Nat.reduceMul,Nat.reduceAdd,Nat.reduceLeDiff,Nat.reduceEqDiff,Int.reduceToNat,Nat.reduceSub,Nat.reduceMod,Nat.reduceDiv,Int.reducePow,Int.reduceLE,Int.reduceNeg,Int.reduceLT,Int.reduceBEq,Int.reduceBNe,Int.reduceEq,Tryz.facts,zA,s3,s6,s8,s66,s67,s68]
                  intro b11 hb110 hb11
                  have hac5 : acc.length ≤ 5 := by omega
                  try simp (disch := omega) only [↓aI,↓zP,aD,zD,aS,Nat.reduceBEq,Nat.reduceLT,reduceCtorEq,↓reduceIte,Nat.reduceMul,Nat.reduceAdd,Nat.reduceLeDiff,Nat.reduceEqDiff,Int.reduceToNat,Nat.reduceSub,Nat.reduceMod,Nat.reduceDiv,Int.reducePow,Int.reduceLE,Int.reduceNeg,Int.reduceLT,Int.reduceBEq,Int.reduceBNe,Int.reduceEq,Tryz.facts,zA,s3,s6,s8,s66,s67,s68,aj hb11,vk,ho,hacl,hwq]
                  intro k' o' hk0' hk' ho'
                  have hfa : (acc ++ [(⟨xa,((by_.toNat % 4 : Nat) : Int)⟩ : Nd)]).flatMap ndC = acc.flatMap ndC ++ [.sc (.int .i64 xa),.sc (.int .i64 ((by_.toNat % 4 : Nat) : Int))] := by rw [List.flatMap_append]; rfl
                  have hfl : (acc ++ [(⟨xa,((by_.toNat % 4 : Nat) : Int)⟩ : Nd)]).length = acc.length + 1 := by rw [List.length_append]; rfl
                  refine ⟨mm - 1,by omega,i + 1,k',o',acc ++ [⟨xa,((by_.toNat % 4 : Nat) : Int)⟩],by omega,by omega,?_,set_get,hk0',hsE.free hk',(hsE.kill_free hkH).set_free (hsE.free hk'),?_,⟨_,rfl⟩,?_,rfl⟩
                  · rw [List.append_assoc]
                    exact hf
                  · rw [hfl]
                    simpa [Nat.add_mul] using ho'
                  · rw [hfa,hfl]
                · simp (disch := omega) only [↓aI,↓zP,aD,zD,aS,Nat.reduceBEq,Nat.reduceLT,reduceCtorEq,↓reduceIte,Nat.reduceMul,Nat.reduceAdd,Nat.reduceLeDiff,Nat.reduceEqDiff,Int.reduceToNat,Nat.reduceSub,Nat.reduceMod,Nat.reduceDiv,Int.reducePow,Int.reduceLE,Int.reduceNeg,Int.reduceLT,Int.reduceBEq,Int.reduceBNe,Int.reduceEq,Tryz.facts,zA,s3,s6,s8,s66,s67,s68,hgc,hl,hc3,ah]
                  intro b10 hb100 hb10
                  rw [aj hb10]
                  try simp (disch := omega) only [↓aI,↓zP,aD,zD,aS,Nat.reduceBEq,Nat.reduceLT,reduceCtorEq,↓reduceIte,Nat.reduceMul,Nat.reduceAdd,Nat.reduceLeDiff,Nat.reduceEqDiff,Int.reduceToNat,Nat.reduceSub,Nat.reduceMod,Nat.reduceDiv,Int.reducePow,Int.reduceLE,Int.reduceNeg,Int.reduceLT,Int.reduceBEq,Int.reduceBNe,Int.reduceEq,Tryz.facts,zA,s3,s6,s8,s66,s67,s68]
                  first | refine CallK.p (his) ?_ | refine CallP.i (his) ?_
                  simp (disch := omega) only [↓aI,↓zP,aD,zD,aS,Nat.reduceBEq,Nat.reduceLT,reduceCtorEq,↓reduceIte,Nat.reduceMul,Nat.reduceAdd,Nat.reduceLeDiff,Nat.reduceEqDiff,Int.reduceToNat,Nat.reduceSub,Nat.reduceMod,Nat.reduceDiv,Int.reducePow,Int.reduceLE,Int.reduceNeg,Int.reduceLT,Int.reduceBEq,Int.reduceBNe,Int.reduceEq,Tryz.facts,zA,s3,s6,s8,s66,s67,s68]
                  intro b11 hb110 hb11
                  rw [aj hb11]
                  try simp (disch := omega) only [↓aI,↓zP,aD,zD,aS,Nat.reduceBEq,Nat.reduceLT,reduceCtorEq,↓reduceIte,Nat.reduceMul,Nat.reduceAdd,Nat.reduceLeDiff,Nat.reduceEqDiff,Int.reduceToNat,Nat.reduceSub,Nat.reduceMod,Nat.reduceDiv,Int.reducePow,Int.reduceLE,Int.reduceNeg,Int.reduceLT,Int.reduceBEq,Int.reduceBNe,Int.reduceEq,Tryz.facts,zA,s3,s6,s8,s66,s67,s68]
                  exact ⟨mm - 1,by omega,i + 1,kt,o,acc,by omega,by omega,hf,vk,hkt0,hkH,hsE,ho,⟨_,rfl⟩,rfl,rfl⟩
              · obtain rfl : i = gs.length := by omega
                rw [List.drop_length,iU,List.append_nil] at hf
                subst hf
                simp (disch := omega) only [↓aI,↓zP,aD,zD,aS,Nat.reduceBEq,Nat.reduceLT,reduceCtorEq,↓reduceIte,Nat.reduceMul,Nat.reduceAdd,Nat.reduceLeDiff,Nat.reduceEqDiff,Int.reduceToNat,Nat.reduceSub,Nat.reduceMod,Nat.reduceDiv,Int.reducePow,Int.reduceLE,Int.reduceNeg,Int.reduceLT,Int.reduceBEq,Int.reduceBNe,Int.reduceEq,Tryz.facts,zA,s3,s6,s8,s66,s67,s68]
                exact ⟨_,rfl,_,Abs.Sub.refl _,hsE,.inl rfl⟩
        · have hv := set_get (H := H) (k := k) (o := .cells (P.flatMap fL) 30 3)
          obtain ⟨l,x,rfl⟩ : ∃ l x,P = l ++ [x] := ⟨P.dropLast,P.getLast h1,(List.dropLast_concat_getLast h1).symm⟩
          obtain ⟨xa,xb,xc⟩ := x
          have hq5 : (who.toNat + 1) % 5 < 5 := Nat.mod_lt _ (by omega)
          have hwq5 : (IntKind.i64.wrap (IntKind.i64.wrap (who.toNat : Int) + 1)).tmod 5 = (((who.toNat + 1) % 5 : Nat) : Int) := by
            have := who.toNat_lt
            have e : IntKind.i64.wrap (who.toNat : Int) = (who.toNat : Int) := iw (by omega)
            rw [e,iw (by omega)]
            exact jd (who.toNat + 1) 5
          unfold strangeM at hMM
          rw [List.getLast?_append,List.dropLast_concat] at hMM
          obtain ⟨pb,hpb,hp1⟩ : ∃ pb,(mem.getD ((who.toNat + 1) % 5) noM).pub = pb ∧ (mem.flatMap fL)[(who.toNat + 1) % 5 * 3 + 1]? = some (eu pb) := ⟨_,rfl,by rw [mem_getD (by omega),gu fU (by omega) (by decide)]; rfl⟩
          simp only [List.getLast?_singleton,Option.some_or,hpb] at hMM
          generalize (who.toNat + 1) % 5 = w5 at *
          have hw5a : w5 < mem.length := by omega
          have hw5b : w5 * 3 < mem.length * 3 := by omega
          have hw5c : (w5 : Int) < (mem.length : Int) := by omega
          rw [List.length_append,List.length_singleton] at hcl hpl h2
          have hfm : (l ++ [(⟨xa,xb,xc⟩ : Mem)]).flatMap fL = l.flatMap fL ++ [.sc (.int .i64 xa),eu xb,eu xc] := by rw [List.flatMap_append]; rfl
          have hfp : (l ++ [(⟨xa,pb,xc⟩ : Mem)]).flatMap fL = l.flatMap fL ++ [.sc (.int .i64 xa),eu pb,eu xc] := by rw [List.flatMap_append]; rfl
          rw [hfm] at hv hcl ⊢
          have hll : (l.flatMap fL).length = l.length * 3 := fF fU _
          have hl0 : (0 : Int) < (l.length : Int) + 1 := by omega
          have hst : (l.length + 1 - 1) * 3 + 1 + 1 ≤ (l.flatMap fL ++ [.sc (.int .i64 xa),eu xb,eu xc]).length := by rw [hcl]; omega
          have hpt : bG (l.flatMap fL ++ [.sc (.int .i64 xa),eu xb,eu xc]) ((l.length + 1 - 1) * 3 + 1) [eu pb] = l.flatMap fL ++ [.sc (.int .i64 xa),eu pb,eu xc] := by
            rw [Nat.add_sub_cancel,← hll]
            exact put_mid _ _ _ _ _
          have hcm : (l.flatMap fL ++ [.sc (.int .i64 xa),eu pb,eu xc]).length = (l.length + 1) * 3 := by rw [List.length_append,hll]; simp only [List.length_cons,List.length_nil]; omega
          have hfq : MM.flatMap fL = l.flatMap fL ++ [.sc (.int .i64 xa),eu pb,eu xc] := by rw [← hMM,hfp]
          have hlq : MM.length = l.length + 1 := by rw [← hMM,List.length_append]; rfl
          clear hMM
          cases auto
          all_goals simp only [if_true,if_false,Bool.false_eq_true] at hNN
          · subst hNN
            simp (disch := omega) only [↓aI,↓zP,aD,zD,aS,Nat.reduceBEq,Nat.reduceLT,reduceCtorEq,↓reduceIte,Nat.reduceMul,Nat.reduceAdd,Nat.reduceLeDiff,Nat.reduceEqDiff,Int.reduceToNat,Nat.reduceSub,Nat.reduceMod,Nat.reduceDiv,Int.reducePow,Int.reduceLE,Int.reduceNeg,Int.reduceLT,Int.reduceBEq,Int.reduceBNe,Int.reduceEq,Tryz.facts,zA,s2,s3,s13,h2,hv,hcl,hmc,hwq5,hp1,hl0,hw5a,hw5b,hw5c,hst,hpt,ey]
            exact ⟨_,rfl,_,Abs.Sub.refl _,Sub.set_new hk,.inr ⟨k,by rw [hlq],hk,by rw [set_get,hfq]⟩⟩
          · simp (disch := omega) only [↓aI,↓zP,aD,zD,aS,Nat.reduceBEq,Nat.reduceLT,reduceCtorEq,↓reduceIte,Nat.reduceMul,Nat.reduceAdd,Nat.reduceLeDiff,Nat.reduceEqDiff,Int.reduceToNat,Nat.reduceSub,Nat.reduceMod,Nat.reduceDiv,Int.reducePow,Int.reduceLE,Int.reduceNeg,Int.reduceLT,Int.reduceBEq,Int.reduceBNe,Int.reduceEq,Tryz.facts,zA,s2,s3,s13,h2,hv,hcl,hmc,hwq5,hp1,hl0,hw5a,hw5b,hw5c,hst,hpt,ey]
            first | refine CallK.p (hrm) ?_ | refine CallP.i (hrm) ?_
            simp (disch := omega) only [↓aI,↓zP,aD,zD,aS,Nat.reduceBEq,Nat.reduceLT,reduceCtorEq,↓reduceIte,Nat.reduceMul,Nat.reduceAdd,Nat.reduceLeDiff,Nat.reduceEqDiff,Int.reduceToNat,Nat.reduceSub,Nat.reduceMod,Nat.reduceDiv,Int.reducePow,Int.reduceLE,Int.reduceNeg,Int.reduceLT,Int.reduceBEq,Int.reduceBNe,Int.reduceEq,Tryz.facts,zA,s2,s3,s13,h2]
            refine loop_fz 6 (by simp (disch := omega) only [↓aI,↓zP,aD,zD,aS,Nat.reduceBEq,Nat.reduceLT,reduceCtorEq,↓reduceIte,Nat.reduceMul,Nat.reduceAdd,Nat.reduceLeDiff,Nat.reduceEqDiff,Int.reduceToNat,Nat.reduceSub,Nat.reduceMod,Nat.reduceDiv,Int.reducePow,Int.reduceLE,Int.reduceNeg,Int.reduceLT,Int.reduceBEq,Int.reduceBNe,Int.reduceEq,Tryz.facts]; rfl) set_get (by rw [hcm]; exact Nat.le_refl _) ?_
            rw [List.take_of_length_le (by rw [hcm]; exact Nat.le_refl _),aj hk]
            refine jn 8 (by simp (disch := omega) only [↓aI,↓zP,aD,zD,aS,Nat.reduceBEq,Nat.reduceLT,reduceCtorEq,↓reduceIte,Nat.reduceMul,Nat.reduceAdd,Nat.reduceLeDiff,Nat.reduceEqDiff,Int.reduceToNat,Nat.reduceSub,Nat.reduceMod,Nat.reduceDiv,Int.reducePow,Int.reduceLE,Int.reduceNeg,Int.reduceLT,Int.reduceBEq,Int.reduceBNe,Int.reduceEq,Tryz.facts]) fun kt hkt0 hkt => ?_
            refine br (c := ⟨Tryz.prog,95,[(11,[0,0,1,0,0]),(1000000,[3,2]),(1000015,[10]),(1000016,[11]),(4000018,[3,6,8,66,67,68]),(4000016,[3,6,8,10,12,66,67,68]),(4000013,[3,6,8,66,67,68]),(4000011,[4,5]),(4000009,[2,3,6]),(4000008,[2,3,6,37]),(4000006,[2,3,6,13]),(4000005,[2,3,6,7,13,21])],[1000029],[]⟩) Tryz.mixed (by kernel_rfl) (fun mm σ E => ∃ (i kt : Nat) (o : AObj) (acc : List Nd),i + mm = gs.length ∧ acc.length ≤ i ∧ acc ++ iU MM ((by_.toNat % 4 : Nat) : Int) (gs.drop i) = NN ∧ E kt = some o ∧ kt ≠ 0 ∧ H kt = none ∧ Abs.Sub H E ∧ cy 84 2 o (acc.length * 2) ∧
              σ 3 = .ip [.sc (.int .u8 who.toNat),.sc (.bool true),.sc (.bool true),fY ends,.sc (.int .u8 by_.toNat),.sc (.bool take),.sc (.int .i64 at_),.sc (.int .u8 change.toNat)] 0 ∧ (∃ k6,σ 6 = .imm k6 (MM.flatMap fL) MM.length) ∧ σ 8 = .imm kt (acc.flatMap ndC) acc.length ∧ σ 66 = fE gs ∧ σ 67 = .sc (.int .i64 (gs.length : Nat)) ∧ σ 68 = .sc (.int .i64 (i : Nat))) gs.length ?_ ?_
            · refine ⟨0,kt,.nilt,[],by omega,by simp,hNN,set_get,hkt0,hkt,(Sub.set_new hkt),.inr ⟨rfl,rfl⟩,?_⟩
              simp (disch := omega) only [↓aI,↓zP,aD,zD,aS,Nat.reduceBEq,Nat.reduceLT,reduceCtorEq,↓reduceIte,Nat.reduceMul,Nat.reduceAdd,Nat.reduceLeDiff,Nat.reduceEqDiff,Int.reduceToNat,Nat.reduceSub,Nat.reduceMod,Nat.reduceDiv,Int.reducePow,Int.reduceLE,Int.reduceNeg,Int.reduceLT,Int.reduceBEq,Int.reduceBNe,Int.reduceEq,Tryz.facts,zA,s3]
              first | exact ⟨⟨0,by rw [hfq,hlq]⟩,rfl⟩ | exact ⟨0,by rw [hfq,hlq]⟩ | exact ⟨⟨k6,rfl⟩,rfl⟩ | exact ⟨⟨0,rfl⟩,rfl⟩ | exact ⟨k6,rfl⟩ | exact ⟨0,rfl⟩ | exact ⟨_,rfl⟩
            · rintro mm σ E ⟨i,kt,o,acc,him,hai,hf,vk,hkt0,hkH,hsE,ho,s3,⟨k6,s6⟩,s8,s66,s67,s68⟩
              by_cases hlt : i < gs.length
              · have hd : gs.drop i = gs[i] :: gs.drop (i + 1) := List.drop_eq_getElem_cons hlt
                have hl := hgl i hlt
                have hc3 : i * 3 + 3 ≤ gs.length * 3 := by omega
                have his := jU (.sc (.int .i64 0)) (.imm 0 [] 0) MM (.imm 0 [] 0) (.imm 0 [] 0) (.imm 0 [] 0) (.imm 0 [] 0) (gs[i]).id (by omega)
                rw [hd,iU,show gG MM (gs[i]).id = (fu MM (gs[i]).id).2 from rfl] at hf
                have hacl : (acc.flatMap ndC).length = acc.length * 2 := fF gZ _
                generalize fu MM (gs[i]).id = fm at *
                generalize gs[i] = x at *
                obtain ⟨xa,xb,xc⟩ := x
                obtain ⟨⟨fa,fb,fc⟩,ff⟩ := fm
                simp only [fL] at his hl hf
                cases ff
                · simp (disch := omega) only [↓aI,↓zP,aD,zD,aS,Nat.reduceBEq,Nat.reduceLT,reduceCtorEq,↓reduceIte,Nat.reduceMul,Nat.reduceAdd,Nat.reduceLeDiff,Nat.reduceEqDiff,Int.reduceToNat,Nat.reduceSub,Nat.reduceMod,Nat.reduceDiv,Int.reducePow,Int.reduceLE,Int.reduceNeg,Int.reduceLT,Int.reduceBEq,Int.reduceBNe,Int.reduceEq,Tryz.facts,zA,s3,s6,s8,s66,s67,s68,hgc,hl,hc3,ah]
                  intro b10 hb100 hb10
                  rw [aj hb10]
                  try simp (disch := omega) only [↓aI,↓zP,aD,zD,aS,Nat.reduceBEq,Nat.reduceLT,reduceCtorEq,↓reduceIte,Nat.reduceMul,Nat.reduceAdd,Nat.reduceLeDiff,Nat.reduceEqDiff,Int.reduceToNat,Nat.reduceSub,Nat.reduceMod,Nat.reduceDiv,Int.reducePow,Int.reduceLE,Int.reduceNeg,Int.reduceLT,Int.reduceBEq,Int.reduceBNe,Int.reduceEq,Tryz.facts,zA,s3,s6,s8,s66,s67,s68]
                  first | refine CallK.p (his) ?_ | refine CallP.i (his) ?_
                  simp (disch := omega) only [↓aI,↓zP,aD,zD,aS,Nat.reduceBEq,Nat.reduceLT,reduceCtorEq,↓reduceIte,Nat.reduceMul,Nat.reduceAdd,Nat.reduceLeDiff,Nat.reduceEqDiff,Int.reduceToNat,Nat.reduceSub,Nat.reduceMod,Nat.reduceDiv,Int.reducePow,Int.reduceLE,Int.reduceNeg,Int.reduceLT,Int.reduceBEq,Int.reduceBNe,Int.reduceEq,Tryz.facts,zA,s3,s6,s8,s66,s67,s68]
                  intro b11 hb110 hb11
                  have hac5 : acc.length ≤ 5 := by omega
                  try simp (disch := omega) only [↓aI,↓zP,aD,zD,aS,Nat.reduceBEq,Nat.reduceLT,reduceCtorEq,↓reduceIte,Nat.reduceMul,Nat.reduceAdd,Nat.reduceLeDiff,Nat.reduceEqDiff,Int.reduceToNat,Nat.reduceSub,Nat.reduceMod,Nat.reduceDiv,Int.reducePow,Int.reduceLE,Int.reduceNeg,Int.reduceLT,Int.reduceBEq,Int.reduceBNe,Int.reduceEq,Tryz.facts,zA,s3,s6,s8,s66,s67,s68,aj hb11,vk,ho,hacl,hwq]
                  intro k' o' hk0' hk' ho'
                  have hfa : (acc ++ [(⟨xa,((by_.toNat % 4 : Nat) : Int)⟩ : Nd)]).flatMap ndC = acc.flatMap ndC ++ [.sc (.int .i64 xa),.sc (.int .i64 ((by_.toNat % 4 : Nat) : Int))] := by rw [List.flatMap_append]; rfl
                  have hfl : (acc ++ [(⟨xa,((by_.toNat % 4 : Nat) : Int)⟩ : Nd)]).length = acc.length + 1 := by rw [List.length_append]; rfl
                  refine ⟨mm - 1,by omega,i + 1,k',o',acc ++ [⟨xa,((by_.toNat % 4 : Nat) : Int)⟩],by omega,by omega,?_,set_get,hk0',hsE.free hk',(hsE.kill_free hkH).set_free (hsE.free hk'),?_,⟨_,rfl⟩,?_,rfl⟩
                  · rw [List.append_assoc]
                    exact hf
                  · rw [hfl]
                    simpa [Nat.add_mul] using ho'
                  · rw [hfa,hfl]
                · simp (disch := omega) only [↓aI,↓zP,aD,zD,aS,Nat.reduceBEq,Nat.reduceLT,reduceCtorEq,↓reduceIte,Nat.reduceMul,Nat.reduceAdd,Nat.reduceLeDiff,Nat.reduceEqDiff,Int.reduceToNat,Nat.reduceSub,Nat.reduceMod,Nat.reduceDiv,Int.reducePow,Int.reduceLE,Int.reduceNeg,Int.reduceLT,Int.reduceBEq,Int.reduceBNe,Int.reduceEq,Tryz.facts,zA,s3,s6,s8,s66,s67,s68,hgc,hl,hc3,ah]
                  intro b10 hb100 hb10
                  rw [aj hb10]
                  try simp (disch := omega) only [↓aI,↓zP,aD,zD,aS,Nat.reduceBEq,Nat.reduceLT,reduceCtorEq,↓reduceIte,Nat.reduceMul,Nat.reduceAdd,Nat.reduceLeDiff,Nat.reduceEqDiff,Int.reduceToNat,Nat.reduceSub,Nat.reduceMod,Nat.reduceDiv,Int.reducePow,Int.reduceLE,Int.reduceNeg,Int.reduceLT,Int.reduceBEq,Int.reduceBNe,Int.reduceEq,Tryz.facts,zA,s3,s6,s8,s66,s67,s68]
                  first | refine CallK.p (his) ?_ | refine CallP.i (his) ?_
                  simp (disch := omega) only [↓aI,↓zP,aD,zD,aS,Nat.reduceBEq,Nat.reduceLT,reduceCtorEq,↓reduceIte,Nat.reduceMul,Nat.reduceAdd,Nat.reduceLeDiff,Nat.reduceEqDiff,Int.reduceToNat,Nat.reduceSub,Nat.reduceMod,Nat.reduceDiv,Int.reducePow,Int.reduceLE,Int.reduceNeg,Int.reduceLT,Int.reduceBEq,Int.reduceBNe,Int.reduceEq,Tryz.facts,zA,s3,s6,s8,s66,s67,s68]
                  intro b11 hb110 hb11
                  rw [aj hb11]
                  try simp (disch := omega) only [↓aI,↓zP,aD,zD,aS,Nat.reduceBEq,Nat.reduceLT,reduceCtorEq,↓reduceIte,Nat.reduceMul,Nat.reduceAdd,Nat.reduceLeDiff,Nat.reduceEqDiff,Int.reduceToNat,Nat.reduceSub,Nat.reduceMod,Nat.reduceDiv,Int.reducePow,Int.reduceLE,Int.reduceNeg,Int.reduceLT,Int.reduceBEq,Int.reduceBNe,Int.reduceEq,Tryz.facts,zA,s3,s6,s8,s66,s67,s68]
                  exact ⟨mm - 1,by omega,i + 1,kt,o,acc,by omega,by omega,hf,vk,hkt0,hkH,hsE,ho,⟨_,rfl⟩,rfl,rfl⟩
              · obtain rfl : i = gs.length := by omega
                rw [List.drop_length,iU,List.append_nil] at hf
                subst hf
                simp (disch := omega) only [↓aI,↓zP,aD,zD,aS,Nat.reduceBEq,Nat.reduceLT,reduceCtorEq,↓reduceIte,Nat.reduceMul,Nat.reduceAdd,Nat.reduceLeDiff,Nat.reduceEqDiff,Int.reduceToNat,Nat.reduceSub,Nat.reduceMod,Nat.reduceDiv,Int.reducePow,Int.reduceLE,Int.reduceNeg,Int.reduceLT,Int.reduceBEq,Int.reduceBNe,Int.reduceEq,Tryz.facts,zA,s3,s6,s8,s66,s67,s68]
                exact ⟨_,rfl,_,Abs.Sub.refl _,hsE,.inl rfl⟩
end Go.Proofs.YtjlnpngaiphnmaaGreat
end
section
set_option linter.unusedSimpArgs false
set_option linter.unusedVariables false
set_option maxRecDepth 20000
set_option maxHeartbeats 4000000
namespace Go.Proofs.YtjlnpngaiphnmaaGreat
open Go Go.Abs Go.Proofs
theorem set_self {G : AH} {k : Nat} {o : AObj} : (G.set k o) k = some o := set_get
theorem kill_none {G : AH} {k q : Nat} (h : G k = none) : (G.kill q) k = none := by simp [AH.kill,h]
theorem three_tok {H D E : AH} {h m d : Nat} {ts : List Term} {b0 b2 qS qG qM k1 k2 k3 : Nat} {oS oG oM o1 o2 o3 C C1 C2 Z : AObj} (s : SS D E h m d ts) (hs : Abs.Sub H D) (f2 : H b2 = none) (h0 : D b0 = some Z) (h2 : D b2 = some C) (hS : D qS = some oS) (hG : D qG = some oG) (hM : D qM = some oM)
    (nGS : ¬ qG = qS) (nMS : ¬ qM = qS) (nMG : ¬ qM = qG) (n2S : ¬ b2 = qS) (n2G : ¬ b2 = qG) (n2M : ¬ b2 = qM) (n0S : ¬ b0 = qS) (n0G : ¬ b0 = qG) (n0M : ¬ b0 = qM) (n02 : ¬ b0 = b2)
    (fS : H qS = none) (fG : H qG = none) (fM : H qM = none) (e1 : E k1 = none) (e2 : ((E.kill qS).set k1 o1) k2 = none) (e3 : (((((E.kill qS).set k1 o1).kill qG).set k2 o2).set b2 C1) k3 = none) :
    ∃ D',SS D' ((((((((E.kill qS).set k1 o1).kill qG).set k2 o2).set b2 C1).kill qM).set k3 o3).set b2 C2) h m d ts ∧ Abs.Sub H D' ∧ D' b0 = some Z ∧ D' b2 = some C2 ∧ D' k1 = some o1 ∧ D' k2 = some o2 ∧ D' k3 = some o3 ∧ ¬ k1 = k2 ∧ ¬ k1 = k3 ∧ ¬ k2 = k3 ∧ H k1 = none ∧ H k2 = none ∧ H k3 = none := by
  have d1 := s.sub.free e1
  have n21 := bA h2 d1
  have n01 := bA h0 d1
  have nG1 := bA hG d1
  have nM1 := bA hM d1
  have s1 := (s.kill hS).box (b := k1) (o := o1) (kill_none e1)
  have a2 := ((aP (H := D.kill qS) (o := o1) n21).trans (bZ n2S)).trans h2
  have a0 := ((aP (H := D.kill qS) (o := o1) n01).trans (bZ n0S)).trans h0
  have aG := ((aP (H := D.kill qS) (o := o1) nG1).trans (bZ nGS)).trans hG
  have aM := ((aP (H := D.kill qS) (o := o1) nM1).trans (bZ nMS)).trans hM
  have a1 := set_self (G := D.kill qS) (k := k1) (o := o1)
  have u1 := (hs.kill_free fS).set_free (o := o1) (hs.free d1)
  have f1 := hs.free d1
  have d2 := s1.sub.free e2
  generalize (D.kill qS).set k1 o1 = D1 at *
  have n22 := bA a2 d2
  have n02' := bA a0 d2
  have nM2 := bA aM d2
  have n12 := bA a1 d2
  have n1G : ¬ k1 = qG := fun e => nG1 e.symm
  have s2 := (s1.kill aG).box (b := k2) (o := o2) (kill_none e2)
  have b2' := ((aP (H := D1.kill qG) (o := o2) n22).trans (bZ n2G)).trans a2
  have b0' := ((aP (H := D1.kill qG) (o := o2) n02').trans (bZ n0G)).trans a0
  have bM := ((aP (H := D1.kill qG) (o := o2) nM2).trans (bZ nMG)).trans aM
  have b1 := ((aP (H := D1.kill qG) (o := o2) n12).trans (bZ n1G)).trans a1
  have bk2 := set_self (G := D1.kill qG) (k := k2) (o := o2)
  have u2 := (u1.kill_free fG).set_free (o := o2) (u1.free d2)
  have f2' := u1.free d2
  generalize (D1.kill qG).set k2 o2 = D2 at *
  have s3 := s2.put (b := b2) (o' := C1) b2'
  have nM2' : ¬ qM = b2 := fun e => n2M e.symm
  have n12' : ¬ k1 = b2 := fun e => n21 e.symm
  have n22' : ¬ k2 = b2 := fun e => n22 e.symm
  have c0 := (aP (H := D2) (o := C1) n02).trans b0'
  have cM := (aP (H := D2) (o := C1) nM2').trans bM
  have c1 := (aP (H := D2) (o := C1) n12').trans b1
  have c2 := (aP (H := D2) (o := C1) n22').trans bk2
  have cb := set_self (G := D2) (k := b2) (o := C1)
  have u3 := u2.set_free (o := C1) f2
  have d3 := s3.sub.free e3
  generalize D2.set b2 C1 = D3 at *
  have n23 := bA cb d3
  have n03 := bA c0 d3
  have n13 := bA c1 d3
  have nk23 := bA c2 d3
  have n1M : ¬ k1 = qM := fun e => nM1 e.symm
  have n2M' : ¬ k2 = qM := fun e => nM2 e.symm
  have s4 := (s3.kill cM).box (b := k3) (o := o3) (kill_none e3)
  have g2 := ((aP (H := D3.kill qM) (o := o3) n23).trans (bZ n2M)).trans cb
  have g0 := ((aP (H := D3.kill qM) (o := o3) n03).trans (bZ n0M)).trans c0
  have g1 := ((aP (H := D3.kill qM) (o := o3) n13).trans (bZ n1M)).trans c1
  have gk2 := ((aP (H := D3.kill qM) (o := o3) nk23).trans (bZ n2M')).trans c2
  have gk3 := set_self (G := D3.kill qM) (k := k3) (o := o3)
  have u4 := (u3.kill_free fM).set_free (o := o3) (u3.free d3)
  have f3 := u3.free d3
  generalize (D3.kill qM).set k3 o3 = D4 at *
  have n32 : ¬ k3 = b2 := fun e => n23 e.symm
  exact ⟨_,s4.put (b := b2) (o' := C2) g2,u4.set_free f2,(aP n02).trans g0,set_get,(aP n12').trans g1,(aP n22').trans gk2,(aP n32).trans gk3,n12,n13,nk23,f1,f2',f3⟩
end Go.Proofs.YtjlnpngaiphnmaaGreat
end
section
set_option linter.unusedSimpArgs false
set_option linter.unusedVariables false
set_option maxRecDepth 20000
set_option maxHeartbeats 16000000
namespace Go.Proofs.YtjlnpngaiphnmaaGreat
open Go Go.Abs Go.Proofs
structure BegS where
  ts : List Term
  S : List (List UInt8)
  G : List (List UInt8)
  M : List Mem
def begN (b : BegS) (i : Nat) : BegS :=
  let x := fP b.ts (fJ (2 * i))
  let t1 := (fC b.ts (fJ (2 * i))).1
  let y := fP t1 (fJ (2 * i + 1))
  let t2 := (fC t1 (fJ (2 * i + 1))).1
  let p := fP t2 ⟨112,[x]⟩
  let t3 := (fC t2 ⟨112,[x]⟩).1
  let s := fP t3 ⟨118,[y]⟩
  ⟨(fC t3 ⟨118,[y]⟩).1,b.S ++ [x],b.G ++ [y],b.M ++ [⟨(i : Int),p,s⟩]⟩
def fQ : Nat → BegS
  | 0 => ⟨[],[],[],[]⟩
  | i + 1 => begN (fQ i) i
theorem begM_len : ∀ i,(fQ i).S.length = i ∧ (fQ i).G.length = i ∧ (fQ i).M.length = i
  | 0 => ⟨rfl,rfl,rfl⟩
  | i + 1 => by
    obtain ⟨h1,h2,h3⟩ := begM_len i
    refine ⟨?_,?_,?_⟩
    · show ((fQ i).S ++ [_]).length = _
      rw [List.length_append,h1]; rfl
    · show ((fQ i).G ++ [_]).length = _
      rw [List.length_append,h2]; rfl
    · show ((fQ i).M ++ [_]).length = _
      rw [List.length_append,h3]; rfl
theorem begM_32 : ∀ i,(∀ x ∈ (fQ i).S,x.length = 32) ∧ (∀ x ∈ (fQ i).G,x.length = 32) ∧ (∀ m ∈ (fQ i).M,m.pub.length = 32 ∧ m.sgn.length = 32)
  | 0 => by refine ⟨?_,?_,?_⟩ <;> intro x h <;> cases h
  | i + 1 => by
    obtain ⟨h1,h2,h3⟩ := begM_32 i
    refine ⟨fun x hx => ?_,fun x hx => ?_,fun m hm => ?_⟩
    · rcases List.mem_append.1 (show x ∈ (fQ i).S ++ [_] from hx) with h | h
      · exact h1 x h
      · rw [List.mem_singleton.1 h]; exact gW _ _
    · rcases List.mem_append.1 (show x ∈ (fQ i).G ++ [_] from hx) with h | h
      · exact h2 x h
      · rw [List.mem_singleton.1 h]; exact gW _ _
    · rcases List.mem_append.1 (show m ∈ (fQ i).M ++ [_] from hm) with h | h
      · exact h3 m h
      · rw [List.mem_singleton.1 h]
        exact ⟨gW _ _,gW _ _⟩
theorem begM_gt : ∀ i,GT (4 * i) (fQ i).ts
  | 0 => GT.nil
  | i + 1 => by
    have g0 := begM_gt i
    have h : ∀ k,wfT (fJ k) := fun k => wf1 (by decide) (by rw [fe]; omega)
    have g1 := g0.num (h (2 * i)) fun e => absurd (show (115 : UInt8) = 112 from e) (by decide)
    have g2 := g1.num (h (2 * i + 1)) fun e => absurd (show (115 : UInt8) = 112 from e) (by decide)
    have l1 : (fP (fQ i).ts (fJ (2 * i))).length = 32 := gW _ _
    have g3 := g2.num (wf1 (k := 112) (a := fP (fQ i).ts (fJ (2 * i))) (by decide) (by omega)) fun _ => by simp [fv]; omega
    have l2 : (fP (fC (fQ i).ts (fJ (2 * i))).1 (fJ (2 * i + 1))).length = 32 := gW _ _
    exact g3.num (wf1 (k := 118) (a := fP (fC (fQ i).ts (fJ (2 * i))).1 (fJ (2 * i + 1))) (by decide) (by omega)) fun e => absurd (show (118 : UInt8) = 112 from e) (by decide)
end Go.Proofs.YtjlnpngaiphnmaaGreat
end
