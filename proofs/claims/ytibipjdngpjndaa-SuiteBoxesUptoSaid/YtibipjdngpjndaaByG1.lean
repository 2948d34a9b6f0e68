/-
  Several texts in one: each says what it proves.
  Conditions: none. Lemmas only.
-/
import Derived.Test.YtibipjdngpjndaaBxG7
set_option linter.all false
section
set_option linter.unusedSimpArgs false
set_option linter.unusedVariables false
set_option maxRecDepth 20000
set_option maxHeartbeats 4000000
namespace Go.Proofs.Ytibipjdngpjndaa
open Go Go.Abs Go.Proofs Go.Box
theorem jk {c : Cfg} {l : List Oper} {t : STree} {K : Sg → AH → Prop} {σ : Sg} {H : AH} {k : Tie K} {k' : Tie l} (h : RunT c l t K σ H) : DrawT c l t K σ H k k' := eI K h fun _ _ h => h
theorem kill_mid {H : AH} {a b : Nat} {x y : AObj} (h : ¬ a = b) (hn : H a = none) : ((H.set a x).set b y).kill a = H.set b y := by
  funext z
  simp only [AH.set,AH.kill]
  by_cases e1 : z = a
  · subst e1
    simp [h,hn]
  · simp [e1]
theorem places_td : ∀ d,d < 2 → ∀ t,t < 4 → placesL.getD (4 * d + t) (0,0,0,0) = (t,4 + (t + d) % 4,8 + (t + 2 * d) % 4,12 + (t + 3 * d) % 4) := by decide
def sumF (w s : List Nat) (i : Nat) : List Nat := (List.range 16).map fun t => if t < i then eU (w.getD t 0) (s.getD t 0) else w.getD t 0
theorem sumF_len (w s : List Nat) (i : Nat) : (sumF w s i).length = 16 := by simp [sumF]
theorem sumF_end (w s : List Nat) : sumF w s 16 = sumW w s := by
  unfold sumF sumW
  refine List.map_congr_left fun t ht => ?_
  rw [if_pos (List.mem_range.1 ht)]
theorem sumF_zero {w s : List Nat} (h : w.length = 16) : sumF w s 0 = w := by
  apply List.ext_getElem (by rw [sumF_len,h])
  intro t h1 h2
  simp [sumF,List.getD,h2]
theorem sumF_get (w s : List Nat) {i : Nat} (h : i < 16) : (sumF w s i).getD i 0 = w.getD i 0 := by
  simp [sumF,List.getD,h]
theorem sumF_set (w s : List Nat) {i : Nat} (h : i < 16) : (sumF w s i).set i (eU (w.getD i 0) (s.getD i 0)) = sumF w s (i + 1) := by
  apply List.ext_getElem (by rw [List.length_set,sumF_len,sumF_len])
  intro t h1 h2
  rw [sumF_len] at h2
  by_cases e : i = t
  · subst e
    rw [List.getElem_set_self]
    simp [sumF]
  · rw [List.getElem_set_ne e]
    simp only [sumF,List.getElem_map,List.getElem_range]
    by_cases c : t < i
    · rw [if_pos c,if_pos (by omega)]
    · rw [if_neg c,if_neg (by omega)]
theorem sblock_pure (S : List Nat) (hS : OkW S) : APure Try.prog 40 [.agg (u32A S)] (.agg (u32A (blockW S))) := by
  have hSl : (u32A S).length = 16 := by rw [u32A_length,hS.len]
  have hSt : (u32A S).take 16 = u32A S := List.take_of_length_le (by omega)
  have hbw : blockW S = sumW (roundsM S 10) S := rfl
  rw [hbw]
  refine az (c := ⟨Try.prog,84,[(11,[0,0,0,0,0,0,0,0,0,0,0,0,0,0,0,0,0,0,2,2]),(23,[0,0,1,0,0,1,0,0,2]),(1000000,[1]),(1000010,[6]),(1000011,[7]),(4000023,[1,2,3,71]),(4000015,[1,2,3,4,6,12,14,17,57,58]),(4000011,[1,2,3,4,6,7,12,14,17]),(4000010,[1,2,3,4,6,12,14,17])],[],[(11,(.op 0 0 (.op 1 0 (.op 2 0 (.op 4 0 (.op 5 0 (.op 6 0 (.op 8 0 (.op 9 0 (.op 10 0 (.op 12 0 (.op 13 0 (.op 14 0 (.op 3 4 (.op 7 4 (.op 11 4 (.op 15 4 (.op 16 0 (.op 17 0 (.op 18 3 (.op 19 2 .nil)))))))))))))))))))))]⟩) (rs := [ResultVar.cell 2 62]) Try.mixed Try.func40 rfl rfl rfl (Nat.le_of_ble_eq_true rfl) (by kernel_rfl) fun H => ?_
  simp (disch := omega) only [↓aI,↓zP,aD,zD,aS0,Nat.reduceBEq,Nat.reduceLT,reduceCtorEq,↓reduceIte,Nat.reduceMul,Nat.reduceAdd,Nat.reduceLeDiff,Nat.reduceEqDiff,Int.reduceToNat,Nat.reduceSub,Nat.reduceMod,Nat.reduceDiv,Int.reducePow,Int.reduceLE,Int.reduceNeg,Int.reduceLT,Int.reduceBEq,Int.reduceBNe,Int.reduceEq,Try.facts,hSl]
  intro k1 hk10 hk1 k2 hk20 hk2
  have n12 := bK hk2
  have hk2' := am hk2
  obtain ⟨z,hz⟩ : ∃ z : AObj,z = .cells [.sc (.int .u32 0),.sc (.int .u32 0),.sc (.int .u32 0),.sc (.int .u32 0),.sc (.int .u32 0),.sc (.int .u32 0),.sc (.int .u32 0),.sc (.int .u32 0),.sc (.int .u32 0),.sc (.int .u32 0),.sc (.int .u32 0),.sc (.int .u32 0),.sc (.int .u32 0),.sc (.int .u32 0),.sc (.int .u32 0),.sc (.int .u32 0)] 62 16 := ⟨_,rfl⟩
  rw [← hz]
  simp (disch := omega) only [↓aI,↓zP,aD,zD,aS0,Nat.reduceBEq,Nat.reduceLT,reduceCtorEq,↓reduceIte,Nat.reduceMul,Nat.reduceAdd,Nat.reduceLeDiff,Nat.reduceEqDiff,Int.reduceToNat,Nat.reduceSub,Nat.reduceMod,Nat.reduceDiv,Int.reducePow,Int.reduceLE,Int.reduceNeg,Int.reduceLT,Int.reduceBEq,Int.reduceBNe,Int.reduceEq,Try.facts,aP0 n12,set_get,kill_mid n12 hk1,hSl,hSt]
  intro k3 hk30 hk3
  have n23 := bK hk3
  have hk3' := am hk3
  obtain ⟨E,hE⟩ : ∃ E,E = H.set k2 z := ⟨_,rfl⟩
  rw [← hE] at hk3 ⊢
  have v2 : E k2 = some z := by rw [hE]; exact set_get
  refine br (c := ⟨Try.prog,84,[(11,[0,0,0,0,0,0,0,0,0,0,0,0,0,0,0,0,0,0,2,2]),(23,[0,0,1,0,0,1,0,0,2]),(1000000,[1]),(1000010,[6]),(1000011,[7]),(4000023,[1,2,3,71]),(4000015,[1,2,3,4,6,12,14,17,57,58]),(4000011,[1,2,3,4,6,7,12,14,17]),(4000010,[1,2,3,4,6,12,14,17])],[],[(11,(.op 0 0 (.op 1 0 (.op 2 0 (.op 4 0 (.op 5 0 (.op 6 0 (.op 8 0 (.op 9 0 (.op 10 0 (.op 12 0 (.op 13 0 (.op 14 0 (.op 3 4 (.op 7 4 (.op 11 4 (.op 15 4 (.op 16 0 (.op 17 0 (.op 18 3 (.op 19 2 .nil)))))))))))))))))))))]⟩) Try.mixed (by kernel_rfl) (fun m σ H' => ∃ n : Nat,n + m = 10 ∧ σ 1 = .ip (u32A S) 0 ∧ σ 2 = .ptr k2 0 ∧ σ 3 = .ptr k3 0 ∧ σ 12 = .sc (.int .i64 n) ∧ H' = E.set k3 (.cells (u32A (roundsM S n)) 62 16)) 10 ?_ ?_
  · refine ⟨0,by omega,?_⟩
    have hput : bG [.sc (.int .u32 0),.sc (.int .u32 0),.sc (.int .u32 0),.sc (.int .u32 0),.sc (.int .u32 0),.sc (.int .u32 0),.sc (.int .u32 0),.sc (.int .u32 0),.sc (.int .u32 0),.sc (.int .u32 0),.sc (.int .u32 0),.sc (.int .u32 0),.sc (.int .u32 0),.sc (.int .u32 0),.sc (.int .u32 0),.sc (.int .u32 0)] 0 (u32A S) = u32A S := by
      rw [ah,hSl]
      simp
    simp (disch := omega) only [↓aI,↓zP,aD,zD,aS0,Nat.reduceBEq,Nat.reduceLT,reduceCtorEq,↓reduceIte,Nat.reduceMul,Nat.reduceAdd,Nat.reduceLeDiff,Nat.reduceEqDiff,Int.reduceToNat,Nat.reduceSub,Nat.reduceMod,Nat.reduceDiv,Int.reducePow,Int.reduceLE,Int.reduceNeg,Int.reduceLT,Int.reduceBEq,Int.reduceBNe,Int.reduceEq,Try.facts,hSl,set_get,set_set,hSt,hput]
    rfl
  · rintro m σ H' ⟨n,hn,g1,g2,g3,g12,rfl⟩
    have hRo := hS.rounds n
    by_cases hlt : n < 10
    · have hb : decide ((n : Int) < 10) = true := dT (by omega)
      have wn : IntKind.i64.wrap ((n : Int) + 1) = ((n + 1 : Nat) : Int) := by rw [iw (by omega)]; rfl
      have hrn : roundsM S (n + 1) = someM (roundsM S n) 8 := rfl
      generalize roundsM S n = R at *
      simp (disch := omega) only [↓aI,↓zP,aD,zD,aS0,Nat.reduceBEq,Nat.reduceLT,reduceCtorEq,↓reduceIte,Nat.reduceMul,Nat.reduceAdd,Nat.reduceLeDiff,Nat.reduceEqDiff,Int.reduceToNat,Nat.reduceSub,Nat.reduceMod,Nat.reduceDiv,Int.reducePow,Int.reduceLE,Int.reduceNeg,Int.reduceLT,Int.reduceBEq,Int.reduceBNe,Int.reduceEq,Try.facts,g1,g2,g3,g12,hb]
      refine br (c := ⟨Try.prog,84,[(11,[0,0,0,0,0,0,0,0,0,0,0,0,0,0,0,0,0,0,2,2]),(23,[0,0,1,0,0,1,0,0,2]),(1000000,[1]),(1000010,[6]),(1000011,[7]),(4000023,[1,2,3,71]),(4000015,[1,2,3,4,6,12,14,17,57,58]),(4000011,[1,2,3,4,6,7,12,14,17]),(4000010,[1,2,3,4,6,12,14,17])],[],[(11,(.op 0 0 (.op 1 0 (.op 2 0 (.op 4 0 (.op 5 0 (.op 6 0 (.op 8 0 (.op 9 0 (.op 10 0 (.op 12 0 (.op 13 0 (.op 14 0 (.op 3 4 (.op 7 4 (.op 11 4 (.op 15 4 (.op 16 0 (.op 17 0 (.op 18 3 (.op 19 2 .nil)))))))))))))))))))))]⟩) Try.mixed (by kernel_rfl) (fun m2 σ2 H2 => ∃ d : Nat,d + m2 = 2 ∧ σ2 1 = .ip (u32A S) 0 ∧ σ2 2 = .ptr k2 0 ∧ σ2 3 = .ptr k3 0 ∧ σ2 12 = .sc (.int .i64 n) ∧ σ2 14 = .sc (.int .i64 d) ∧ H2 = E.set k3 (.cells (u32A (someM R (4 * d))) 62 16)) 2 ?_ ?_
      · refine ⟨0,by omega,?_⟩
        simp (disch := omega) only [↓aI,↓zP,aD,zD,aS0,Nat.reduceBEq,Nat.reduceLT,reduceCtorEq,↓reduceIte,Nat.reduceMul,Nat.reduceAdd,Nat.reduceLeDiff,Nat.reduceEqDiff,Int.reduceToNat,Nat.reduceSub,Nat.reduceMod,Nat.reduceDiv,Int.reducePow,Int.reduceLE,Int.reduceNeg,Int.reduceLT,Int.reduceBEq,Int.reduceBNe,Int.reduceEq,Try.facts,g1,g2,g3,g12]
        first | rfl | exact ⟨rfl,rfl⟩ | trace_state
      · rintro m2 σ2 H2 ⟨d,hd,e1,e2,e3,e12,e14,rfl⟩
        by_cases hld : d < 2
        · have hb2 : decide ((d : Int) < 2) = true := dT (by omega)
          have wd : IntKind.i64.wrap ((d : Int) + 1) = ((d + 1 : Nat) : Int) := by rw [iw (by omega)]; rfl
          simp (disch := omega) only [↓aI,↓zP,aD,zD,aS0,Nat.reduceBEq,Nat.reduceLT,reduceCtorEq,↓reduceIte,Nat.reduceMul,Nat.reduceAdd,Nat.reduceLeDiff,Nat.reduceEqDiff,Int.reduceToNat,Nat.reduceSub,Nat.reduceMod,Nat.reduceDiv,Int.reducePow,Int.reduceLE,Int.reduceNeg,Int.reduceLT,Int.reduceBEq,Int.reduceBNe,Int.reduceEq,Try.facts,e1,e2,e3,e12,e14,hb2]
          refine br (c := ⟨Try.prog,84,[(11,[0,0,0,0,0,0,0,0,0,0,0,0,0,0,0,0,0,0,2,2]),(23,[0,0,1,0,0,1,0,0,2]),(1000000,[1]),(1000010,[6]),(1000011,[7]),(4000023,[1,2,3,71]),(4000015,[1,2,3,4,6,12,14,17,57,58]),(4000011,[1,2,3,4,6,7,12,14,17]),(4000010,[1,2,3,4,6,12,14,17])],[],[(11,(.op 0 0 (.op 1 0 (.op 2 0 (.op 4 0 (.op 5 0 (.op 6 0 (.op 8 0 (.op 9 0 (.op 10 0 (.op 12 0 (.op 13 0 (.op 14 0 (.op 3 4 (.op 7 4 (.op 11 4 (.op 15 4 (.op 16 0 (.op 17 0 (.op 18 3 (.op 19 2 .nil)))))))))))))))))))))]⟩) Try.mixed (by kernel_rfl) (fun m3 σ3 H3 => ∃ t : Nat,t + m3 = 4 ∧ σ3 1 = .ip (u32A S) 0 ∧ σ3 2 = .ptr k2 0 ∧ σ3 3 = .ptr k3 0 ∧ σ3 4 = .sc (.int .i64 d) ∧ σ3 12 = .sc (.int .i64 n) ∧ σ3 14 = .sc (.int .i64 d) ∧ σ3 17 = .sc (.int .i64 t) ∧ H3 = E.set k3 (.cells (u32A (someM R (4 * d + t))) 62 16)) 4 ?_ ?_
          · refine ⟨0,by omega,?_⟩
            simp (disch := omega) only [↓aI,↓zP,aD,zD,aS0,Nat.reduceBEq,Nat.reduceLT,reduceCtorEq,↓reduceIte,Nat.reduceMul,Nat.reduceAdd,Nat.reduceLeDiff,Nat.reduceEqDiff,Int.reduceToNat,Nat.reduceSub,Nat.reduceMod,Nat.reduceDiv,Int.reducePow,Int.reduceLE,Int.reduceNeg,Int.reduceLT,Int.reduceBEq,Int.reduceBNe,Int.reduceEq,Try.facts,e1,e2,e3,e12,e14]
            first | rfl | exact ⟨rfl,rfl⟩ | trace_state
          · clear e1 e2 e3 e12 e14
            clear σ2
            rintro m3 σ2 H3 ⟨t,ht,e1,e2,e3,e4,e12,e14,e17,rfl⟩
            by_cases hlt4 : t < 4
            · have hb3 : decide ((t : Int) < 4) = true := dT (by omega)
              have wt : IntKind.i64.wrap ((t : Int) + 1) = ((t + 1 : Nat) : Int) := by rw [iw (by omega)]; rfl
              have hWo := hRo.some (4 * d + t)
              have hny : someM R (4 * d + t + 1) = oneM (someM R (4 * d + t)) (placesL.getD (4 * d + t) (0,0,0,0)) := rfl
              rw [places_td d hld t hlt4] at hny
              generalize someM R (4 * d + t) = W at *
              obtain ⟨p,hp⟩ : ∃ p : Nat × Nat × Nat × Nat,p = (t,4 + (t + d) % 4,8 + (t + 2 * d) % 4,12 + (t + 3 * d) % 4) := ⟨_,rfl⟩
              rw [← hp] at hny
              have p1 : p.1 = t := by rw [hp]
              have p2 : p.2.1 = 4 + (t + d) % 4 := by rw [hp]
              have p3 : p.2.2.1 = 8 + (t + 2 * d) % 4 := by rw [hp]
              have p4 : p.2.2.2 = 12 + (t + 3 * d) % 4 := by rw [hp]
              clear hp
              obtain ⟨i1,i2,i3,i4⟩ := p
              simp only at p1 p2 p3 p4
              have hone : oneM W (i1,i2,i3,i4) = putQ W (i1,i2,i3,i4) (quartM (getQ W (i1,i2,i3,i4))) := rfl
              have hq := squart_pure (getQ W (i1,i2,i3,i4)) (hWo.getQ _)
              have a0 := u32A_at (l := W) (i := i1) (by rw [hWo.len]; omega)
              have a1 := u32A_at (l := W) (i := i2) (by rw [hWo.len]; omega)
              have a2 := u32A_at (l := W) (i := i3) (by rw [hWo.len]; omega)
              have a3 := u32A_at (l := W) (i := i4) (by rw [hWo.len]; omega)
              have hwl : (u32A W).length = 16 := by rw [u32A_length,hWo.len]
              have hQA : qA (getQ W (i1,i2,i3,i4)) = [.sc (.int .u32 (W.getD i1 0 : Nat)),.sc (.int .u32 (W.getD i2 0 : Nat)),.sc (.int .u32 (W.getD i3 0 : Nat)),.sc (.int .u32 (W.getD i4 0 : Nat))] := rfl
              rw [hQA] at hq
              generalize quartM (getQ W (i1,i2,i3,i4)) = q at *
              have x1 : IntKind.i64.wrap ((t : Int) + (d : Int)) = ((t + d : Nat) : Int) := by rw [iw (by omega)]; rfl
              have x2 : IntKind.i64.wrap (2 * (d : Int)) = ((2 * d : Nat) : Int) := by rw [iw (by omega)]; rfl
              have x3 : IntKind.i64.wrap (3 * (d : Int)) = ((3 * d : Nat) : Int) := by rw [iw (by omega)]; rfl
              have x4 : IntKind.i64.wrap ((t : Int) + ((2 * d : Nat) : Int)) = ((t + 2 * d : Nat) : Int) := by rw [iw (by omega)]; rfl
              have x5 : IntKind.i64.wrap ((t : Int) + ((3 * d : Nat) : Int)) = ((t + 3 * d : Nat) : Int) := by rw [iw (by omega)]; rfl
              have x6 : 4 + (((t + d) % 4 : Nat) : Int) = (i2 : Int) := by omega
              have x7 : 8 + (((t + 2 * d) % 4 : Nat) : Int) = (i3 : Int) := by omega
              have x8 : 12 + (((t + 3 * d) % 4 : Nat) : Int) = (i4 : Int) := by omega
              have y2 : IntKind.i64.wrap (i2 : Int) = (i2 : Int) := iw (by omega)
              have y3 : IntKind.i64.wrap (i3 : Int) = (i3 : Int) := iw (by omega)
              have y4 : IntKind.i64.wrap (i4 : Int) = (i4 : Int) := iw (by omega)
              have l2 : i2 < 16 := by omega
              have l3 : i3 < 16 := by omega
              have l4 : i4 < 16 := by omega
              subst p1
              clear p2 p3 p4
              simp (disch := omega) only [↓aI,↓zP,aD,zD,aS0,Nat.reduceBEq,Nat.reduceLT,reduceCtorEq,↓reduceIte,Nat.reduceMul,Nat.reduceAdd,Nat.reduceLeDiff,Nat.reduceEqDiff,Int.reduceToNat,Nat.reduceSub,Nat.reduceMod,Nat.reduceDiv,Int.reducePow,Int.reduceLE,Int.reduceNeg,Int.reduceLT,Int.reduceBEq,Int.reduceBNe,Int.reduceEq,Try.facts,e1,e2,e3,e4,e12,e14,e17,hb3,x1,x2,x3,x4,x5,x6,x7,x8,y2,y3,y4,jd]
              intro b1 hb10 hb1
              have nb1 := bK hb1
              simp (disch := omega) only [↓aI,↓zP,aD,zD,aS0,Nat.reduceBEq,Nat.reduceLT,reduceCtorEq,↓reduceIte,Nat.reduceMul,Nat.reduceAdd,Nat.reduceLeDiff,Nat.reduceEqDiff,Int.reduceToNat,Nat.reduceSub,Nat.reduceMod,Nat.reduceDiv,Int.reducePow,Int.reduceLE,Int.reduceNeg,Int.reduceLT,Int.reduceBEq,Int.reduceBNe,Int.reduceEq,Try.facts,e1,e2,e3,e4,e12,e14,e17,set_get,aP0 nb1,aj hb1,ah]
              refine jk ?_
              simp (disch := omega) only [↓aI,↓zP,aD,zD,aS0,Nat.reduceBEq,Nat.reduceLT,reduceCtorEq,↓reduceIte,Nat.reduceMul,Nat.reduceAdd,Nat.reduceLeDiff,Nat.reduceEqDiff,Int.reduceToNat,Nat.reduceSub,Nat.reduceMod,Nat.reduceDiv,Int.reducePow,Int.reduceLE,Int.reduceNeg,Int.reduceLT,Int.reduceBEq,Int.reduceBNe,Int.reduceEq,Try.facts,e1,e2,e3,e4,e12,e14,e17,set_get,a0,a1,a2,a3,hwl]
              first | refine CallK.p (hq) ?_ | refine CallP.i (hq) ?_
              simp (disch := omega) only [↓aI,↓zP,aD,zD,aS0,Nat.reduceBEq,Nat.reduceLT,reduceCtorEq,↓reduceIte,Nat.reduceMul,Nat.reduceAdd,Nat.reduceLeDiff,Nat.reduceEqDiff,Int.reduceToNat,Nat.reduceSub,Nat.reduceMod,Nat.reduceDiv,Int.reducePow,Int.reduceLE,Int.reduceNeg,Int.reduceLT,Int.reduceBEq,Int.reduceBNe,Int.reduceEq,Try.facts,e1,e2,e3,e4,e12,e14,e17]
              intro b2 hb20 hb2'
              have nb2 := bK hb2'
              obtain ⟨qa,qb,qc,qd⟩ := q
              simp (disch := omega) only [↓aI,↓zP,aD,zD,aS0,Nat.reduceBEq,Nat.reduceLT,reduceCtorEq,↓reduceIte,Nat.reduceMul,Nat.reduceAdd,Nat.reduceLeDiff,Nat.reduceEqDiff,Int.reduceToNat,Nat.reduceSub,Nat.reduceMod,Nat.reduceDiv,Int.reducePow,Int.reduceLE,Int.reduceNeg,Int.reduceLT,Int.reduceBEq,Int.reduceBNe,Int.reduceEq,Try.facts,e1,e2,e3,e4,e12,e14,e17,qA,set_get,aP0 nb2,aj hb2',ah]
              refine br (c := ⟨Try.prog,84,[(11,[0,0,0,0,0,0,0,0,0,0,0,0,0,0,0,0,0,0,2,2]),(23,[0,0,1,0,0,1,0,0,2]),(1000000,[1]),(1000010,[6]),(1000011,[7]),(4000023,[1,2,3,71]),(4000015,[1,2,3,4,6,12,14,17,57,58]),(4000011,[1,2,3,4,6,7,12,14,17]),(4000010,[1,2,3,4,6,12,14,17])],[],[(11,(.op 0 0 (.op 1 0 (.op 2 0 (.op 4 0 (.op 5 0 (.op 6 0 (.op 8 0 (.op 9 0 (.op 10 0 (.op 12 0 (.op 13 0 (.op 14 0 (.op 3 4 (.op 7 4 (.op 11 4 (.op 15 4 (.op 16 0 (.op 17 0 (.op 18 3 (.op 19 2 .nil)))))))))))))))))))))]⟩) Try.mixed (by kernel_rfl) (fun m4 σ4 H4 => ∃ k : Nat,k + m4 = 4 ∧ σ4 1 = .ip (u32A S) 0 ∧ σ4 2 = .ptr k2 0 ∧ σ4 3 = .ptr k3 0 ∧ σ4 4 = .sc (.int .i64 d) ∧ σ4 6 = .ip [.sc (.int .i64 i1),.sc (.int .i64 i2),.sc (.int .i64 i3),.sc (.int .i64 i4)] 0 ∧ σ4 12 = .sc (.int .i64 n) ∧ σ4 14 = .sc (.int .i64 d) ∧ σ4 17 = .sc (.int .i64 i1) ∧ σ4 57 = .agg [.sc (.int .u32 qa),.sc (.int .u32 qb),.sc (.int .u32 qc),.sc (.int .u32 qd)] ∧ σ4 58 = .sc (.int .i64 k) ∧ H4 = E.set k3 (.cells (u32A (putK W (i1,i2,i3,i4) ⟨qa,qb,qc,qd⟩ k)) 62 16)) 4 ?_ ?_
              · refine ⟨0,by omega,?_⟩
                simp (disch := omega) only [↓aI,↓zP,aD,zD,aS0,Nat.reduceBEq,Nat.reduceLT,reduceCtorEq,↓reduceIte,Nat.reduceMul,Nat.reduceAdd,Nat.reduceLeDiff,Nat.reduceEqDiff,Int.reduceToNat,Nat.reduceSub,Nat.reduceMod,Nat.reduceDiv,Int.reducePow,Int.reduceLE,Int.reduceNeg,Int.reduceLT,Int.reduceBEq,Int.reduceBNe,Int.reduceEq,Try.facts,e1,e2,e3,e4,e12,e14,e17]
                first | rfl | exact ⟨rfl,rfl⟩ | trace_state
              · clear e1 e2 e3 e4 e12 e14 e17
                clear σ2
                rintro m4 σ4 H4 ⟨k,hk4',f1,f2,f3,f4,f6,f12,f14,f17,f57,f58,rfl⟩
                by_cases hlk : k < 4
                · have hc4 : k = 0 ∨ k = 1 ∨ k = 2 ∨ k = 3 := by omega
                  rcases hc4 with rfl | rfl | rfl | rfl
                  · have hput := u32A_put (l := putK W (i1,i2,i3,i4) ⟨qa,qb,qc,qd⟩ 0) (i := i1) (x := qa) (by rw [putK_len,hWo.len]; omega)
                    rw [show (putK W (i1,i2,i3,i4) ⟨qa,qb,qc,qd⟩ 0).set i1 qa = putK W (i1,i2,i3,i4) ⟨qa,qb,qc,qd⟩ 1 from rfl] at hput
                    have hcl : (u32A (putK W (i1,i2,i3,i4) ⟨qa,qb,qc,qd⟩ 0)).length = 16 := by rw [u32A_length,putK_len,hWo.len]
                    simp (disch := omega) only [↓aI,↓zP,aD,zD,aS0,Nat.reduceBEq,Nat.reduceLT,reduceCtorEq,↓reduceIte,Nat.reduceMul,Nat.reduceAdd,Nat.reduceLeDiff,Nat.reduceEqDiff,Int.reduceToNat,Nat.reduceSub,Nat.reduceMod,Nat.reduceDiv,Int.reducePow,Int.reduceLE,Int.reduceNeg,Int.reduceLT,Int.reduceBEq,Int.reduceBNe,Int.reduceEq,Try.facts,f1,f2,f3,f4,f6,f12,f14,f17,f57,f58,set_get,set_set,hcl,hput]
                    exact ⟨m4 - 1,by omega,1,by omega,rfl,rfl⟩
                  · have hput := u32A_put (l := putK W (i1,i2,i3,i4) ⟨qa,qb,qc,qd⟩ 1) (i := i2) (x := qb) (by rw [putK_len,hWo.len]; omega)
                    rw [show (putK W (i1,i2,i3,i4) ⟨qa,qb,qc,qd⟩ 1).set i2 qb = putK W (i1,i2,i3,i4) ⟨qa,qb,qc,qd⟩ 2 from rfl] at hput
                    have hcl : (u32A (putK W (i1,i2,i3,i4) ⟨qa,qb,qc,qd⟩ 1)).length = 16 := by rw [u32A_length,putK_len,hWo.len]
                    simp (disch := omega) only [↓aI,↓zP,aD,zD,aS0,Nat.reduceBEq,Nat.reduceLT,reduceCtorEq,↓reduceIte,Nat.reduceMul,Nat.reduceAdd,Nat.reduceLeDiff,Nat.reduceEqDiff,Int.reduceToNat,Nat.reduceSub,Nat.reduceMod,Nat.reduceDiv,Int.reducePow,Int.reduceLE,Int.reduceNeg,Int.reduceLT,Int.reduceBEq,Int.reduceBNe,Int.reduceEq,Try.facts,f1,f2,f3,f4,f6,f12,f14,f17,f57,f58,set_get,set_set,hcl,hput]
                    exact ⟨m4 - 1,by omega,2,by omega,rfl,rfl⟩
                  · have hput := u32A_put (l := putK W (i1,i2,i3,i4) ⟨qa,qb,qc,qd⟩ 2) (i := i3) (x := qc) (by rw [putK_len,hWo.len]; omega)
                    rw [show (putK W (i1,i2,i3,i4) ⟨qa,qb,qc,qd⟩ 2).set i3 qc = putK W (i1,i2,i3,i4) ⟨qa,qb,qc,qd⟩ 3 from rfl] at hput
                    have hcl : (u32A (putK W (i1,i2,i3,i4) ⟨qa,qb,qc,qd⟩ 2)).length = 16 := by rw [u32A_length,putK_len,hWo.len]
                    simp (disch := omega) only [↓aI,↓zP,aD,zD,aS0,Nat.reduceBEq,Nat.reduceLT,reduceCtorEq,↓reduceIte,Nat.reduceMul,Nat.reduceAdd,Nat.reduceLeDiff,Nat.reduceEqDiff,Int.reduceToNat,Nat.reduceSub,Nat.reduceMod,Nat.reduceDiv,Int.reducePow,Int.reduceLE,Int.reduceNeg,Int.reduceLT,Int.reduceBEq,Int.reduceBNe,Int.reduceEq,Try.facts,f1,f2,f3,f4,f6,f12,f14,f17,f57,f58,set_get,set_set,hcl,hput]
                    exact ⟨m4 - 1,by omega,3,by omega,rfl,rfl⟩
                  · have hput := u32A_put (l := putK W (i1,i2,i3,i4) ⟨qa,qb,qc,qd⟩ 3) (i := i4) (x := qd) (by rw [putK_len,hWo.len]; omega)
                    rw [show (putK W (i1,i2,i3,i4) ⟨qa,qb,qc,qd⟩ 3).set i4 qd = putK W (i1,i2,i3,i4) ⟨qa,qb,qc,qd⟩ 4 from rfl] at hput
                    have hcl : (u32A (putK W (i1,i2,i3,i4) ⟨qa,qb,qc,qd⟩ 3)).length = 16 := by rw [u32A_length,putK_len,hWo.len]
                    simp (disch := omega) only [↓aI,↓zP,aD,zD,aS0,Nat.reduceBEq,Nat.reduceLT,reduceCtorEq,↓reduceIte,Nat.reduceMul,Nat.reduceAdd,Nat.reduceLeDiff,Nat.reduceEqDiff,Int.reduceToNat,Nat.reduceSub,Nat.reduceMod,Nat.reduceDiv,Int.reducePow,Int.reduceLE,Int.reduceNeg,Int.reduceLT,Int.reduceBEq,Int.reduceBNe,Int.reduceEq,Try.facts,f1,f2,f3,f4,f6,f12,f14,f17,f57,f58,set_get,set_set,hcl,hput]
                    exact ⟨m4 - 1,by omega,4,by omega,rfl,rfl⟩
                · obtain rfl : k = 4 := by omega
                  simp (disch := omega) only [↓aI,↓zP,aD,zD,aS0,Nat.reduceBEq,Nat.reduceLT,reduceCtorEq,↓reduceIte,Nat.reduceMul,Nat.reduceAdd,Nat.reduceLeDiff,Nat.reduceEqDiff,Int.reduceToNat,Nat.reduceSub,Nat.reduceMod,Nat.reduceDiv,Int.reducePow,Int.reduceLE,Int.reduceNeg,Int.reduceLT,Int.reduceBEq,Int.reduceBNe,Int.reduceEq,Try.facts,f1,f2,f3,f4,f6,f12,f14,f17,f57,f58,wt]
                  exact ⟨m3 - 1,by omega,i1 + 1,by omega,rfl,by rw [← Nat.add_assoc,hny,hone]; rfl⟩
            · obtain rfl : t = 4 := by omega
              have hb3 : decide (((4 : Nat) : Int) < 4) = false := by decide
              simp (disch := omega) only [↓aI,↓zP,aD,zD,aS0,Nat.reduceBEq,Nat.reduceLT,reduceCtorEq,↓reduceIte,Nat.reduceMul,Nat.reduceAdd,Nat.reduceLeDiff,Nat.reduceEqDiff,Int.reduceToNat,Nat.reduceSub,Nat.reduceMod,Nat.reduceDiv,Int.reducePow,Int.reduceLE,Int.reduceNeg,Int.reduceLT,Int.reduceBEq,Int.reduceBNe,Int.reduceEq,Try.facts,e1,e2,e3,e4,e12,e14,e17,hb3,wd]
              exact ⟨m2 - 1,by omega,d + 1,by omega,rfl,by rw [Nat.mul_add]⟩
        · obtain rfl : d = 2 := by omega
          have hb2 : decide (((2 : Nat) : Int) < 2) = false := by decide
          simp (disch := omega) only [↓aI,↓zP,aD,zD,aS0,Nat.reduceBEq,Nat.reduceLT,reduceCtorEq,↓reduceIte,Nat.reduceMul,Nat.reduceAdd,Nat.reduceLeDiff,Nat.reduceEqDiff,Int.reduceToNat,Nat.reduceSub,Nat.reduceMod,Nat.reduceDiv,Int.reducePow,Int.reduceLE,Int.reduceNeg,Int.reduceLT,Int.reduceBEq,Int.reduceBNe,Int.reduceEq,Try.facts,e1,e2,e3,e12,e14,hb2,wn]
          exact ⟨m - 1,by omega,n + 1,by omega,rfl,by rw [hrn]⟩
    · obtain rfl : n = 10 := by omega
      have hb : decide (((10 : Nat) : Int) < 10) = false := by decide
      generalize roundsM S 10 = R at *
      have hz0 := sumF_zero (w := R) (s := S) hRo.len
      have he0 := sumF_end R S
      have hfl := sumF_len R S
      have hfg := fun i h => sumF_get R S (i := i) h
      have hfs := fun i h => sumF_set R S (i := i) h
      rw [← he0]
      generalize sumF R S = F at *
      simp (disch := omega) only [↓aI,↓zP,aD,zD,aS0,Nat.reduceBEq,Nat.reduceLT,reduceCtorEq,↓reduceIte,Nat.reduceMul,Nat.reduceAdd,Nat.reduceLeDiff,Nat.reduceEqDiff,Int.reduceToNat,Nat.reduceSub,Nat.reduceMod,Nat.reduceDiv,Int.reducePow,Int.reduceLE,Int.reduceNeg,Int.reduceLT,Int.reduceBEq,Int.reduceBNe,Int.reduceEq,Try.facts,g1,g2,g3,g12,hb]
      refine br (c := ⟨Try.prog,84,[(11,[0,0,0,0,0,0,0,0,0,0,0,0,0,0,0,0,0,0,2,2]),(23,[0,0,1,0,0,1,0,0,2]),(1000000,[1]),(1000010,[6]),(1000011,[7]),(4000023,[1,2,3,71]),(4000015,[1,2,3,4,6,12,14,17,57,58]),(4000011,[1,2,3,4,6,7,12,14,17]),(4000010,[1,2,3,4,6,12,14,17])],[],[(11,(.op 0 0 (.op 1 0 (.op 2 0 (.op 4 0 (.op 5 0 (.op 6 0 (.op 8 0 (.op 9 0 (.op 10 0 (.op 12 0 (.op 13 0 (.op 14 0 (.op 3 4 (.op 7 4 (.op 11 4 (.op 15 4 (.op 16 0 (.op 17 0 (.op 18 3 (.op 19 2 .nil)))))))))))))))))))))]⟩) Try.mixed (by kernel_rfl) (fun m σ H' => ∃ i : Nat,i + m = 16 ∧ σ 1 = .ip (u32A S) 0 ∧ σ 2 = .ptr k2 0 ∧ σ 3 = .ptr k3 0 ∧ σ 71 = .sc (.int .i64 i) ∧ H' = E.set k3 (.cells (u32A (F i)) 62 16)) 16 ?_ ?_
      · refine ⟨0,by omega,?_⟩
        rw [hz0]
        simp (disch := omega) only [↓aI,↓zP,aD,zD,aS0,Nat.reduceBEq,Nat.reduceLT,reduceCtorEq,↓reduceIte,Nat.reduceMul,Nat.reduceAdd,Nat.reduceLeDiff,Nat.reduceEqDiff,Int.reduceToNat,Nat.reduceSub,Nat.reduceMod,Nat.reduceDiv,Int.reducePow,Int.reduceLE,Int.reduceNeg,Int.reduceLT,Int.reduceBEq,Int.reduceBNe,Int.reduceEq,Try.facts,g1,g2,g3,g12]
        first | rfl | exact ⟨rfl,rfl⟩ | trace_state
      · clear g1 g2 g3 g12 hn hb
        clear σ m
        rintro m σ H' ⟨i,hi,g1,g2,g3,g71,rfl⟩
        have hll : (u32A (F i)).length = 16 := by rw [u32A_length,hfl]
        by_cases hli : i < 16
        · have hb2 : decide ((i : Int) < 16) = true := dT (by omega)
          have wi : IntKind.i64.wrap ((i : Int) + 1) = ((i + 1 : Nat) : Int) := by rw [iw (by omega)]; rfl
          have a0 := u32A_at (l := F i) (i := i) (by rw [hfl]; omega)
          have a1 := u32A_at (l := S) (i := i) (by rw [hS.len]; omega)
          rw [hfg i hli] at a0
          have hput := u32A_put (l := F i) (i := i) (x := eU (R.getD i 0) (S.getD i 0)) (by rw [hfl]; omega)
          rw [hfs i hli] at hput
          have hadd : (R.getD i 0 + S.getD i 0) % 4294967296 = eU (R.getD i 0) (S.getD i 0) := rfl
          generalize eU (R.getD i 0) (S.getD i 0) = y at *
          generalize R.getD i 0 = x0 at *
          generalize S.getD i 0 = x1 at *
          simp (disch := omega) only [↓aI,↓zP,aD,zD,aS0,Nat.reduceBEq,Nat.reduceLT,reduceCtorEq,↓reduceIte,Nat.reduceMul,Nat.reduceAdd,Nat.reduceLeDiff,Nat.reduceEqDiff,Int.reduceToNat,Nat.reduceSub,Nat.reduceMod,Nat.reduceDiv,Int.reducePow,Int.reduceLE,Int.reduceNeg,Int.reduceLT,Int.reduceBEq,Int.reduceBNe,Int.reduceEq,Try.facts,g1,g2,g3,g71,hb2,wi,set_get,set_set,a0,a1,hll,hSl,wadd32,hadd,hput]
          exact ⟨m - 1,by omega,i + 1,by omega,rfl,rfl⟩
        · obtain rfl : i = 16 := by omega
          have hb2 : decide (((16 : Nat) : Int) < 16) = false := by decide
          have htk : (u32A (F 16)).take 16 = u32A (F 16) := List.take_of_length_le (by omega)
          rw [hz] at v2
          simp (disch := omega) only [↓aI,↓zP,aD,zD,aS0,Nat.reduceBEq,Nat.reduceLT,reduceCtorEq,↓reduceIte,Nat.reduceMul,Nat.reduceAdd,Nat.reduceLeDiff,Nat.reduceEqDiff,Int.reduceToNat,Nat.reduceSub,Nat.reduceMod,Nat.reduceDiv,Int.reducePow,Int.reduceLE,Int.reduceNeg,Int.reduceLT,Int.reduceBEq,Int.reduceBNe,Int.reduceEq,Try.facts,g1,g2,g3,g71,hb2,set_get,aP0 n23,aP0 (fun e => n23 e.symm),v2,hll,htk,ah]
          refine ⟨by rw [u32A_strip],?_⟩
          rw [hE]
          exact ((Sub.set_new hk2').set_free hk3').set_free hk2'
end Go.Proofs.Ytibipjdngpjndaa
end
section
set_option linter.unusedSimpArgs false
set_option linter.unusedVariables false
set_option maxRecDepth 20000
set_option maxHeartbeats 4000000
namespace Go.Proofs.Ytibipjdngpjndaa
open Go Go.Abs Go.Proofs Go.Box
theorem sfirst_pure (key nonce : List UInt8) (c : Nat) (hk : key.length = 32) (hn : nonce.length = 12) (hc : c < 4294967296) : APure Try.prog 41 [eu key,eu nonce,.sc (.int .u32 c)] (.tup [eu (blkM key nonce c),.sc (.int .i64 0)]) := by
  have c1 := sstate_pure key nonce c hk hn hc
  have c2 := sblock_pure (stateM key nonce c) (state_ok key nonce hc)
  have c3 := stold_pure (blockW (stateM key nonce c)) ⟨by simp [blockW,sumW],fun x hx => by
    unfold blockW sumW at hx
    obtain ⟨i,-,rfl⟩ := List.mem_map.1 hx
    exact addM_lt _ _⟩
  have hb : blkM key nonce c = tellW (blockW (stateM key nonce c)) := rfl
  rw [hb]
  generalize tellW (blockW (stateM key nonce c)) = T at *
  generalize blockW (stateM key nonce c) = W at *
  generalize stateM key nonce c = S at *
  have b1 : ((key.length : Int) != 32) = false := by rw [hk]; rfl
  have b2 : ((nonce.length : Int) != 12) = false := by rw [hn]; rfl
  refine az (c := ⟨Try.prog,22,[],[],[]⟩) (rs := [ResultVar.tmp 6,ResultVar.tmp 7]) Try.mixed Try.func41 rfl rfl rfl (Nat.le_of_ble_eq_true rfl) (by kernel_rfl) fun H => ?_
  simp (disch := omega) only [↓aI,↓zP,aD,zD,aS0,Nat.reduceBEq,Nat.reduceLT,reduceCtorEq,↓reduceIte,Nat.reduceMul,Nat.reduceAdd,Nat.reduceLeDiff,Nat.reduceEqDiff,Int.reduceToNat,Nat.reduceSub,Nat.reduceMod,Nat.reduceDiv,Int.reducePow,Int.reduceLE,Int.reduceNeg,Int.reduceLT,Int.reduceBEq,Int.reduceBNe,Int.reduceEq,Try.facts,b1,b2]
  first | refine CallK.p (c1) ?_ | refine CallP.i (c1) ?_
  simp (disch := omega) only [↓aI,↓zP,aD,zD,aS0,Nat.reduceBEq,Nat.reduceLT,reduceCtorEq,↓reduceIte,Nat.reduceMul,Nat.reduceAdd,Nat.reduceLeDiff,Nat.reduceEqDiff,Int.reduceToNat,Nat.reduceSub,Nat.reduceMod,Nat.reduceDiv,Int.reducePow,Int.reduceLE,Int.reduceNeg,Int.reduceLT,Int.reduceBEq,Int.reduceBNe,Int.reduceEq,Try.facts,u32A_strip]
  first | refine CallK.p (c2) ?_ | refine CallP.i (c2) ?_
  simp (disch := omega) only [↓aI,↓zP,aD,zD,aS0,Nat.reduceBEq,Nat.reduceLT,reduceCtorEq,↓reduceIte,Nat.reduceMul,Nat.reduceAdd,Nat.reduceLeDiff,Nat.reduceEqDiff,Int.reduceToNat,Nat.reduceSub,Nat.reduceMod,Nat.reduceDiv,Int.reducePow,Int.reduceLE,Int.reduceNeg,Int.reduceLT,Int.reduceBEq,Int.reduceBNe,Int.reduceEq,Try.facts,u32A_strip]
  first | refine CallK.p (c3) ?_ | refine CallP.i (c3) ?_
  simp (disch := omega) only [↓aI,↓zP,aD,zD,aS0,Nat.reduceBEq,Nat.reduceLT,reduceCtorEq,↓reduceIte,Nat.reduceMul,Nat.reduceAdd,Nat.reduceLeDiff,Nat.reduceEqDiff,Int.reduceToNat,Nat.reduceSub,Nat.reduceMod,Nat.reduceDiv,Int.reducePow,Int.reduceLE,Int.reduceNeg,Int.reduceLT,Int.reduceBEq,Int.reduceBNe,Int.reduceEq,Try.facts]
  first | exact Abs.Sub.refl _ | trace_state
def xF (T t : List UInt8) (i : Nat) : List UInt8 := (List.range t.length).map fun j => if j < i then T.getD j 0 else t.getD j 0
theorem xF_len (T t : List UInt8) (i : Nat) : (xF T t i).length = t.length := by simp [xF]
theorem xF_zero (T t : List UInt8) : xF T t 0 = t := by
  apply List.ext_getElem (xF_len ..)
  intro j h1 h2
  simp [xF,List.getD,h2]
theorem xF_end {T t : List UInt8} (h : T.length = t.length) {i : Nat} (hi : t.length ≤ i) : xF T t i = T := by
  apply List.ext_getElem (by rw [xF_len,h])
  intro j h1 h2
  simp only [xF,List.getElem_map,List.getElem_range]
  rw [if_pos (by omega)]
  simp [List.getD,h2]
theorem xF_over {T t : List UInt8} {i : Nat} (hi : t.length ≤ i) : xF T t (i + 1) = xF T t i := by
  unfold xF
  refine List.map_congr_left fun j hj => ?_
  have := List.mem_range.1 hj
  rw [if_pos (by omega),if_pos (by omega)]
theorem xF_get (T t : List UInt8) {i : Nat} (h : i < t.length) : (xF T t i).getD i 0 = t.getD i 0 := by
  simp [xF,List.getD,h]
theorem xF_set (T t : List UInt8) {i : Nat} (h : i < t.length) : (xF T t i).set i (T.getD i 0) = xF T t (i + 1) := by
  apply List.ext_getElem (by rw [List.length_set,xF_len,xF_len])
  intro j h1 h2
  by_cases e : i = j
  · subst e
    rw [List.getElem_set_self]
    simp [xF]
  · rw [List.getElem_set_ne e]
    simp only [xF,List.getElem_map,List.getElem_range]
    by_cases c : j < i
    · rw [if_pos c,if_pos (by omega)]
    · rw [if_neg c,if_neg (by omega)]
theorem state_next (key nonce : List UInt8) (c : Nat) : (stateM key nonce c).set 12 (c + 1) = stateM key nonce (c + 1) := rfl
theorem state_at (key nonce : List UInt8) (c : Nat) : (stateM key nonce c).getD 12 0 = c := rfl
theorem zeros_b (n : Nat) : aQ0 [AV.sc (.int .u8 0)] n = bw (List.replicate n 0) := by
  induction n with
  | zero => rfl
  | succ n ih =>
    rw [List.replicate_succ]
    show [AV.sc (.int .u8 0)] ++ aQ0 [AV.sc (.int .u8 0)] n = .sc (.int .u8 0) :: bw (List.replicate n 0)
    rw [ih]
    rfl
theorem set_mid {H : AH} {a b : Nat} {x y x' : AObj} (h : ¬ a = b) : ((H.set a x).set b y).set a x' = (H.set a x').set b y := by
  rw [fD h,set_set]
theorem zeros_u {l : List AV} (h : l.length = 16) : bG [.sc (.int .u32 0),.sc (.int .u32 0),.sc (.int .u32 0),.sc (.int .u32 0),.sc (.int .u32 0),.sc (.int .u32 0),.sc (.int .u32 0),.sc (.int .u32 0),.sc (.int .u32 0),.sc (.int .u32 0),.sc (.int .u32 0),.sc (.int .u32 0),.sc (.int .u32 0),.sc (.int .u32 0),.sc (.int .u32 0),.sc (.int .u32 0)] 0 l = l := by
  rw [ah,h]
  simp
theorem sxor_pure (key nonce t : List UInt8) (hk : key.length = 32) (hn : nonce.length = 12) (ht : t.length ≤ 100000) : APure Try.prog 25 [eu key,eu nonce,.sc (.int .u32 1),eu t] (.tup [eu (strM key nonce t),.sc (.int .i64 0)]) := by
  have c1 := sstate_pure key nonce 1 hk hn (by omega)
  have hok := fun c h => state_ok key nonce (c := c) h
  have c2 := fun c (h : c < 4294967296) => sblock_pure (stateM key nonce c) (hok c h)
  have c3 := fun c => stold_pure (blockW (stateM key nonce c)) ⟨by simp [blockW,sumW],fun x hx => by
    unfold blockW sumW at hx
    obtain ⟨i,-,rfl⟩ := List.mem_map.1 hx
    exact addM_lt _ _⟩
  have hblk : ∀ c,tellW (blockW (stateM key nonce c)) = blkM key nonce c := fun c => rfl
  have hbll := fun c => blkM_len key nonce c
  have hsn := state_next key nonce
  have hsa := state_at key nonce
  simp only [hblk] at c3
  have hTl := strM_len key nonce t
  have hTg := fun i h => strM_get key nonce t (i := i) h
  have x0 := xF_zero (strM key nonce t) t
  have xl := xF_len (strM key nonce t) t
  have xe := fun i hi => xF_end (T := strM key nonce t) (t := t) hTl (i := i) hi
  have xo := fun i hi => xF_over (T := strM key nonce t) (t := t) (i := i) hi
  have xg := fun i h => xF_get (strM key nonce t) t (i := i) h
  have xs := fun i h => xF_set (strM key nonce t) t (i := i) h
  generalize xF (strM key nonce t) t = X at *
  generalize strM key nonce t = T at *
  have b1 : ((key.length : Int) != 32) = false := by rw [hk]; rfl
  have b2 : ((nonce.length : Int) != 12) = false := by rw [hn]; rfl
  have w0 : IntKind.u64.wrap 1 = 1 := by decide
  have w1 : IntKind.i64.wrap ((t.length : Int) + 63) = ((t.length + 63 : Nat) : Int) := by rw [iw (by omega)]; rfl
  have w2 : IntKind.u64.wrap ((t.length + 63 : Nat) : Int) = ((t.length + 63 : Nat) : Int) := jw (by omega)
  have w3 : IntKind.u64.wrap (((t.length + 63) / 64 : Nat) : Int) = (((t.length + 63) / 64 : Nat) : Int) := jw (by omega)
  have w4 : IntKind.u64.wrap (1 + (((t.length + 63) / 64 : Nat) : Int)) = ((1 + (t.length + 63) / 64 : Nat) : Int) := by
    rw [show (1 : Int) + (((t.length + 63) / 64 : Nat) : Int) = ((1 + (t.length + 63) / 64 : Nat) : Int) by omega]
    exact jw (by omega)
  have b3 : decide ((4294967296 : Int) < ((1 + (t.length + 63) / 64 : Nat) : Int)) = false := dF (by omega)
  have hel := gz t
  have hsz : ai0 Try.prog 5 = 1 := by kernel_rfl
  refine az (c := ⟨Try.prog,78,[(4000017,[10,11,12]),(4000015,[10,11,12,50,51,52]),(4000014,[10,11,12,13,14,50,51,52,62]),(4000013,[10,11,12,13,14,50,51,52]),(4000011,[10,11,12,50,51,52]),(4000007,[10,11]),(4000003,[0,1,2,3,31]),(4000001,[0,1,2,3,22])],[],[]⟩) (rs := [ResultVar.tmp 8,ResultVar.tmp 9]) Try.mixed Try.func25 rfl rfl rfl (Nat.le_of_ble_eq_true rfl) (by kernel_rfl) fun H => ?_
  simp (disch := omega) only [↓aI,↓zP,aD,zD,aS0,Nat.reduceBEq,Nat.reduceLT,reduceCtorEq,↓reduceIte,Nat.reduceMul,Nat.reduceAdd,Nat.reduceLeDiff,Nat.reduceEqDiff,Int.reduceToNat,Nat.reduceSub,Nat.reduceMod,Nat.reduceDiv,Int.reducePow,Int.reduceLE,Int.reduceNeg,Int.reduceLT,Int.reduceBEq,Int.reduceBNe,Int.reduceEq,Try.facts,b1,b2,w0,w1,w2,w3,w4,b3,tdivN]
  intro kw hkw0 hkw
  have hrl : (aQ0 [AV.sc (.int .u8 0)] t.length).length = t.length := by rw [zeros_b,gz,List.length_replicate]
  have hmin : min t.length t.length = t.length := Nat.min_self _
  have hput : bG (aQ0 [AV.sc (.int .u8 0)] t.length) 0 (bw t) = bw t := by
    rw [ah,hel,Nat.zero_add,List.drop_of_length_le (by omega)]
    simp
  unfold eu
  refine copy_m (e := 5) (ns := t.length) (cs := aQ0 [AV.sc (.int .u8 0)] t.length) (news := bw t) (by kernel_rfl) rfl (by rw [hsz]; exact set_get) ⟨by omega,by rw [hsz,hel,Nat.mul_one],by rw [hmin,hsz,Nat.mul_one,List.take_of_length_le (by omega)]⟩ (by rw [hmin,hsz,hel,Nat.mul_one]) (by kernel_rfl) (by omega) (by rw [hsz]; omega) (.inl (by omega)) ?_
  rw [hsz,set_set,hput]
  unfold eu at c1
  simp (disch := omega) only [↓aI,↓zP,aD,zD,aS0,Nat.reduceBEq,Nat.reduceLT,reduceCtorEq,↓reduceIte,Nat.reduceMul,Nat.reduceAdd,Nat.reduceLeDiff,Nat.reduceEqDiff,Int.reduceToNat,Nat.reduceSub,Nat.reduceMod,Nat.reduceDiv,Int.reducePow,Int.reduceLE,Int.reduceNeg,Int.reduceLT,Int.reduceBEq,Int.reduceBNe,Int.reduceEq,Try.facts]
  have hS1 : (u32A (stateM key nonce 1)).length = 16 := by rw [u32A_length,(hok 1 (by omega)).len]
  first | refine CallK.p (c1) ?_ | refine CallP.i (c1) ?_
  simp (disch := omega) only [↓aI,↓zP,aD,zD,aS0,Nat.reduceBEq,Nat.reduceLT,reduceCtorEq,↓reduceIte,Nat.reduceMul,Nat.reduceAdd,Nat.reduceLeDiff,Nat.reduceEqDiff,Int.reduceToNat,Nat.reduceSub,Nat.reduceMod,Nat.reduceDiv,Int.reducePow,Int.reduceLE,Int.reduceNeg,Int.reduceLT,Int.reduceBEq,Int.reduceBNe,Int.reduceEq,Try.facts,u32A_strip,hS1]
  intro ky hky0 hky
  have nky := bK hky
  have hky' := am hky
  have hputS := zeros_u hS1
  simp (disch := omega) only [↓aI,↓zP,aD,zD,aS0,Nat.reduceBEq,Nat.reduceLT,reduceCtorEq,↓reduceIte,Nat.reduceMul,Nat.reduceAdd,Nat.reduceLeDiff,Nat.reduceEqDiff,Int.reduceToNat,Nat.reduceSub,Nat.reduceMod,Nat.reduceDiv,Int.reducePow,Int.reduceLE,Int.reduceNeg,Int.reduceLT,Int.reduceBEq,Int.reduceBNe,Int.reduceEq,Try.facts,set_get,set_set,hputS]
  refine br (c := ⟨Try.prog,78,[(4000017,[10,11,12]),(4000015,[10,11,12,50,51,52]),(4000014,[10,11,12,13,14,50,51,52,62]),(4000013,[10,11,12,13,14,50,51,52]),(4000011,[10,11,12,50,51,52]),(4000007,[10,11]),(4000003,[0,1,2,3,31]),(4000001,[0,1,2,3,22])],[],[]⟩) Try.mixed (by kernel_rfl) (fun m σ H' => ∃ b : Nat,b + m = (t.length + 63) / 64 ∧ σ 10 = .own kw 0 t.length ∧ σ 11 = .ptr ky 0 ∧ σ 12 = .sc (.int .i64 (64 * b : Nat)) ∧ H' = (H.set kw (.cells (bw (X (64 * b))) 5 1)).set ky (.cells (u32A (stateM key nonce (1 + b))) 62 16)) ((t.length + 63) / 64) ?_ ?_
  · refine ⟨0,by omega,?_⟩
    rw [Nat.mul_zero,x0]
    simp (disch := omega) only [↓aI,↓zP,aD,zD,aS0,Nat.reduceBEq,Nat.reduceLT,reduceCtorEq,↓reduceIte,Nat.reduceMul,Nat.reduceAdd,Nat.reduceLeDiff,Nat.reduceEqDiff,Int.reduceToNat,Nat.reduceSub,Nat.reduceMod,Nat.reduceDiv,Int.reducePow,Int.reduceLE,Int.reduceNeg,Int.reduceLT,Int.reduceBEq,Int.reduceBNe,Int.reduceEq,Try.facts]
  · rintro m σ H' ⟨b,hb,g10,g11,g12,rfl⟩
    have hXl := xl (64 * b)
    by_cases hlt : b < (t.length + 63) / 64
    · have hb1 : decide (((64 * b : Nat) : Int) < (t.length : Int)) = true := dT (by omega)
      have hSb : (u32A (stateM key nonce (1 + b))).length = 16 := by rw [u32A_length,(hok _ (by omega)).len]
      have hSt : (u32A (stateM key nonce (1 + b))).take 16 = u32A (stateM key nonce (1 + b)) := List.take_of_length_le (by omega)
      have d2 := c2 (1 + b) (by omega)
      have d3 := c3 (1 + b)
      have dl := hbll (1 + b)
      have w6 : IntKind.i64.wrap (((64 * b : Nat) : Int) + 64) = ((64 * (b + 1) : Nat) : Int) := by rw [iw (by omega)]; omega
      unfold eu at d3
      rw [dl] at d3
      have a12 := u32A_at (l := stateM key nonce (1 + b)) (i := 12) (by rw [(hok _ (by omega)).len]; omega)
      rw [hsa] at a12
      have hp12 := u32A_put (l := stateM key nonce (1 + b)) (i := 12) (x := 1 + b + 1) (by rw [(hok _ (by omega)).len]; omega)
      rw [hsn] at hp12
      have w7 : IntKind.u32.wrap (((1 + b : Nat) : Int) + 1) = ((1 + b + 1 : Nat) : Int) := by
        rw [show (((1 + b : Nat) : Int) + 1) = ((1 + b + 1 : Nat) : Int) by omega,wcast32,Nat.mod_eq_of_lt (by omega)]
      have hBe := gz (blkM key nonce (1 + b))
      rw [dl] at hBe
      have hTb : ∀ j,j < 64 → 64 * b + j < t.length → T.getD (64 * b + j) 0 = t.getD (64 * b + j) 0 ^^^ (blkM key nonce (1 + b)).getD j 0 := fun j h1 h2 => by
        rw [hTg _ h2,show (64 * b + j) / 64 = b by omega,show (64 * b + j) % 64 = j by omega]
      have hnS : stateM key nonce (1 + b + 1) = stateM key nonce (1 + (b + 1)) := by congr 1
      rw [hnS] at hp12
      generalize hS' : stateM key nonce (1 + (b + 1)) = S' at *
      generalize stateM key nonce (1 + b) = S at *
      generalize blkM key nonce (1 + b) = B at *
      simp (disch := omega) only [↓aI,↓zP,aD,zD,aS0,Nat.reduceBEq,Nat.reduceLT,reduceCtorEq,↓reduceIte,Nat.reduceMul,Nat.reduceAdd,Nat.reduceLeDiff,Nat.reduceEqDiff,Int.reduceToNat,Nat.reduceSub,Nat.reduceMod,Nat.reduceDiv,Int.reducePow,Int.reduceLE,Int.reduceNeg,Int.reduceLT,Int.reduceBEq,Int.reduceBNe,Int.reduceEq,Try.facts,g10,g11,g12,hb1,hXl,set_get,hSb,hSt]
      rw [u32A_strip]
      first | refine CallK.p (d2) ?_ | refine CallP.i (d2) ?_
      simp (disch := omega) only [↓aI,↓zP,aD,zD,aS0,Nat.reduceBEq,Nat.reduceLT,reduceCtorEq,↓reduceIte,Nat.reduceMul,Nat.reduceAdd,Nat.reduceLeDiff,Nat.reduceEqDiff,Int.reduceToNat,Nat.reduceSub,Nat.reduceMod,Nat.reduceDiv,Int.reducePow,Int.reduceLE,Int.reduceNeg,Int.reduceLT,Int.reduceBEq,Int.reduceBNe,Int.reduceEq,Try.facts,u32A_strip]
      first | refine CallK.p (d3) ?_ | refine CallP.i (d3) ?_
      simp (disch := omega) only [↓aI,↓zP,aD,zD,aS0,Nat.reduceBEq,Nat.reduceLT,reduceCtorEq,↓reduceIte,Nat.reduceMul,Nat.reduceAdd,Nat.reduceLeDiff,Nat.reduceEqDiff,Int.reduceToNat,Nat.reduceSub,Nat.reduceMod,Nat.reduceDiv,Int.reducePow,Int.reduceLE,Int.reduceNeg,Int.reduceLT,Int.reduceBEq,Int.reduceBNe,Int.reduceEq,Try.facts,g10,g11,g12]
      refine br (c := ⟨Try.prog,78,[(4000017,[10,11,12]),(4000015,[10,11,12,50,51,52]),(4000014,[10,11,12,13,14,50,51,52,62]),(4000013,[10,11,12,13,14,50,51,52]),(4000011,[10,11,12,50,51,52]),(4000007,[10,11]),(4000003,[0,1,2,3,31]),(4000001,[0,1,2,3,22])],[],[]⟩) Try.mixed (by kernel_rfl) (fun m2 σ2 H2 => ∃ j : Nat,j + m2 = 64 ∧ σ2 10 = .own kw 0 t.length ∧ σ2 11 = .ptr ky 0 ∧ σ2 12 = .sc (.int .i64 (64 * b : Nat)) ∧ σ2 50 = .imm 0 (bw B) 64 ∧ σ2 51 = .sc (.int .i64 64) ∧ σ2 52 = .sc (.int .i64 j) ∧ H2 = (H.set kw (.cells (bw (X (64 * b + j))) 5 1)).set ky (.cells (u32A S) 62 16)) 64 ?_ ?_
      · refine ⟨0,by omega,?_⟩
        simp (disch := omega) only [↓aI,↓zP,aD,zD,aS0,Nat.reduceBEq,Nat.reduceLT,reduceCtorEq,↓reduceIte,Nat.reduceMul,Nat.reduceAdd,Nat.reduceLeDiff,Nat.reduceEqDiff,Int.reduceToNat,Nat.reduceSub,Nat.reduceMod,Nat.reduceDiv,Int.reducePow,Int.reduceLE,Int.reduceNeg,Int.reduceLT,Int.reduceBEq,Int.reduceBNe,Int.reduceEq,Try.facts,g10,g11,g12]
        first | rfl | exact ⟨rfl,rfl⟩ | trace_state
      · clear g10 g11 g12
        clear σ
        rintro m2 σ H2 ⟨j,hj,g10,g11,g12,g50,g51,g52,rfl⟩
        have hXj := xl (64 * b + j)
        have hXe := gz (X (64 * b + j))
        by_cases hlj : j < 64
        · have hb2 : decide ((j : Int) < 64) = true := dT (by omega)
          have ha := encB_get (l := B) (i := j) (by omega)
          have w5 : IntKind.i64.wrap (((64 * b : Nat) : Int) + (j : Int)) = ((64 * b + j : Nat) : Int) := by rw [iw (by omega)]; rfl
          have wj : IntKind.i64.wrap ((j : Int) + 1) = ((j + 1 : Nat) : Int) := by rw [iw (by omega)]; rfl
          by_cases hin : 64 * b + j < t.length
          · have hb3 : decide (((64 * b + j : Nat) : Int) < (t.length : Int)) = true := dT (by omega)
            have hax := encB_get (l := X (64 * b + j)) (i := 64 * b + j) (by omega)
            rw [xg _ hin] at hax
            have hput := put_bytes (l := X (64 * b + j)) (i := 64 * b + j) (b := T.getD (64 * b + j) 0) (by omega)
            rw [xs _ hin,hTb j hlj hin] at hput
            have hn8 := n8xor (t.getD (64 * b + j) 0) (B.getD j 0)
            generalize t.getD (64 * b + j) 0 = y0 at *
            generalize B.getD j 0 = y1 at *
            rw [Nat.add_assoc] at hput
            generalize hX' : X (64 * b + (j + 1)) = X' at *
            simp (disch := omega) only [↓aI,↓zP,aD,zD,aS0,Nat.reduceBEq,Nat.reduceLT,reduceCtorEq,↓reduceIte,Nat.reduceMul,Nat.reduceAdd,Nat.reduceLeDiff,Nat.reduceEqDiff,Int.reduceToNat,Nat.reduceSub,Nat.reduceMod,Nat.reduceDiv,Int.reducePow,Int.reduceLE,Int.reduceNeg,Int.reduceLT,Int.reduceBEq,Int.reduceBNe,Int.reduceEq,Try.facts,g10,g11,g12,g50,g51,g52,hb2,hb3,ha,hBe,w5,wj,hax,hXe,hXj,set_get,aP0 (fun e => nky e.symm),aP0 nky,hn8,hput,set_mid nky]
            exact ⟨m2 - 1,by omega,j + 1,by omega,rfl,by rw [hX']⟩
          · have hb3 : decide (((64 * b + j : Nat) : Int) < (t.length : Int)) = false := dF (by omega)
            have hXo := xo (64 * b + j) (by omega)
            rw [Nat.add_assoc] at hXo
            simp (disch := omega) only [↓aI,↓zP,aD,zD,aS0,Nat.reduceBEq,Nat.reduceLT,reduceCtorEq,↓reduceIte,Nat.reduceMul,Nat.reduceAdd,Nat.reduceLeDiff,Nat.reduceEqDiff,Int.reduceToNat,Nat.reduceSub,Nat.reduceMod,Nat.reduceDiv,Int.reducePow,Int.reduceLE,Int.reduceNeg,Int.reduceLT,Int.reduceBEq,Int.reduceBNe,Int.reduceEq,Try.facts,g10,g11,g12,g50,g51,g52,hb2,hb3,ha,hBe,w5,wj]
            exact ⟨m2 - 1,by omega,j + 1,by omega,rfl,by rw [hXo]⟩
        · obtain rfl : j = 64 := by omega
          have hb2 : decide (((64 : Nat) : Int) < 64) = false := by decide
          simp (disch := omega) only [↓aI,↓zP,aD,zD,aS0,Nat.reduceBEq,Nat.reduceLT,reduceCtorEq,↓reduceIte,Nat.reduceMul,Nat.reduceAdd,Nat.reduceLeDiff,Nat.reduceEqDiff,Int.reduceToNat,Nat.reduceSub,Nat.reduceMod,Nat.reduceDiv,Int.reducePow,Int.reduceLE,Int.reduceNeg,Int.reduceLT,Int.reduceBEq,Int.reduceBNe,Int.reduceEq,Try.facts,g10,g11,g12,g50,g51,g52,hb2,set_get,a12,hSb,w7,hp12,set_set,w6]
          exact ⟨m - 1,by omega,b + 1,by omega,rfl,by rw [hS',Nat.mul_add]⟩
    · obtain rfl : b = (t.length + 63) / 64 := by omega
      have hb1 : decide (((64 * ((t.length + 63) / 64) : Nat) : Int) < (t.length : Int)) = false := dF (by omega)
      rw [xe _ (by omega)]
      have gW : ∀ Y,((H.set kw (.cells (bw T) 5 1)).set ky Y) kw = some (.cells (bw T) 5 1) := fun Y => by
        first
          | (rw [aP0 nky]; exact set_get)
          | (rw [aP0 (fun e => nky e.symm)]; exact set_get)
      have hTe := gz T
      simp (disch := omega) only [↓aI,↓zP,aD,zD,aS0,Nat.reduceBEq,Nat.reduceLT,reduceCtorEq,↓reduceIte,Nat.reduceMul,Nat.reduceAdd,Nat.reduceLeDiff,Nat.reduceEqDiff,Int.reduceToNat,Nat.reduceSub,Nat.reduceMod,Nat.reduceDiv,Int.reducePow,Int.reduceLE,Int.reduceNeg,Int.reduceLT,Int.reduceBEq,Int.reduceBNe,Int.reduceEq,Try.facts,g10,g11,g12,hb1]
      rw [gW,hkw]
      refine ⟨?_,by show t.length * 1 ≤ _; omega,((Sub.set_new hkw).set_free hky')⟩
      show some (AV.tup [AV.imm 0 ((bw T).take (t.length * 1)) t.length,AV.sc (.int .i64 0)]) = _
      rw [List.take_of_length_le (by omega),hTl]
end Go.Proofs.Ytibipjdngpjndaa
end
