/-
  The document's block.
  Conditions: none. Lemmas only.
-/
import Derived.Test.YtejncnmdjkhiaaaDoorShaG4
set_option linter.all false
set_option linter.unusedSimpArgs false
set_option linter.unusedVariables false
set_option maxRecDepth 20000
set_option maxHeartbeats 4000000
namespace Go.Proofs.YtejncnmdjkhiaaaDoor
open Go Go.Abs Go.Proofs Go.Sha
def stL (s : St) : List Nat := [s.a,s.b,s.c,s.d,s.e,s.f,s.g,s.h]
theorem stL_lt {s : St} (h : OkS s) (i : Nat) : (stL s).getD i 0 < 4294967296 := by
  match i with
  | 0 => exact h.a
  | 1 => exact h.b
  | 2 => exact h.c
  | 3 => exact h.d
  | 4 => exact h.e
  | 5 => exact h.f
  | 6 => exact h.g
  | 7 => exact h.h
  | i + 8 => simp [stL]
theorem stL_add (v s : St) {i : Nat} (h : i < 8) : (stL (addS v s)).getD i 0 = ((stL v).getD i 0 + (stL s).getD i 0) % 4294967296 := by
  match i,h with
  | 0,_ | 1,_ | 2,_ | 3,_ | 4,_ | 5,_ | 6,_ | 7,_ => rfl
theorem stL_take (s : St) {i : Nat} (h : i < 8) : (stL s).take (i + 1) = (stL s).take i ++ [(stL s).getD i 0] := by
  match i,h with
  | 0,_ | 1,_ | 2,_ | 3,_ | 4,_ | 5,_ | 6,_ | 7,_ => rfl
theorem xor_all {w a : Nat} (h : a < 2 ^ w) : (2 ^ w - 1) ^^^ a = 2 ^ w - 1 - a := by
  apply Nat.eq_of_testBit_eq
  intro i
  rw [Nat.testBit_xor,Nat.testBit_two_pow_sub_one,show 2 ^ w - 1 - a = 2 ^ w - (a + 1) by omega,Nat.testBit_two_pow_sub_succ h]
  by_cases hi : i < w
  · simp [hi]
  · have : a.testBit i = false := Nat.testBit_lt_two_pow (Nat.lt_of_lt_of_le h (Nat.pow_le_pow_right (by decide) (by omega)))
    simp [hi,this]
theorem not64 {a : Nat} (h : a < 18446744073709551616) : notI .u64 (a : Int) = ((18446744073709551615 - a : Nat) : Int) := by
  have e := bits_xor64 (a := 18446744073709551615) (b := a) (by omega) h
  rw [show (18446744073709551615 : Nat) ^^^ a = 18446744073709551615 - a from xor_all (w := 64) h] at e
  exact e
theorem not32 {a : Nat} (h : a < 4294967296) : notI .u32 (a : Int) = ((4294967295 - a : Nat) : Int) := by
  have e := bits_xor32 (a := 4294967295) (b := a) (by omega) h
  rw [show (4294967295 : Nat) ^^^ a = 4294967295 - a from xor_all (w := 32) h] at e
  exact e
theorem keys_get {t : Nat} (h : t < 64) : (digA keys256)[t]? = some (.sc (.int .u64 (kM t : Nat))) := digA_at h
theorem kM_lt (t : Nat) : kM t < 4294967296 := by
  have h : ∀ x ∈ keys256,x < 4294967296 := by decide
  unfold kM
  by_cases hi : t < keys256.length
  · simp only [List.getD,List.getElem?_eq_getElem hi,Option.getD_some]
    exact h _ (List.getElem_mem hi)
  · simp only [List.getD,List.getElem?_eq_none (Nat.le_of_not_lt hi),Option.getD_none]
    decide
theorem dblock_pure (v : St) (hv : OkS v) (b : List UInt8) (hbl : b.length = 64) : APure Tryd.prog 48 [kindS,.imm 0 (digA (stL v)) 8,.imm 0 (bw b) 64] (.imm 0 (digA (stL (blockM v b))) 8) := by
  have hcut := fun x hx => cut_pure (digA keys256) (digA first256) 64 8 x hx
  have hs1 := fun x hx => dturned_pure (digA keys256) (digA first256) 64 8 x 6 11 25 hx (by omega) (by omega) (by omega)
  have hs2 := fun x hx => dturned_pure (digA keys256) (digA first256) 64 8 x 2 13 22 hx (by omega) (by omega) (by omega)
  have hwd := words_pure b hbl
  have hwl : ∀ t,t < 64 → (digA (wlM b 64))[t]? = some (.sc (.int .u64 (wM b t : Nat))) := fun t ht => by rw [digA_at (by rw [wlM_len]; exact ht),wM_get b ht]
  have hwn : (digA (wlM b 64)).length = 64 := by rw [digA_length,wlM_len]
  have hkl : (digA keys256).length = 64 := rfl
  have hkg := fun t ht => keys_get (t := t) ht
  have hv0 : (digA (stL v))[0]? = some (.sc (.int .u64 (v.a : Nat))) := rfl
  have hv1 : (digA (stL v))[1]? = some (.sc (.int .u64 (v.b : Nat))) := rfl
  have hv2 : (digA (stL v))[2]? = some (.sc (.int .u64 (v.c : Nat))) := rfl
  have hv3 : (digA (stL v))[3]? = some (.sc (.int .u64 (v.d : Nat))) := rfl
  have hv4 : (digA (stL v))[4]? = some (.sc (.int .u64 (v.e : Nat))) := rfl
  have hv5 : (digA (stL v))[5]? = some (.sc (.int .u64 (v.f : Nat))) := rfl
  have hv6 : (digA (stL v))[6]? = some (.sc (.int .u64 (v.g : Nat))) := rfl
  have hv7 : (digA (stL v))[7]? = some (.sc (.int .u64 (v.h : Nat))) := rfl
  have hvl : (digA (stL v)).length = 8 := rfl
  unfold kindS KS FS at *
  generalize digA keys256 = ks at *
  generalize digA first256 = fs at *
  generalize digA (wlM b 64) = ws at *
  generalize hvr : digA (stL v) = vr at *
  unfold kindV by3 at *
  refine az (c := ⟨Tryd.prog,145,[(2,[0,0,1,0,0,1,0,0,1,0,0,1,0,0,1,0,0,1,0,0,1,0,0,1,0,0,0,0,0,0,0,0]),(6,[0,1,0,0,1,0,0,0,0,0,1,0,0,0,0,0,0,0,0,1,0,0,1,0,0,0,0,1,0,0]),(21,[0,1,0,0,0,1,0,0,0,1,0,0,0,2,0]),(1000000,[3]),(4000021,[1,3,19,20,21]),(4000016,[1,3,19]),(4000015,[1,3,7,8,9,10,11,12,13,14,15,16]),(4000011,[1,3,7,8,9,10,12,13,14,15,16,17,18]),(4000007,[1,3,7,8,9,10,11,12,13,14,16,17,18]),(4000006,[1,3,7,8,9,10,11,12,13,14,16,17]),(4000002,[1,3,7,8,9,10,11,12,13,14,15])],[],[]⟩) (rs := [ResultVar.tmp 6]) Tryd.mixed Tryd.func48 rfl rfl rfl (Nat.le_of_ble_eq_true rfl) (by kernel_rfl) fun H => ?_
  simp (disch := omega) only [↓aI,↓zP,aD,zD,aS,Nat.reduceBEq,Nat.reduceLT,reduceCtorEq,↓reduceIte,Nat.reduceMul,Nat.reduceAdd,Nat.reduceLeDiff,Nat.reduceEqDiff,Int.reduceToNat,Nat.reduceSub,Nat.reduceMod,Nat.reduceDiv,Int.reducePow,Int.reduceLE,Int.reduceNeg,Int.reduceLT,Int.reduceBEq,Int.reduceBNe,Int.reduceEq,Tryd.facts]
  intro k hk0 hk
  first | refine CallK.p (hwd) ?_ | refine CallP.i (hwd) ?_
  simp (disch := omega) only [↓aI,↓zP,aD,zD,aS,Nat.reduceBEq,Nat.reduceLT,reduceCtorEq,↓reduceIte,Nat.reduceMul,Nat.reduceAdd,Nat.reduceLeDiff,Nat.reduceEqDiff,Int.reduceToNat,Nat.reduceSub,Nat.reduceMod,Nat.reduceDiv,Int.reducePow,Int.reduceLE,Int.reduceNeg,Int.reduceLT,Int.reduceBEq,Int.reduceBNe,Int.reduceEq,Tryd.facts,hv0,hv1,hv2,hv3,hv4,hv5,hv6,hv7,hvl]
  refine br (c := ⟨Tryd.prog,145,[(2,[0,0,1,0,0,1,0,0,1,0,0,1,0,0,1,0,0,1,0,0,1,0,0,1,0,0,0,0,0,0,0,0]),(6,[0,1,0,0,1,0,0,0,0,0,1,0,0,0,0,0,0,0,0,1,0,0,1,0,0,0,0,1,0,0]),(21,[0,1,0,0,0,1,0,0,0,1,0,0,0,2,0]),(1000000,[3]),(4000021,[1,3,19,20,21]),(4000016,[1,3,19]),(4000015,[1,3,7,8,9,10,11,12,13,14,15,16]),(4000011,[1,3,7,8,9,10,12,13,14,15,16,17,18]),(4000007,[1,3,7,8,9,10,11,12,13,14,16,17,18]),(4000006,[1,3,7,8,9,10,11,12,13,14,16,17]),(4000002,[1,3,7,8,9,10,11,12,13,14,15])],[],[]⟩) Tryd.mixed (by kernel_rfl) (fun m σ H' => ∃ t : Nat,t + m = 64 ∧ σ 1 = .imm 0 vr 8 ∧ σ 3 = .ip (AV.cellsOf (kindV (.imm 0 ks 64) (.imm 0 fs 8))) 0 ∧ σ 7 = .imm 0 ws 64 ∧ σ 8 = .sc (.int .u64 ((roundsM b v t).a : Nat)) ∧ σ 9 = .sc (.int .u64 ((roundsM b v t).b : Nat)) ∧ σ 10 = .sc (.int .u64 ((roundsM b v t).c : Nat)) ∧ σ 11 = .sc (.int .u64 ((roundsM b v t).d : Nat)) ∧ σ 12 = .sc (.int .u64 ((roundsM b v t).e : Nat)) ∧ σ 13 = .sc (.int .u64 ((roundsM b v t).f : Nat)) ∧ σ 14 = .sc (.int .u64 ((roundsM b v t).g : Nat)) ∧ σ 15 = .sc (.int .u64 ((roundsM b v t).h : Nat)) ∧ σ 16 = .sc (.int .i64 t) ∧ H' = H) 64 ?_ ?_
  · refine ⟨0,by omega,?_⟩
    simp (disch := omega) only [↓aI,↓zP,aD,zD,aS,Nat.reduceBEq,Nat.reduceLT,reduceCtorEq,↓reduceIte,Nat.reduceMul,Nat.reduceAdd,Nat.reduceLeDiff,Nat.reduceEqDiff,Int.reduceToNat,Nat.reduceSub,Nat.reduceMod,Nat.reduceDiv,Int.reducePow,Int.reduceLE,Int.reduceNeg,Int.reduceLT,Int.reduceBEq,Int.reduceBNe,Int.reduceEq,Tryd.facts,aj hk,kindV]
    exact ⟨rfl,rfl,rfl,rfl,rfl,rfl,rfl,rfl⟩
  · rintro m σ H' ⟨t,ht,g1,g3,g7,g8,g9,g10,g11,g12,g13,g14,g15,g16,rfl⟩
    have hok := roundsM_ok b hv t
    by_cases hlt : t < 64
    · have hb : decide ((t : Int) < 64) = true := by simp; omega
      have hstep : roundsM b v (t + 1) = stepM (roundsM b v t) (kM t) (wM b t) := rfl
      have hk1 := hkg t hlt
      have hw1 := hwl t hlt
      have hk2 := kM_lt t
      have hw2 := wM_lt b t
      generalize roundsM b v t = s at *
      generalize hk9 : kM t = kk at *
      generalize hw9 : wM b t = ww at *
      obtain ⟨sa,sb,sc,sd,se,sf,sg,sh⟩ := s
      obtain ⟨l1,l2,l3,l4,l5,l6,l7,l8⟩ := hok
      simp only at g8 g9 g10 g11 g12 g13 g14 g15 l1 l2 l3 l4 l5 l6 l7 l8
      unfold stepM oneM twoM chM maM at hstep
      simp only at hstep
      have c1 := hs1 se l5
      have c2 := hs2 sa l1
      have t1 : turM 32 se 6 11 25 < 4294967296 := tur_lt (w := 32) l5 (by omega) (by omega) (by omega)
      have t2 : turM 32 sa 2 13 22 < 4294967296 := tur_lt (w := 32) l1 (by omega) (by omega) (by omega)
      generalize turM 32 se 6 11 25 = u1 at *
      generalize turM 32 sa 2 13 22 = u2 at *
      have d1 := bits_and64 (a := se) (b := sf) (by omega) (by omega)
      have d2 := not64 (a := se) (by omega)
      have c3 := hcut (18446744073709551615 - se) (by omega)
      rw [show (18446744073709551615 - se) % 4294967296 = 4294967295 - se by omega] at c3
      have d3 := bits_and64 (a := 4294967295 - se) (b := sg) (by omega) (by omega)
      have d4 := bits_xor64 (a := se &&& sf) (b := (4294967295 - se) &&& sg) (Nat.lt_of_le_of_lt Nat.and_le_left (by omega)) (Nat.lt_of_le_of_lt Nat.and_le_left (by omega))
      have n1 : (se &&& sf) ^^^ ((4294967295 - se) &&& sg) < 4294967296 := ch_lt l6 l7
      have n2 : (sa &&& sb) ^^^ (sa &&& sc) ^^^ (sb &&& sc) < 4294967296 := ma_lt l2 l3
      have d5 := bits_and64 (a := sa) (b := sb) (by omega) (by omega)
      have d6 := bits_and64 (a := sa) (b := sc) (by omega) (by omega)
      have d7 := bits_and64 (a := sb) (b := sc) (by omega) (by omega)
      have d8 := bits_xor64 (a := sa &&& sb) (b := sa &&& sc) (Nat.lt_of_le_of_lt Nat.and_le_left (by omega)) (Nat.lt_of_le_of_lt Nat.and_le_left (by omega))
      have d9 := bits_xor64 (a := (sa &&& sb) ^^^ (sa &&& sc)) (b := sb &&& sc) (Nat.lt_trans (xor32 (Nat.lt_of_le_of_lt Nat.and_le_left (by omega)) (Nat.lt_of_le_of_lt Nat.and_le_left (by omega))) (by decide)) (Nat.lt_of_le_of_lt Nat.and_le_left (by omega))
      generalize (se &&& sf) ^^^ ((4294967295 - se) &&& sg) = v1 at *
      generalize (sa &&& sb) ^^^ (sa &&& sc) ^^^ (sb &&& sc) = v2 at *
      have e1 : IntKind.u64.wrap ((sh : Int) + (u1 : Int)) = ((sh + u1 : Nat) : Int) := uadd64 (by omega)
      have e2 : IntKind.u64.wrap (((sh + u1 : Nat) : Int) + (v1 : Int)) = ((sh + u1 + v1 : Nat) : Int) := uadd64 (by omega)
      have e3 : IntKind.u64.wrap (((sh + u1 + v1 : Nat) : Int) + (kk : Int)) = ((sh + u1 + v1 + kk : Nat) : Int) := uadd64 (by omega)
      have e4 : IntKind.u64.wrap (((sh + u1 + v1 + kk : Nat) : Int) + (ww : Int)) = ((sh + u1 + v1 + kk + ww : Nat) : Int) := uadd64 (by omega)
      have e5 : IntKind.u64.wrap ((u2 : Int) + (v2 : Int)) = ((u2 + v2 : Nat) : Int) := uadd64 (by omega)
      generalize hone : sh + u1 + v1 + kk + ww = o1 at *
      generalize htwo : u2 + v2 = o2 at *
      have e6 : IntKind.u64.wrap ((sd : Int) + (o1 : Int)) = ((sd + o1 : Nat) : Int) := uadd64 (by omega)
      have e7 : IntKind.u64.wrap ((o1 : Int) + (o2 : Int)) = ((o1 + o2 : Nat) : Int) := uadd64 (by omega)
      have c4 := hcut (sd + o1) (by omega)
      have c5 := hcut (o1 + o2) (by omega)
      simp (disch := omega) only [↓aI,↓zP,aD,zD,aS,Nat.reduceBEq,Nat.reduceLT,reduceCtorEq,↓reduceIte,Nat.reduceMul,Nat.reduceAdd,Nat.reduceLeDiff,Nat.reduceEqDiff,Int.reduceToNat,Nat.reduceSub,Nat.reduceMod,Nat.reduceDiv,Int.reducePow,Int.reduceLE,Int.reduceNeg,Int.reduceLT,Int.reduceBEq,Int.reduceBNe,Int.reduceEq,Tryd.facts,g1,g3,g7,g8,g9,g10,g11,g12,g13,g14,g15,g16,hb,kindV]
      first | refine CallK.p (c1) ?_ | refine CallP.i (c1) ?_
      simp (disch := omega) only [↓aI,↓zP,aD,zD,aS,Nat.reduceBEq,Nat.reduceLT,reduceCtorEq,↓reduceIte,Nat.reduceMul,Nat.reduceAdd,Nat.reduceLeDiff,Nat.reduceEqDiff,Int.reduceToNat,Nat.reduceSub,Nat.reduceMod,Nat.reduceDiv,Int.reducePow,Int.reduceLE,Int.reduceNeg,Int.reduceLT,Int.reduceBEq,Int.reduceBNe,Int.reduceEq,Tryd.facts,g1,g3,g7,g8,g9,g10,g11,g12,g13,g14,g15,g16,kindV,d1,d2,d3,d4,d5,d6,d7,d8,d9,e1,e2,e3,e4,e5,e6,e7,hk1,hw1,hkl,hwn]
      first | refine CallK.p (c3) ?_ | refine CallP.i (c3) ?_
      simp (disch := omega) only [↓aI,↓zP,aD,zD,aS,Nat.reduceBEq,Nat.reduceLT,reduceCtorEq,↓reduceIte,Nat.reduceMul,Nat.reduceAdd,Nat.reduceLeDiff,Nat.reduceEqDiff,Int.reduceToNat,Nat.reduceSub,Nat.reduceMod,Nat.reduceDiv,Int.reducePow,Int.reduceLE,Int.reduceNeg,Int.reduceLT,Int.reduceBEq,Int.reduceBNe,Int.reduceEq,Tryd.facts,g1,g3,g7,g8,g9,g10,g11,g12,g13,g14,g15,g16,kindV,d1,d2,d3,d4,d5,d6,d7,d8,d9,e1,e2,e3,e4,e5,e6,e7,hk1,hw1,hkl,hwn]
      first | refine CallK.p (c2) ?_ | refine CallP.i (c2) ?_
      simp (disch := omega) only [↓aI,↓zP,aD,zD,aS,Nat.reduceBEq,Nat.reduceLT,reduceCtorEq,↓reduceIte,Nat.reduceMul,Nat.reduceAdd,Nat.reduceLeDiff,Nat.reduceEqDiff,Int.reduceToNat,Nat.reduceSub,Nat.reduceMod,Nat.reduceDiv,Int.reducePow,Int.reduceLE,Int.reduceNeg,Int.reduceLT,Int.reduceBEq,Int.reduceBNe,Int.reduceEq,Tryd.facts,g1,g3,g7,g8,g9,g10,g11,g12,g13,g14,g15,g16,kindV,d1,d2,d3,d4,d5,d6,d7,d8,d9,e1,e2,e3,e4,e5,e6,e7,hk1,hw1,hkl,hwn]
      first | refine CallK.p (c4) ?_ | refine CallP.i (c4) ?_
      simp (disch := omega) only [↓aI,↓zP,aD,zD,aS,Nat.reduceBEq,Nat.reduceLT,reduceCtorEq,↓reduceIte,Nat.reduceMul,Nat.reduceAdd,Nat.reduceLeDiff,Nat.reduceEqDiff,Int.reduceToNat,Nat.reduceSub,Nat.reduceMod,Nat.reduceDiv,Int.reducePow,Int.reduceLE,Int.reduceNeg,Int.reduceLT,Int.reduceBEq,Int.reduceBNe,Int.reduceEq,Tryd.facts,g1,g3,g7,g8,g9,g10,g11,g12,g13,g14,g15,g16,kindV,d1,d2,d3,d4,d5,d6,d7,d8,d9,e1,e2,e3,e4,e5,e6,e7,hk1,hw1,hkl,hwn]
      first | refine CallK.p (c5) ?_ | refine CallP.i (c5) ?_
      simp (disch := omega) only [↓aI,↓zP,aD,zD,aS,Nat.reduceBEq,Nat.reduceLT,reduceCtorEq,↓reduceIte,Nat.reduceMul,Nat.reduceAdd,Nat.reduceLeDiff,Nat.reduceEqDiff,Int.reduceToNat,Nat.reduceSub,Nat.reduceMod,Nat.reduceDiv,Int.reducePow,Int.reduceLE,Int.reduceNeg,Int.reduceLT,Int.reduceBEq,Int.reduceBNe,Int.reduceEq,Tryd.facts,g1,g3,g7,g8,g9,g10,g11,g12,g13,g14,g15,g16,kindV,d1,d2,d3,d4,d5,d6,d7,d8,d9,e1,e2,e3,e4,e5,e6,e7,hk1,hw1,hkl,hwn]
      exact ⟨m - 1,by omega,t + 1,by omega,by rw [hstep],by rw [hstep],by rw [hstep],by rw [hstep],by rw [hstep],by rw [hstep],by rw [hstep],by rw [hstep],rfl⟩
    · obtain rfl : t = 64 := by omega
      have hb : decide (((64 : Nat) : Int) < 64) = false := by decide
      simp (disch := omega) only [↓aI,↓zP,aD,zD,aS,Nat.reduceBEq,Nat.reduceLT,reduceCtorEq,↓reduceIte,Nat.reduceMul,Nat.reduceAdd,Nat.reduceLeDiff,Nat.reduceEqDiff,Int.reduceToNat,Nat.reduceSub,Nat.reduceMod,Nat.reduceDiv,Int.reducePow,Int.reduceLE,Int.reduceNeg,Int.reduceLT,Int.reduceBEq,Int.reduceBNe,Int.reduceEq,Tryd.facts,g1,g3,g7,g8,g9,g10,g11,g12,g13,g14,g15,g16,hb,kindV]
      refine jn 20 (by simp (disch := omega) only [↓aI,↓zP,aD,zD,aS,Nat.reduceBEq,Nat.reduceLT,reduceCtorEq,↓reduceIte,Nat.reduceMul,Nat.reduceAdd,Nat.reduceLeDiff,Nat.reduceEqDiff,Int.reduceToNat,Nat.reduceSub,Nat.reduceMod,Nat.reduceDiv,Int.reducePow,Int.reduceLE,Int.reduceNeg,Int.reduceLT,Int.reduceBEq,Int.reduceBNe,Int.reduceEq,Tryd.facts]) fun kt hkt0 hkt => ?_
      have hbk : blockM v b = addS v (roundsM b v 64) := rfl
      rw [hbk]
      have hlv := stL_lt hv
      have hls := stL_lt hok
      have hgs : ∀ i,i < 8 → (digA (stL (roundsM b v 64)))[i]? = some (.sc (.int .u64 ((stL (roundsM b v 64)).getD i 0 : Nat))) := fun i hi => digA_at hi
      have hgv : ∀ i,i < 8 → vr[i]? = some (.sc (.int .u64 ((stL v).getD i 0 : Nat))) := fun i hi => by rw [← hvr]; exact digA_at hi
      have hsl : (digA (stL (roundsM b v 64))).length = 8 := rfl
      have hadd := fun i hi => stL_add v (roundsM b v 64) (i := i) hi
      have htk := fun i hi => stL_take (addS v (roundsM b v 64)) (i := i) hi
      have hta : ∀ i,i ≤ 8 → (digA ((stL (addS v (roundsM b v 64))).take i)).length = i := fun i hi => by rw [digA_length,List.length_take]; exact Nat.min_eq_left hi
      have hfull : (stL (addS v (roundsM b v 64))).take 8 = stL (addS v (roundsM b v 64)) := rfl
      have hini : ∀ l : List AV,l = digA (stL (roundsM b v 64)) → AV.imm 0 l 8 = AV.imm 0 (digA (stL (roundsM b v 64))) 8 := fun l hl => by rw [hl]
      refine br (c := ⟨Tryd.prog,145,[(2,[0,0,1,0,0,1,0,0,1,0,0,1,0,0,1,0,0,1,0,0,1,0,0,1,0,0,0,0,0,0,0,0]),(6,[0,1,0,0,1,0,0,0,0,0,1,0,0,0,0,0,0,0,0,1,0,0,1,0,0,0,0,1,0,0]),(21,[0,1,0,0,0,1,0,0,0,1,0,0,0,2,0]),(1000000,[3]),(4000021,[1,3,19,20,21]),(4000016,[1,3,19]),(4000015,[1,3,7,8,9,10,11,12,13,14,15,16]),(4000011,[1,3,7,8,9,10,12,13,14,15,16,17,18]),(4000007,[1,3,7,8,9,10,11,12,13,14,16,17,18]),(4000006,[1,3,7,8,9,10,11,12,13,14,16,17]),(4000002,[1,3,7,8,9,10,11,12,13,14,15])],[],[]⟩) Tryd.mixed (by kernel_rfl) (fun m2 σ2 H2 => ∃ i : Nat,i + m2 = 8 ∧ σ2 1 = .imm 0 vr 8 ∧ σ2 3 = .ip (AV.cellsOf (kindV (.imm 0 ks 64) (.imm 0 fs 8))) 0 ∧ σ2 19 = .imm 0 (digA (stL (roundsM b v 64))) 8 ∧ σ2 21 = .sc (.int .i64 i) ∧ ∃ k o,k ≠ 0 ∧ H' k = none ∧ H2 = H'.set k o ∧ cy 47 1 o i ∧ σ2 20 = .imm k (digA ((stL (addS v (roundsM b v 64))).take i)) i) 8 ?_ ?_
      · refine ⟨0,by omega,?_⟩
        simp (disch := omega) only [↓aI,↓zP,aD,zD,aS,Nat.reduceBEq,Nat.reduceLT,reduceCtorEq,↓reduceIte,Nat.reduceMul,Nat.reduceAdd,Nat.reduceLeDiff,Nat.reduceEqDiff,Int.reduceToNat,Nat.reduceSub,Nat.reduceMod,Nat.reduceDiv,Int.reducePow,Int.reduceLE,Int.reduceNeg,Int.reduceLT,Int.reduceBEq,Int.reduceBNe,Int.reduceEq,Tryd.facts,g1,g3,g7,kindV]
        exact ⟨rfl,kt,_,hkt0,hkt,rfl,.inr ⟨rfl,rfl⟩,rfl⟩
      · rintro m2 σ2 H2 ⟨i,hi,q1,q3,q19,q21,k,o,hk0,hk,rfl,ho,q20⟩
        by_cases hil : i < 8
        · have hb2 : decide ((i : Int) < 8) = true := by simp; omega
          have a1 := hgs i hil
          have a2 := hgv i hil
          have b1 := hls i
          have b2 := hlv i
          have hd := hadd i hil
          have ht1 := htk i hil
          have ht2 := hta i (by omega)
          rw [hd] at ht1
          generalize hnx : (stL (addS v (roundsM b v 64))).take (i + 1) = nx at *
          generalize (stL (addS v (roundsM b v 64))).take i = ac at *
          generalize (stL (roundsM b v 64)).getD i 0 = x at *
          generalize (stL v).getD i 0 = y at *
          generalize digA (stL (roundsM b v 64)) = sr at *
          have e1 : IntKind.u64.wrap ((y : Int) + (x : Int)) = ((y + x : Nat) : Int) := uadd64 (by omega)
          have c1 := hcut (y + x) (by omega)
          simp (disch := omega) only [↓aI,↓zP,aD,zD,aS,Nat.reduceBEq,Nat.reduceLT,reduceCtorEq,↓reduceIte,Nat.reduceMul,Nat.reduceAdd,Nat.reduceLeDiff,Nat.reduceEqDiff,Int.reduceToNat,Nat.reduceSub,Nat.reduceMod,Nat.reduceDiv,Int.reducePow,Int.reduceLE,Int.reduceNeg,Int.reduceLT,Int.reduceBEq,Int.reduceBNe,Int.reduceEq,Tryd.facts,q1,q3,q19,q20,q21,hb2,kindV,a1,a2,hsl,hvl,e1]
          first | refine CallK.p (c1) ?_ | refine CallP.i (c1) ?_
          simp (disch := omega) only [↓aI,↓zP,aD,zD,aS,Nat.reduceBEq,Nat.reduceLT,reduceCtorEq,↓reduceIte,Nat.reduceMul,Nat.reduceAdd,Nat.reduceLeDiff,Nat.reduceEqDiff,Int.reduceToNat,Nat.reduceSub,Nat.reduceMod,Nat.reduceDiv,Int.reducePow,Int.reduceLE,Int.reduceNeg,Int.reduceLT,Int.reduceBEq,Int.reduceBNe,Int.reduceEq,Tryd.facts,q1,q3,q19,q20,q21,hk0,ho,ht2]
          intro k' o' hk0' hk' ho'
          exact ⟨m2 - 1,by omega,i + 1,by omega,rfl,rfl,k',o',hk0',am hk',rfl,by simpa [ht2] using ho',by rw [hnx,ht1,← digA_snoc]⟩
        · obtain rfl : i = 8 := by omega
          have hb2 : decide (((8 : Nat) : Int) < 8) = false := by decide
          rw [hfull] at q20
          simp (disch := omega) only [↓aI,↓zP,aD,zD,aS,Nat.reduceBEq,Nat.reduceLT,reduceCtorEq,↓reduceIte,Nat.reduceMul,Nat.reduceAdd,Nat.reduceLeDiff,Nat.reduceEqDiff,Int.reduceToNat,Nat.reduceSub,Nat.reduceMod,Nat.reduceDiv,Int.reducePow,Int.reduceLE,Int.reduceNeg,Int.reduceLT,Int.reduceBEq,Int.reduceBNe,Int.reduceEq,Tryd.facts,q1,q3,q19,q20,q21,hb2,kindV]
          first | exact Sub.set_new hk | trace_state
end Go.Proofs.YtejncnmdjkhiaaaDoor
