/-
  The program's block.
  Conditions: none. Lemmas only.
-/
import Derived.Test.YtejncnmdjkhiaaaDoorShaG5
set_option linter.all false
set_option linter.unusedSimpArgs false
set_option linter.unusedVariables false
set_option maxRecDepth 20000
set_option maxHeartbeats 4000000
namespace Go.Proofs.YtejncnmdjkhiaaaDoor
open Go Go.Abs Go.Proofs Go.Sha
theorem kill_mid {H : AH} {a b : Nat} {x y : AObj} (h : ¬ a = b) (hn : H a = none) : ((H.set a x).set b y).kill a = H.set b y := by
  funext z
  simp only [AH.set,AH.kill]
  by_cases e1 : z = a
  · subst e1
    simp [h,hn]
  · simp [e1]
def smallC : List AV := [.sc (.int .i64 32),.sc (.int .i64 64),.sc (.int .i64 2),.sc (.int .i64 13),.sc (.int .i64 22),.sc (.int .i64 6),.sc (.int .i64 11),.sc (.int .i64 25),.sc (.int .i64 7),.sc (.int .i64 18),.sc (.int .i64 3),.sc (.int .i64 17),.sc (.int .i64 19),.sc (.int .i64 10)]
theorem block_pure (v : St) (hv : OkS v) (b : List UInt8) (hbl : b.length = 64) : APure Tryd.prog 42 [.agg (w32A (stL v)),.imm 0 (bw b) 64,.agg smallC,.fn (.func 43) [] []] (.agg (w32A (stL (blockM v b)))) := by
  have hvl : (w32A (stL v)).length = 8 := rfl
  generalize hvr : w32A (stL v) = vr at *
  refine az (c := ⟨Tryd.prog,174,[(6,[0,0,0,0,0,0,0,1,0,0,0,0,1,0,0,0,2]),(14,[0,0,0,0,0,1,0,1,0,1,0,0,0,0,0,1,0,0,0,0,0,1,0,1,0,1,0,0,0,0]),(16,[0,1,0,1,0,0]),(17,[0,1,0,0,1,0,1,0,0,0,0,1,0,0,0,0,1,0,0,0,0,0,0,0,0,0,0]),(18,[0,0,1,0,1,0,0,0,1,0,0,0,1,0,0,0,1,0,1,0,0,0,0]),(24,[0,0,1,0,0,1,0,0,2]),(1000000,[6]),(4000024,[4,8,12,161]),(4000019,[3,4,6,8,9,12,47,48]),(4000018,[3,4,6,8,9,12,15,16,17,18,47,48]),(4000017,[3,4,6,8,9,12,15,16,17,47,48]),(4000016,[3,4,6,8,9,12,13,14,15,16,47,48]),(4000015,[3,4,6,8,9,12,13,14,47,48]),(4000014,[3,4,6,8,9,12,13,14,47,48]),(4000012,[3,4,6,8,9,12,13,14,47,48]),(4000006,[1,3,4,6,8,9,10,24,25])],[],[]⟩) (rs := [ResultVar.cell 8 65]) Tryd.mixed Tryd.func42 rfl rfl rfl (Nat.le_of_ble_eq_true rfl) (by kernel_rfl) fun H => ?_
  simp (disch := omega) only [↓aI,↓zP,aD,zD,aS,Nat.reduceBEq,Nat.reduceLT,reduceCtorEq,↓reduceIte,Nat.reduceMul,Nat.reduceAdd,Nat.reduceLeDiff,Nat.reduceEqDiff,Int.reduceToNat,Nat.reduceSub,Nat.reduceMod,Nat.reduceDiv,Int.reducePow,Int.reduceLE,Int.reduceNeg,Int.reduceLT,Int.reduceBEq,Int.reduceBNe,Int.reduceEq,Tryd.facts,smallC,hvl]
  intro k hk0 hk k1 hk10 hk1 k2 hk20 hk2
  have n1 := bK hk1
  have n2 := bK hk2
  have hk1' := am hk1
  have hk2' := am hk2
  have n3 := bK hk2'
  have hk2'' := am hk2'
  simp (disch := omega) only [↓aI,↓zP,aD,zD,aS,Nat.reduceBEq,Nat.reduceLT,reduceCtorEq,↓reduceIte,Nat.reduceMul,Nat.reduceAdd,Nat.reduceLeDiff,Nat.reduceEqDiff,Int.reduceToNat,Nat.reduceSub,Nat.reduceMod,Nat.reduceDiv,Int.reducePow,Int.reduceLE,Int.reduceNeg,Int.reduceLT,Int.reduceBEq,Int.reduceBNe,Int.reduceEq,Tryd.facts,aP n2,kill_mid n2 hk1,hvl]
  intro k3 hk30 hk3
  have n4 := bK hk3
  have hk3' := am hk3
  have n5 := bK hk3'
  have hk3'' := am hk3'
  have hel := gz b
  obtain ⟨fk,hfk⟩ : ∃ fk : AV,fk = .fn (.func 43) [] [] := ⟨_,rfl⟩
  obtain ⟨z8,hz8⟩ : ∃ z8 : AObj,z8 = .cells [.sc (.int .u32 0),.sc (.int .u32 0),.sc (.int .u32 0),.sc (.int .u32 0),.sc (.int .u32 0),.sc (.int .u32 0),.sc (.int .u32 0),.sc (.int .u32 0)] 65 8 := ⟨_,rfl⟩
  refine br (c := ⟨Tryd.prog,174,[(6,[0,0,0,0,0,0,0,1,0,0,0,0,1,0,0,0,2]),(14,[0,0,0,0,0,1,0,1,0,1,0,0,0,0,0,1,0,0,0,0,0,1,0,1,0,1,0,0,0,0]),(16,[0,1,0,1,0,0]),(17,[0,1,0,0,1,0,1,0,0,0,0,1,0,0,0,0,1,0,0,0,0,0,0,0,0,0,0]),(18,[0,0,1,0,1,0,0,0,1,0,0,0,1,0,0,0,1,0,1,0,0,0,0]),(24,[0,0,1,0,0,1,0,0,2]),(1000000,[6]),(4000024,[4,8,12,161]),(4000019,[3,4,6,8,9,12,47,48]),(4000018,[3,4,6,8,9,12,15,16,17,18,47,48]),(4000017,[3,4,6,8,9,12,15,16,17,47,48]),(4000016,[3,4,6,8,9,12,13,14,15,16,47,48]),(4000015,[3,4,6,8,9,12,13,14,47,48]),(4000014,[3,4,6,8,9,12,13,14,47,48]),(4000012,[3,4,6,8,9,12,13,14,47,48]),(4000006,[1,3,4,6,8,9,10,24,25])],[],[]⟩) Tryd.mixed (by kernel_rfl) (fun m σ H' => ∃ n : Nat,n + m = 64 ∧ σ 1 = .imm 0 (bw b) 64 ∧ σ 3 = fk ∧ σ 4 = .ptr k 0 ∧ σ 6 = .ip smallC 0 ∧ σ 8 = .ptr k2 0 ∧ σ 9 = .ptr k3 0 ∧ σ 10 = .sc (.int .i64 4) ∧ σ 24 = .sc (.int .i64 64) ∧ σ 25 = .sc (.int .i64 n) ∧ H' = F3 H k k2 k3 (.cells vr 65 8) z8 (.cells (w32A (wiM b n)) 81 16)) 64 ?_ ?_
  · refine ⟨0,by omega,?_⟩
    simp (disch := omega) only [↓aI,↓zP,aD,zD,aS,Nat.reduceBEq,Nat.reduceLT,reduceCtorEq,↓reduceIte,Nat.reduceMul,Nat.reduceAdd,Nat.reduceLeDiff,Nat.reduceEqDiff,Int.reduceToNat,Nat.reduceSub,Nat.reduceMod,Nat.reduceDiv,Int.reducePow,Int.reduceLE,Int.reduceNeg,Int.reduceLT,Int.reduceBEq,Int.reduceBNe,Int.reduceEq,Tryd.facts,hvl,smallC,hfk,hz8]
    refine ⟨rfl,?_⟩
    unfold F3
    rw [wiM_zero]
    rfl
  · rintro m σ H' ⟨n,hn,g1,g3,g4,g6,g8,g9,g10,g24,g25,rfl⟩
    have wl := wiM_len b n
    have wal := w32A_length (wiM b n)
    have hgw := fun x y z => F3_getW (H := H) (a := k) (r := k2) (w := k3) x y z
    have hga := fun x y z => F3_getA (H := H) (a := k) (r := k2) (w := k3) n3 n5 x y z
    have hsw := fun x y z u => F3_setW (H := H) (a := k) (r := k2) (w := k3) x y z u
    by_cases hlt : n < 64
    · have hb : decide ((n : Int) < 64) = true := by simp; omega
      have hat := encB_get (l := b) (i := n) (by omega)
      have q1 : IntKind.i64.wrap ((n : Int).tdiv 4) = ((n / 4 : Nat) : Int) := (congrArg _ (show (n : Int).tdiv 4 = ((n / 4 : Nat) : Int) from rfl)).trans (iw (by omega))
      have hw := w32A_at (l := wiM b n) (i := n / 4) (by omega)
      have hgt := wiM_get b n hlt
      have hst := wiM_set b n hlt
      have hput := w32A_put (l := wiM b n) (i := n / 4) (x := wpM b (n / 4) (n % 4) * 256 + (b.getD n 0).toNat) (by omega)
      rw [hgt] at hw
      rw [hst] at hput
      have hpl := wpM_lt b (n / 4) (n % 4)
      have hpp : 256 ^ (n % 4) ≤ 16777216 := Nat.le_trans (Nat.pow_le_pow_right (by decide) (show n % 4 ≤ 3 by omega)) (by decide)
      have hx := (b.getD n 0).toNat_lt
      generalize (b.getD n 0).toNat = x at *
      generalize wpM b (n / 4) (n % 4) = z at *
      have e1 : IntKind.u32.wrap ((z : Int) * 2 ^ min 8 32) = ((z * 256 : Nat) : Int) := by
        rw [show min 8 32 = 8 from rfl,shl32]
        congr 1
        omega
      have e2 : IntKind.u32.wrap (x : Int) = (x : Int) := by rw [wcast32]; congr 1; omega
      have e3 : bits .or .u32 ((z * 256 : Nat) : Int) (x : Int) = ((z * 256 + x : Nat) : Int) := by rw [bits_or32 (by omega) (by omega),or_byte (by omega)]
      simp (disch := omega) only [↓aI,↓zP,aD,zD,aS,Nat.reduceBEq,Nat.reduceLT,reduceCtorEq,↓reduceIte,Nat.reduceMul,Nat.reduceAdd,Nat.reduceLeDiff,Nat.reduceEqDiff,Int.reduceToNat,Nat.reduceSub,Nat.reduceMod,Nat.reduceDiv,Int.reducePow,Int.reduceLE,Int.reduceNeg,Int.reduceLT,Int.reduceBEq,Int.reduceBNe,Int.reduceEq,Tryd.facts,g1,g3,g4,g6,g8,g9,g10,g24,g25,hb,q1,hgw,hw,wal,wl,hat,hel,e1,e2,e3,bits_u32,hput,hsw]
      exact ⟨m - 1,by omega,n + 1,by omega,rfl,rfl⟩
    · obtain rfl : n = 64 := by omega
      have hb : decide (((64 : Nat) : Int) < 64) = false := by decide
      simp (disch := omega) only [↓aI,↓zP,aD,zD,aS,Nat.reduceBEq,Nat.reduceLT,reduceCtorEq,↓reduceIte,Nat.reduceMul,Nat.reduceAdd,Nat.reduceLeDiff,Nat.reduceEqDiff,Int.reduceToNat,Nat.reduceSub,Nat.reduceMod,Nat.reduceDiv,Int.reducePow,Int.reduceLE,Int.reduceNeg,Int.reduceLT,Int.reduceBEq,Int.reduceBNe,Int.reduceEq,Tryd.facts,g1,g3,g4,g6,g8,g9,g10,g24,g25,hb,hga,smallC,hvl]
      intro k4 hk40 hk4
      have hd := D4.of hk hk2'' hk3'' n3 n5 n4 hk4
      have hvt : vr.take 8 = vr := List.take_of_length_le (by omega)
      have hs3 := fun x y z u => F3_setS (H := H) (a := k) (r := k2) (w := k3) (s := k4) x y z u
      have gA := hd.getA
      have gR := hd.getR
      have gW := hd.getW
      have gS := fun x y z u => D4.getS (H := H) (a := k) (r := k2) (w := k3) (s := k4) x y z u
      have sA := hd.setA
      have sR := hd.setR
      have sW := hd.setW
      have sS := fun x y z u y' => D4.setS (H := H) (a := k) (r := k2) (w := k3) (s := k4) x y z u y'
      simp (disch := omega) only [↓aI,↓zP,aD,zD,aS,Nat.reduceBEq,Nat.reduceLT,reduceCtorEq,↓reduceIte,Nat.reduceMul,Nat.reduceAdd,Nat.reduceLeDiff,Nat.reduceEqDiff,Int.reduceToNat,Nat.reduceSub,Nat.reduceMod,Nat.reduceDiv,Int.reducePow,Int.reduceLE,Int.reduceNeg,Int.reduceLT,Int.reduceBEq,Int.reduceBNe,Int.reduceEq,Tryd.facts,g1,g3,g4,g6,g8,g9,g10,g24,g25,hb,hga,smallC,hvl,hvt,hs3,gS,sS,ah]
      have hwf := wiM_full b
      rw [hwf]
      refine br (c := ⟨Tryd.prog,174,[(6,[0,0,0,0,0,0,0,1,0,0,0,0,1,0,0,0,2]),(14,[0,0,0,0,0,1,0,1,0,1,0,0,0,0,0,1,0,0,0,0,0,1,0,1,0,1,0,0,0,0]),(16,[0,1,0,1,0,0]),(17,[0,1,0,0,1,0,1,0,0,0,0,1,0,0,0,0,1,0,0,0,0,0,0,0,0,0,0]),(18,[0,0,1,0,1,0,0,0,1,0,0,0,1,0,0,0,1,0,1,0,0,0,0]),(24,[0,0,1,0,0,1,0,0,2]),(1000000,[6]),(4000024,[4,8,12,161]),(4000019,[3,4,6,8,9,12,47,48]),(4000018,[3,4,6,8,9,12,15,16,17,18,47,48]),(4000017,[3,4,6,8,9,12,15,16,17,47,48]),(4000016,[3,4,6,8,9,12,13,14,15,16,47,48]),(4000015,[3,4,6,8,9,12,13,14,47,48]),(4000014,[3,4,6,8,9,12,13,14,47,48]),(4000012,[3,4,6,8,9,12,13,14,47,48]),(4000006,[1,3,4,6,8,9,10,24,25])],[],[]⟩) Tryd.mixed (by kernel_rfl) (fun m2 σ2 H2 => ∃ (t T : Nat),t + m2 = 64 ∧ T = max t 16 ∧ σ2 3 = fk ∧ σ2 4 = .ptr k 0 ∧ σ2 6 = .ip smallC 0 ∧ σ2 8 = .ptr k2 0 ∧ σ2 9 = .ptr k3 0 ∧ σ2 12 = .ptr k4 0 ∧ σ2 47 = .sc (.int .i64 64) ∧ σ2 48 = .sc (.int .i64 t) ∧ H2 = F4 H k k2 k3 k4 (.cells vr 65 8) z8 (.cells (w32A (rgM b T)) 81 16) (.cells (w32A (stL (roundsM b v t))) 65 8)) 64 ?_ ?_
      · refine ⟨0,16,by omega,by omega,?_⟩
        simp (disch := omega) only [↓aI,↓zP,aD,zD,aS,Nat.reduceBEq,Nat.reduceLT,reduceCtorEq,↓reduceIte,Nat.reduceMul,Nat.reduceAdd,Nat.reduceLeDiff,Nat.reduceEqDiff,Int.reduceToNat,Nat.reduceSub,Nat.reduceMod,Nat.reduceDiv,Int.reducePow,Int.reduceLE,Int.reduceNeg,Int.reduceLT,Int.reduceBEq,Int.reduceBNe,Int.reduceEq,Tryd.facts,g1,g3,g4,g6,g8,g9,g10,g24,g25,smallC]
        rw [show w32A (stL (roundsM b v 0)) = vr from hvr]
      · rintro m2 σ2 H2 ⟨t,T,ht,hT,g3,g4,g6,g8,g9,g12,g47,g48,rfl⟩
        have hok := roundsM_ok b hv t
        by_cases hlt : t < 64
        · have hstep : roundsM b v (t + 1) = stepM (roundsM b v t) (kM t) (wM b t) := rfl
          have hkk := kM_lt t
          have hww := wM_lt b t
          have c3 := key256_pure t hlt
          have hb2 : decide ((t : Int) < 64) = true := by simp; omega
          generalize roundsM b v t = S at *
          obtain ⟨sa,sb,sc,sd,se,sf,sg,sh⟩ := S
          obtain ⟨l1,l2,l3,l4,l5,l6,l7,l8⟩ := hok
          simp only at l1 l2 l3 l4 l5 l6 l7 l8
          have hs0 : (w32A (stL ⟨sa,sb,sc,sd,se,sf,sg,sh⟩))[0]? = some (.sc (.int .u32 sa)) := rfl
          have hs1 : (w32A (stL ⟨sa,sb,sc,sd,se,sf,sg,sh⟩))[1]? = some (.sc (.int .u32 sb)) := rfl
          have hs2 : (w32A (stL ⟨sa,sb,sc,sd,se,sf,sg,sh⟩))[2]? = some (.sc (.int .u32 sc)) := rfl
          have hs3 : (w32A (stL ⟨sa,sb,sc,sd,se,sf,sg,sh⟩))[3]? = some (.sc (.int .u32 sd)) := rfl
          have hs4 : (w32A (stL ⟨sa,sb,sc,sd,se,sf,sg,sh⟩))[4]? = some (.sc (.int .u32 se)) := rfl
          have hs5 : (w32A (stL ⟨sa,sb,sc,sd,se,sf,sg,sh⟩))[5]? = some (.sc (.int .u32 sf)) := rfl
          have hs6 : (w32A (stL ⟨sa,sb,sc,sd,se,sf,sg,sh⟩))[6]? = some (.sc (.int .u32 sg)) := rfl
          have hs7 : (w32A (stL ⟨sa,sb,sc,sd,se,sf,sg,sh⟩))[7]? = some (.sc (.int .u32 sh)) := rfl
          have hsl : (w32A (stL ⟨sa,sb,sc,sd,se,sf,sg,sh⟩)).length = 8 := rfl
          have hsd : (w32A (stL ⟨sa,sb,sc,sd,se,sf,sg,sh⟩)).drop 8 = [] := rfl
          generalize w32A (stL ⟨sa,sb,sc,sd,se,sf,sg,sh⟩) = sr at *
          unfold stepM oneM twoM chM maM at hstep
          simp only at hstep
          have c1 := turned_pure se 6 11 25 l5 (by omega) (by omega) (by omega)
          have c2 := turned_pure sa 2 13 22 l1 (by omega) (by omega) (by omega)
          unfold by3 at c1 c2
          generalize turM 32 se 6 11 25 = u1 at *
          generalize turM 32 sa 2 13 22 = u2 at *
          have d1 := bits_and32 l5 l6
          have d2 := not32 l5
          have d3 := bits_and32 (a := 4294967295 - se) (b := sg) (by omega) l7
          have m1 : se &&& sf < 4294967296 := Nat.lt_of_le_of_lt Nat.and_le_left l5
          have m2' : (4294967295 - se) &&& sg < 4294967296 := Nat.lt_of_le_of_lt Nat.and_le_left (by omega)
          have d4 := bits_xor32 m1 m2'
          have d5 := bits_and32 l1 l2
          have d6 := bits_and32 l1 l3
          have d7 := bits_and32 l2 l3
          have m3 : sa &&& sb < 4294967296 := Nat.lt_of_le_of_lt Nat.and_le_left l1
          have m4 : sa &&& sc < 4294967296 := Nat.lt_of_le_of_lt Nat.and_le_left l1
          have m5 : sb &&& sc < 4294967296 := Nat.lt_of_le_of_lt Nat.and_le_left l2
          have d8 := bits_xor32 m3 m4
          have d9 := bits_xor32 (xor32 m3 m4) m5
          generalize (se &&& sf) ^^^ ((4294967295 - se) &&& sg) = v1 at *
          generalize (sa &&& sb) ^^^ (sa &&& sc) ^^^ (sb &&& sc) = v2 at *
          generalize kM t = kk at *
          have x1 : ∀ ww,((((((sh + u1) % 4294967296 + v1) % 4294967296 + kk) % 4294967296 + ww) % 4294967296 + (u2 + v2) % 4294967296) % 4294967296) = (sh + u1 + v1 + kk + ww + (u2 + v2)) % 4294967296 := fun ww => by omega
          have x2 : ∀ ww,((sd + ((((sh + u1) % 4294967296 + v1) % 4294967296 + kk) % 4294967296 + ww) % 4294967296) % 4294967296) = (sd + (sh + u1 + v1 + kk + ww)) % 4294967296 := fun ww => by omega
          by_cases h16 : t < 16
          · obtain rfl : T = 16 := by omega
            have hb3 : decide ((15 : Int) < (t : Int)) = false := by simp; omega
            have a0 := w32A_at (l := rgM b 16) (i := t % 16) (by rw [rgM_len]; omega)
            rw [rgM_get b (k := t) (by omega) (by omega) (by omega) (by omega) rfl] at a0
            have arl : (w32A (rgM b 16)).length = 16 := by rw [w32A_length,rgM_len]
            generalize wM b t = ww at *
            simp (disch := omega) only [↓aI,↓zP,aD,zD,aS,Nat.reduceBEq,Nat.reduceLT,reduceCtorEq,↓reduceIte,Nat.reduceMul,Nat.reduceAdd,Nat.reduceLeDiff,Nat.reduceEqDiff,Int.reduceToNat,Nat.reduceSub,Nat.reduceMod,Nat.reduceDiv,Int.reducePow,Int.reduceLE,Int.reduceNeg,Int.reduceLT,Int.reduceBEq,Int.reduceBNe,Int.reduceEq,Tryd.facts,g3,g4,g6,g8,g9,g12,g47,g48,gA,gR,gW,gS,sA,sR,sW,sS,hs0,hs1,hs2,hs3,hs4,hs5,hs6,hs7,hsl,hsd,smallC,d1,d2,d3,d4,d5,d6,d7,d8,d9,wadd32,ah,hb2,hb3,a0,arl,jd]
            first | refine CallK.p (c1) ?_ | refine CallP.i (c1) ?_
            simp (disch := omega) only [↓aI,↓zP,aD,zD,aS,Nat.reduceBEq,Nat.reduceLT,reduceCtorEq,↓reduceIte,Nat.reduceMul,Nat.reduceAdd,Nat.reduceLeDiff,Nat.reduceEqDiff,Int.reduceToNat,Nat.reduceSub,Nat.reduceMod,Nat.reduceDiv,Int.reducePow,Int.reduceLE,Int.reduceNeg,Int.reduceLT,Int.reduceBEq,Int.reduceBNe,Int.reduceEq,Tryd.facts,g3,g4,g6,g8,g9,g12,g47,g48,gA,gR,gW,gS,sA,sR,sW,sS,hs0,hs1,hs2,hs3,hs4,hs5,hs6,hs7,hsl,hsd,smallC,d1,d2,d3,d4,d5,d6,d7,d8,d9,wadd32,ah,hfk]
            first | refine CallK.p (c3) ?_ | refine CallP.i (c3) ?_
            simp (disch := omega) only [↓aI,↓zP,aD,zD,aS,Nat.reduceBEq,Nat.reduceLT,reduceCtorEq,↓reduceIte,Nat.reduceMul,Nat.reduceAdd,Nat.reduceLeDiff,Nat.reduceEqDiff,Int.reduceToNat,Nat.reduceSub,Nat.reduceMod,Nat.reduceDiv,Int.reducePow,Int.reduceLE,Int.reduceNeg,Int.reduceLT,Int.reduceBEq,Int.reduceBNe,Int.reduceEq,Tryd.facts,g3,g4,g6,g8,g9,g12,g47,g48,gA,gR,gW,gS,sA,sR,sW,sS,hs0,hs1,hs2,hs3,hs4,hs5,hs6,hs7,hsl,hsd,smallC,d1,d2,d3,d4,d5,d6,d7,d8,d9,wadd32,ah]
            first | refine CallK.p (c2) ?_ | refine CallP.i (c2) ?_
            simp (disch := omega) only [↓aI,↓zP,aD,zD,aS,Nat.reduceBEq,Nat.reduceLT,reduceCtorEq,↓reduceIte,Nat.reduceMul,Nat.reduceAdd,Nat.reduceLeDiff,Nat.reduceEqDiff,Int.reduceToNat,Nat.reduceSub,Nat.reduceMod,Nat.reduceDiv,Int.reducePow,Int.reduceLE,Int.reduceNeg,Int.reduceLT,Int.reduceBEq,Int.reduceBNe,Int.reduceEq,Tryd.facts,g3,g4,g6,g8,g9,g12,g47,g48,gA,gR,gW,gS,sA,sR,sW,sS,hs0,hs1,hs2,hs3,hs4,hs5,hs6,hs7,hsl,hsd,smallC,d1,d2,d3,d4,d5,d6,d7,d8,d9,wadd32,ah]
            exact ⟨m2 - 1,by omega,t + 1,16,by omega,by omega,rfl,by rw [hstep,x1,x2]; rfl⟩
          · obtain rfl : T = t := by omega
            have hb3 : decide ((15 : Int) < (T : Int)) = true := by simp; omega
            have a0 := w32A_at (l := rgM b T) (i := T % 16) (by rw [rgM_len]; omega)
            rw [rgM_get b (k := T - 16) (by omega) (by omega) (by omega) (by omega) (by omega)] at a0
            have a1 := w32A_at (l := rgM b T) (i := (T + 1) % 16) (by rw [rgM_len]; omega)
            rw [rgM_get b (k := T - 15) (by omega) (by omega) (by omega) (by omega) (by omega)] at a1
            have a2 := w32A_at (l := rgM b T) (i := (T + 9) % 16) (by rw [rgM_len]; omega)
            rw [rgM_get b (k := T - 7) (by omega) (by omega) (by omega) (by omega) (by omega)] at a2
            have a3 := w32A_at (l := rgM b T) (i := (T + 14) % 16) (by rw [rgM_len]; omega)
            rw [rgM_get b (k := T - 2) (by omega) (by omega) (by omega) (by omega) (by omega)] at a3
            have arl : (w32A (rgM b T)).length = 16 := by rw [w32A_length,rgM_len]
            have wn := wM_next b (t := T) (by omega)
            have hrs := rgM_set b (t := T) (by omega)
            have hput := w32A_put (l := rgM b T) (i := T % 16) (x := wM b T) (by rw [rgM_len]; omega)
            rw [hrs,ah] at hput
            simp only [List.singleton_append,List.length_cons,List.length_nil,Nat.zero_add] at hput
            have c5 := shifted_pure (wM b (T - 15)) 7 18 3 (wM_lt b _) (by omega) (by omega) (by omega)
            have c6 := shifted_pure (wM b (T - 2)) 17 19 10 (wM_lt b _) (by omega) (by omega) (by omega)
            unfold by3 at c5 c6
            unfold sumM at wn
            generalize shfM 32 (wM b (T - 15)) 7 18 3 = y5 at *
            generalize shfM 32 (wM b (T - 2)) 17 19 10 = y6 at *
            generalize wM b (T - 15) = w15 at *
            generalize wM b (T - 2) = w2 at *
            generalize wM b (T - 7) = w7 at *
            generalize wM b (T - 16) = w16 at *
            generalize wM b T = ww at *
            have xeq : (w16 + ((y5 + w7) % 4294967296 + y6) % 4294967296) % 4294967296 = ww := by omega
            have i9 : IntKind.i64.wrap ((T : Int) + 9) = ((T + 9 : Nat) : Int) := by rw [iw (by omega)]; rfl
            have i14 : IntKind.i64.wrap ((T : Int) + 14) = ((T + 14 : Nat) : Int) := by rw [iw (by omega)]; rfl
            simp (disch := omega) only [↓aI,↓zP,aD,zD,aS,Nat.reduceBEq,Nat.reduceLT,reduceCtorEq,↓reduceIte,Nat.reduceMul,Nat.reduceAdd,Nat.reduceLeDiff,Nat.reduceEqDiff,Int.reduceToNat,Nat.reduceSub,Nat.reduceMod,Nat.reduceDiv,Int.reducePow,Int.reduceLE,Int.reduceNeg,Int.reduceLT,Int.reduceBEq,Int.reduceBNe,Int.reduceEq,Tryd.facts,g3,g4,g6,g8,g9,g12,g47,g48,gA,gR,gW,gS,sA,sR,sW,sS,hs0,hs1,hs2,hs3,hs4,hs5,hs6,hs7,hsl,hsd,smallC,d1,d2,d3,d4,d5,d6,d7,d8,d9,wadd32,ah,hb2,hb3,a0,a1,a2,a3,arl,jd,i9,i14,xeq]
            first | refine CallK.p (c5) ?_ | refine CallP.i (c5) ?_
            simp (disch := omega) only [↓aI,↓zP,aD,zD,aS,Nat.reduceBEq,Nat.reduceLT,reduceCtorEq,↓reduceIte,Nat.reduceMul,Nat.reduceAdd,Nat.reduceLeDiff,Nat.reduceEqDiff,Int.reduceToNat,Nat.reduceSub,Nat.reduceMod,Nat.reduceDiv,Int.reducePow,Int.reduceLE,Int.reduceNeg,Int.reduceLT,Int.reduceBEq,Int.reduceBNe,Int.reduceEq,Tryd.facts,g3,g4,g6,g8,g9,g12,g47,g48,gA,gR,gW,gS,sA,sR,sW,sS,hs0,hs1,hs2,hs3,hs4,hs5,hs6,hs7,hsl,hsd,smallC,d1,d2,d3,d4,d5,d6,d7,d8,d9,wadd32,ah,a0,a1,a2,a3,arl,jd,i9,i14,xeq]
            first | refine CallK.p (c6) ?_ | refine CallP.i (c6) ?_
            simp (disch := omega) only [↓aI,↓zP,aD,zD,aS,Nat.reduceBEq,Nat.reduceLT,reduceCtorEq,↓reduceIte,Nat.reduceMul,Nat.reduceAdd,Nat.reduceLeDiff,Nat.reduceEqDiff,Int.reduceToNat,Nat.reduceSub,Nat.reduceMod,Nat.reduceDiv,Int.reducePow,Int.reduceLE,Int.reduceNeg,Int.reduceLT,Int.reduceBEq,Int.reduceBNe,Int.reduceEq,Tryd.facts,g3,g4,g6,g8,g9,g12,g47,g48,gA,gR,gW,gS,sA,sR,sW,sS,hs0,hs1,hs2,hs3,hs4,hs5,hs6,hs7,hsl,hsd,smallC,d1,d2,d3,d4,d5,d6,d7,d8,d9,wadd32,ah,a0,a1,a2,a3,arl,jd,i9,i14,xeq]
            first | refine CallK.p (c1) ?_ | refine CallP.i (c1) ?_
            simp (disch := omega) only [↓aI,↓zP,aD,zD,aS,Nat.reduceBEq,Nat.reduceLT,reduceCtorEq,↓reduceIte,Nat.reduceMul,Nat.reduceAdd,Nat.reduceLeDiff,Nat.reduceEqDiff,Int.reduceToNat,Nat.reduceSub,Nat.reduceMod,Nat.reduceDiv,Int.reducePow,Int.reduceLE,Int.reduceNeg,Int.reduceLT,Int.reduceBEq,Int.reduceBNe,Int.reduceEq,Tryd.facts,g3,g4,g6,g8,g9,g12,g47,g48,gA,gR,gW,gS,sA,sR,sW,sS,hs0,hs1,hs2,hs3,hs4,hs5,hs6,hs7,hsl,hsd,smallC,d1,d2,d3,d4,d5,d6,d7,d8,d9,wadd32,ah,hfk]
            first | refine CallK.p (c3) ?_ | refine CallP.i (c3) ?_
            simp (disch := omega) only [↓aI,↓zP,aD,zD,aS,Nat.reduceBEq,Nat.reduceLT,reduceCtorEq,↓reduceIte,Nat.reduceMul,Nat.reduceAdd,Nat.reduceLeDiff,Nat.reduceEqDiff,Int.reduceToNat,Nat.reduceSub,Nat.reduceMod,Nat.reduceDiv,Int.reducePow,Int.reduceLE,Int.reduceNeg,Int.reduceLT,Int.reduceBEq,Int.reduceBNe,Int.reduceEq,Tryd.facts,g3,g4,g6,g8,g9,g12,g47,g48,gA,gR,gW,gS,sA,sR,sW,sS,hs0,hs1,hs2,hs3,hs4,hs5,hs6,hs7,hsl,hsd,smallC,d1,d2,d3,d4,d5,d6,d7,d8,d9,wadd32,ah]
            first | refine CallK.p (c2) ?_ | refine CallP.i (c2) ?_
            simp (disch := omega) only [↓aI,↓zP,aD,zD,aS,Nat.reduceBEq,Nat.reduceLT,reduceCtorEq,↓reduceIte,Nat.reduceMul,Nat.reduceAdd,Nat.reduceLeDiff,Nat.reduceEqDiff,Int.reduceToNat,Nat.reduceSub,Nat.reduceMod,Nat.reduceDiv,Int.reducePow,Int.reduceLE,Int.reduceNeg,Int.reduceLT,Int.reduceBEq,Int.reduceBNe,Int.reduceEq,Tryd.facts,g3,g4,g6,g8,g9,g12,g47,g48,gA,gR,gW,gS,sA,sR,sW,sS,hs0,hs1,hs2,hs3,hs4,hs5,hs6,hs7,hsl,hsd,smallC,d1,d2,d3,d4,d5,d6,d7,d8,d9,wadd32,ah]
            exact ⟨m2 - 1,by omega,T + 1,T + 1,by omega,by omega,rfl,by rw [hstep,x1,x2,hput]; rfl⟩
        · obtain rfl : t = 64 := by omega
          obtain rfl : T = 64 := by omega
          have hb2 : decide (((64 : Nat) : Int) < 64) = false := by decide
          rw [show blockM v b = addS v (roundsM b v 64) from rfl]
          generalize roundsM b v 64 = S at *
          simp (disch := omega) only [↓aI,↓zP,aD,zD,aS,Nat.reduceBEq,Nat.reduceLT,reduceCtorEq,↓reduceIte,Nat.reduceMul,Nat.reduceAdd,Nat.reduceLeDiff,Nat.reduceEqDiff,Int.reduceToNat,Nat.reduceSub,Nat.reduceMod,Nat.reduceDiv,Int.reducePow,Int.reduceLE,Int.reduceNeg,Int.reduceLT,Int.reduceBEq,Int.reduceBNe,Int.reduceEq,Tryd.facts,g3,g4,g6,g8,g9,g12,g47,g48,hb2]
          refine br (c := ⟨Tryd.prog,174,[(6,[0,0,0,0,0,0,0,1,0,0,0,0,1,0,0,0,2]),(14,[0,0,0,0,0,1,0,1,0,1,0,0,0,0,0,1,0,0,0,0,0,1,0,1,0,1,0,0,0,0]),(16,[0,1,0,1,0,0]),(17,[0,1,0,0,1,0,1,0,0,0,0,1,0,0,0,0,1,0,0,0,0,0,0,0,0,0,0]),(18,[0,0,1,0,1,0,0,0,1,0,0,0,1,0,0,0,1,0,1,0,0,0,0]),(24,[0,0,1,0,0,1,0,0,2]),(1000000,[6]),(4000024,[4,8,12,161]),(4000019,[3,4,6,8,9,12,47,48]),(4000018,[3,4,6,8,9,12,15,16,17,18,47,48]),(4000017,[3,4,6,8,9,12,15,16,17,47,48]),(4000016,[3,4,6,8,9,12,13,14,15,16,47,48]),(4000015,[3,4,6,8,9,12,13,14,47,48]),(4000014,[3,4,6,8,9,12,13,14,47,48]),(4000012,[3,4,6,8,9,12,13,14,47,48]),(4000006,[1,3,4,6,8,9,10,24,25])],[],[]⟩) Tryd.mixed (by kernel_rfl) (fun m3 σ3 H3 => ∃ i : Nat,i + m3 = 8 ∧ σ3 4 = .ptr k 0 ∧ σ3 8 = .ptr k2 0 ∧ σ3 12 = .ptr k4 0 ∧ σ3 161 = .sc (.int .i64 i) ∧ H3 = F4 H k k2 k3 k4 (.cells (w32A (adM v S i)) 65 8) z8 (.cells (w32A (rgM b 64)) 81 16) (.cells (w32A (stL S)) 65 8)) 8 ?_ ?_
          · refine ⟨0,by omega,?_⟩
            simp (disch := omega) only [↓aI,↓zP,aD,zD,aS,Nat.reduceBEq,Nat.reduceLT,reduceCtorEq,↓reduceIte,Nat.reduceMul,Nat.reduceAdd,Nat.reduceLeDiff,Nat.reduceEqDiff,Int.reduceToNat,Nat.reduceSub,Nat.reduceMod,Nat.reduceDiv,Int.reducePow,Int.reduceLE,Int.reduceNeg,Int.reduceLT,Int.reduceBEq,Int.reduceBNe,Int.reduceEq,Tryd.facts,g3,g4,g6,g8,g9,g12,g47,g48]
            rw [adM_zero,hvr]
          · rintro m3 σ3 H3 ⟨i,hi,g4,g8,g12,g161,rfl⟩
            have al := w32A_length (adM v S i)
            rw [adM_len v S (by omega)] at al
            by_cases hil : i < 8
            · have hb4 : decide ((i : Int) < 8) = true := by simp; omega
              have a0 := w32A_at (l := adM v S i) (i := i) (by rw [adM_len v S (by omega)]; omega)
              rw [adM_get v S hil] at a0
              have a1 := w32A_at (l := stL S) (i := i) hil
              have sl : (w32A (stL S)).length = 8 := rfl
              have hput := w32A_put (l := adM v S i) (i := i) (x := ((stL v).getD i 0 + (stL S).getD i 0) % 4294967296) (by rw [adM_len v S (by omega)]; omega)
              rw [adM_set v S hil] at hput
              generalize (stL v).getD i 0 = x at *
              generalize (stL S).getD i 0 = y at *
              simp (disch := omega) only [↓aI,↓zP,aD,zD,aS,Nat.reduceBEq,Nat.reduceLT,reduceCtorEq,↓reduceIte,Nat.reduceMul,Nat.reduceAdd,Nat.reduceLeDiff,Nat.reduceEqDiff,Int.reduceToNat,Nat.reduceSub,Nat.reduceMod,Nat.reduceDiv,Int.reducePow,Int.reduceLE,Int.reduceNeg,Int.reduceLT,Int.reduceBEq,Int.reduceBNe,Int.reduceEq,Tryd.facts,g4,g8,g12,g161,hb4,a0,a1,al,sl,wadd32,hput,gA,gS,sA]
              exact ⟨m3 - 1,by omega,i + 1,by omega,rfl,rfl⟩
            · obtain rfl : i = 8 := by omega
              have hb4 : decide (((8 : Nat) : Int) < 8) = false := by decide
              rw [adM_full] at *
              have ht8 : (w32A (stL (addS v S))).take 8 = w32A (stL (addS v S)) := rfl
              have hl8 : (w32A (stL (addS v S))).length = 8 := rfl
              have hst8 : (w32A (stL (addS v S))).map AV.strip0 = w32A (stL (addS v S)) := by simp [w32A,AV.strip0]
              generalize w32A (stL (addS v S)) = fin at *
              subst hz8
              simp (disch := omega) only [↓aI,↓zP,aD,zD,aS,Nat.reduceBEq,Nat.reduceLT,reduceCtorEq,↓reduceIte,Nat.reduceMul,Nat.reduceAdd,Nat.reduceLeDiff,Nat.reduceEqDiff,Int.reduceToNat,Nat.reduceSub,Nat.reduceMod,Nat.reduceDiv,Int.reducePow,Int.reduceLE,Int.reduceNeg,Int.reduceLT,Int.reduceBEq,Int.reduceBNe,Int.reduceEq,Tryd.facts,g4,g8,g12,g161,hb4,gA,gR,sR,al,ht8,hl8,ah]
              exact ⟨by rw [hst8],hd.sub _ _ _ _⟩
end Go.Proofs.YtejncnmdjkhiaaaDoor
