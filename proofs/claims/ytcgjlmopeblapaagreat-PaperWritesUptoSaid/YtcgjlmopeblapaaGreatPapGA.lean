/-
  Several texts in one: each says what it proves.
  Conditions: none. Lemmas only.
-/
import Derived.Test.YtcgjlmopeblapaaGreatPapG3
import Derived.Test.YtcgjlmopeblapaaGreatFugG6
import Derived.Test.YtcgjlmopeblapaaGreatPapG8
import Derived.Test.YtcgjlmopeblapaaGreatPapG9
import Derived.Test.YtcgjlmopeblapaaGreatFugAe
import Derived.Test.YtcgjlmopeblapaaGreatPapG7
set_option linter.all false
section
set_option linter.unusedSimpArgs false
set_option linter.unusedVariables false
set_option maxRecDepth 8000
set_option maxHeartbeats 4000000
namespace Go.Proofs.YtcgjlmopeblapaaGreat
open Go Go.Abs Go.Proofs Go.Fug
def withinP (s : PS) (a n : Int) : Bool := decide (0 ≤ a ∧ 0 ≤ n ∧ a ≤ ((s.L.length - s.G.length : Nat) : Int) ∧ n ≤ ((s.L.length - s.G.length : Nat) : Int) - a)
theorem within_live (B H : AH) (h : PH) (s : PS) (a n : Int) (p : IsP B H h s) (hh : h.p ≠ 0) : ACalls Tryz.prog 32 [.ptr h.p 0,.sc (.int .i64 a),.sc (.int .i64 n)] H fun v H' => v = .sc (.bool (withinP s a n)) ∧ H' = H := by
  have hlen := plen_live B H h s p
  have hls := p.t.small
  have hB : withinP s a n = decide (0 ≤ a ∧ 0 ≤ n ∧ a ≤ ((s.L.length - s.G.length : Nat) : Int) ∧ n ≤ ((s.L.length - s.G.length : Nat) : Int) - a) := rfl
  generalize hm : s.L.length - s.G.length = m at *
  have hm9 : m ≤ 10000 := by omega
  by_cases c1 : 0 ≤ a
  · by_cases c2 : 0 ≤ n
    · by_cases c3 : a ≤ (m : Int)
      · by_cases c4 : n ≤ (m : Int) - a
        · rw [hB,decide_eq_true ⟨c1,c2,c3,c4⟩]
          refine ao (c := ⟨Tryz.prog,31,[],[],[]⟩) (rs := [ResultVar.tmp 6]) Tryz.mixed Tryz.func32 rfl rfl rfl (Nat.le_of_ble_eq_true rfl) (by kernel_rfl) ?_
          simp (disch := omega) only [↓aI,↓zP,aD,zD,aS,simprocAttr,Tryz.facts,zA,hh]
          refine CallK.i hlen ?_
          rintro v E ⟨rfl,rfl⟩
          simp (disch := omega) only [↓aI,↓zP,aD,zD,aS,simprocAttr,Tryz.facts,zA]
          refine CallK.i hlen ?_
          rintro v E ⟨rfl,rfl⟩
          simp (disch := omega) only [↓aI,↓zP,aD,zD,aS,simprocAttr,Tryz.facts,zA]
          exact ⟨_,rfl,_,Abs.Sub.refl _,rfl,rfl⟩
        · rw [hB,decide_eq_false (fun h => c4 h.2.2.2)]
          refine ao (c := ⟨Tryz.prog,31,[],[],[]⟩) (rs := [ResultVar.tmp 6]) Tryz.mixed Tryz.func32 rfl rfl rfl (Nat.le_of_ble_eq_true rfl) (by kernel_rfl) ?_
          simp (disch := omega) only [↓aI,↓zP,aD,zD,aS,simprocAttr,Tryz.facts,zA,hh]
          refine CallK.i hlen ?_
          rintro v E ⟨rfl,rfl⟩
          simp (disch := omega) only [↓aI,↓zP,aD,zD,aS,simprocAttr,Tryz.facts,zA]
          refine CallK.i hlen ?_
          rintro v E ⟨rfl,rfl⟩
          simp (disch := omega) only [↓aI,↓zP,aD,zD,aS,simprocAttr,Tryz.facts,zA]
          exact ⟨_,rfl,_,Abs.Sub.refl _,rfl,rfl⟩
      · rw [hB,decide_eq_false (fun h => c3 h.2.2.1)]
        refine ao (c := ⟨Tryz.prog,31,[],[],[]⟩) (rs := [ResultVar.tmp 6]) Tryz.mixed Tryz.func32 rfl rfl rfl (Nat.le_of_ble_eq_true rfl) (by kernel_rfl) ?_
        simp (disch := omega) only [↓aI,↓zP,aD,zD,aS,simprocAttr,Tryz.facts,zA,hh]
        refine CallK.i hlen ?_
        rintro v E ⟨rfl,rfl⟩
        simp (disch := omega) only [↓aI,↓zP,aD,zD,aS,simprocAttr,Tryz.facts,zA]
        exact ⟨_,rfl,_,Abs.Sub.refl _,rfl,rfl⟩
    · rw [hB,decide_eq_false (fun h => c2 h.2.1)]
      refine ao (c := ⟨Tryz.prog,31,[],[],[]⟩) (rs := [ResultVar.tmp 6]) Tryz.mixed Tryz.func32 rfl rfl rfl (Nat.le_of_ble_eq_true rfl) (by kernel_rfl) ?_
      simp (disch := omega) only [↓aI,↓zP,aD,zD,aS,simprocAttr,Tryz.facts,zA,hh]
      exact ⟨_,rfl,_,Abs.Sub.refl _,rfl,rfl⟩
  · rw [hB,decide_eq_false (fun h => c1 h.1)]
    refine ao (c := ⟨Tryz.prog,31,[],[],[]⟩) (rs := [ResultVar.tmp 6]) Tryz.mixed Tryz.func32 rfl rfl rfl (Nat.le_of_ble_eq_true rfl) (by kernel_rfl) ?_
    simp (disch := omega) only [↓aI,↓zP,aD,zD,aS,simprocAttr,Tryz.facts,zA,hh]
    exact ⟨_,rfl,_,Abs.Sub.refl _,rfl,rfl⟩
abbrev opD (x : EId) : Opn := ⟨2,cj,x,cF⟩
def eraseP (s : PS) (a n : Int) : List Opn × Int :=
  if withinP s a n = false then ([],6)
  else if 64 < n then ([],2)
  else ((((live (bF s.L s.G)).drop a.toNat).take n.toNat).map fun x => opD x.id,0)
theorem erase_live (B H : AH) (h : PH) (s : PS) (a n : Int) (p : IsP B H h s) (hh : h.p ≠ 0) : ACalls Tryz.prog 10 [.ptr h.p 0,.sc (.int .i64 a),.sc (.int .i64 n)] H fun v H' => v = .tup [opsV (eraseP s a n).1,.sc (.int .i64 (eraseP s a n).2)] ∧ Abs.Sub H H' := by
  have hw := within_live B H h s a n p hh
  obtain ⟨wv,vp,-⟩ := p.pw
  have hls := p.t.small
  have hR : eraseP s a n = if withinP s a n = false then ([],6) else if 64 < n then ([],2) else ((((live (bF s.L s.G)).drop a.toNat).take n.toNat).map fun x => opD x.id,0) := rfl
  have hat := fun H' i t => at_live H' h.t h.mt s.L s.G i t
  have hll : (live (bF s.L s.G)).length = s.L.length - s.G.length := live_len p.t.g p.t.gs p.t.gn
  generalize eraseP s a n = R at *
  cases hwv : withinP s a n
  · rw [hwv,if_pos rfl] at hR
    rw [hwv] at hw
    subst hR
    refine ao (c := ⟨Tryz.prog,41,[(1000009,[10])],[],[]⟩) (rs := [ResultVar.tmp 6,ResultVar.tmp 7]) Tryz.mixed Tryz.func10 rfl rfl rfl (Nat.le_of_ble_eq_true rfl) (by kernel_rfl) ?_
    simp (disch := omega) only [↓aI,↓zP,aD,zD,aS,simprocAttr,Tryz.facts,zA,hh]
    refine CallK.i hw ?_
    rintro v E ⟨rfl,rfl⟩
    simp (disch := omega) only [↓aI,↓zP,aD,zD,aS,simprocAttr,Tryz.facts,zA]
    exact ⟨_,rfl,_,Abs.Sub.refl _,rfl,Abs.Sub.refl _⟩
  · rw [hwv,if_neg (by simp)] at hR
    rw [hwv] at hw
    unfold withinP at hwv
    simp only [decide_eq_true_eq] at hwv
    obtain ⟨c1,c2,c3,c4⟩ := hwv
    obtain ⟨i,rfl⟩ : ∃ i : Nat,a = (i : Int) := ⟨a.toNat,by omega⟩
    obtain ⟨q,rfl⟩ : ∃ q : Nat,n = (q : Int) := ⟨n.toNat,by omega⟩
    simp only [Int.toNat_natCast] at hR
    by_cases h64 : (64 : Int) < (q : Int)
    · rw [if_pos h64] at hR
      subst hR
      refine ao (c := ⟨Tryz.prog,41,[(1000009,[10])],[],[]⟩) (rs := [ResultVar.tmp 6,ResultVar.tmp 7]) Tryz.mixed Tryz.func10 rfl rfl rfl (Nat.le_of_ble_eq_true rfl) (by kernel_rfl) ?_
      simp (disch := omega) only [↓aI,↓zP,aD,zD,aS,simprocAttr,Tryz.facts,zA,hh]
      refine CallK.i hw ?_
      rintro v E ⟨rfl,rfl⟩
      simp (disch := omega) only [↓aI,↓zP,aD,zD,aS,simprocAttr,Tryz.facts,zA]
      exact ⟨_,rfl,_,Abs.Sub.refl _,rfl,Abs.Sub.refl _⟩
    · rw [if_neg h64] at hR
      refine ao (c := ⟨Tryz.prog,41,[(1000009,[10])],[],[]⟩) (rs := [ResultVar.tmp 6,ResultVar.tmp 7]) Tryz.mixed Tryz.func10 rfl rfl rfl (Nat.le_of_ble_eq_true rfl) (by kernel_rfl) ?_
      simp (disch := omega) only [↓aI,↓zP,aD,zD,aS,simprocAttr,Tryz.facts,zA,hh]
      refine CallK.i hw ?_
      rintro v E ⟨rfl,rfl⟩
      simp (disch := omega) only [↓aI,↓zP,aD,zD,aS,simprocAttr,Tryz.facts,zA]
      refine tok_t 8 (by simp (disch := omega) only [↓aI,↓zP,aD,zD,aS,simprocAttr,Tryz.facts]) fun k hk0 hk => ?_
      refine br (c := ⟨Tryz.prog,41,[(1000009,[10])],[],[]⟩) Tryz.mixed (by kernel_rfl) (fun mm σ H' => ∃ (j : Nat) (O : List Opn) (k : Nat) (o : AObj),j + mm = q ∧ O = (((live (bF s.L s.G)).drop i).take j).map (fun x => opD x.id) ∧ O.length = j ∧ k ≠ 0 ∧ E k = none ∧ Abs.Sub E H' ∧ H' k = some o ∧ cy 58 19 o (O.length * 19) ∧
        σ 0 = .ptr h.p 0 ∧ σ 1 = .sc (.int .i64 (i : Nat)) ∧ σ 8 = .imm k (dL O) O.length ∧ σ 19 = .sc (.int .i64 (q : Nat)) ∧ σ 20 = .sc (.int .i64 (j : Nat))) q ?_ ?_
      · refine ⟨0,[],k,.nilt,by omega,by simp,rfl,hk0,hk,Sub.set_new hk,set_get,.inr ⟨rfl,rfl⟩,?_⟩
        simp (disch := omega) only [↓aI,↓zP,aD,zD,aS,simprocAttr,Tryz.facts]
        try rfl
      · clear hk hk0 k
        rintro mm σ H' ⟨j,O,k,o,hjm,hO,hOl,hk0,hk,hs,vk,ho,s0,s1,s8,s19,s20⟩
        have pH := p.mono hs
        by_cases hlt : j < q
        · have hnd : i + j < (live (bF s.L s.G)).length := by omega
          have hA := hat H' ((i : Int) + (j : Int)) pH.t
          have hat1 : atL (bF s.L s.G) ((i : Int) + (j : Int)) = ((live (bF s.L s.G))[i + j].id,0) := by
            unfold atL
            rw [if_pos (by omega),show ((i : Int) + (j : Int)).toNat = i + j by omega,List.getElem?_eq_getElem hnd]
            rfl
          have hO2 : (((live (bF s.L s.G)).drop i).take (j + 1)).map (fun x => opD x.id) = O ++ [opD (live (bF s.L s.G))[i + j].id] := by
            rw [hO,List.take_succ_eq_append_getElem (by rw [List.length_drop]; omega),List.map_append,List.getElem_drop]
            rfl
          rw [hat1] at hA
          generalize (live (bF s.L s.G))[i + j].id = x at *
          obtain ⟨x1,x2⟩ := x
          have vpH := hs _ _ vp
          have hsn := opsC_snoc O (opD (x1,x2))
          have hsl := cq O
          simp (disch := omega) only [↓aI,↓zP,aD,zD,aS,simprocAttr,Tryz.facts,s0,s1,s8,s19,s20,zA,vpH]
          refine CallK.i hA ?_
          rintro v E2 ⟨rfl,hE⟩
          subst hE
          simp (disch := omega) only [↓aI,↓zP,aD,zD,aS,simprocAttr,Tryz.facts,s0,s1,s8,s19,s20,zA]
          intro b10 hb100 hb10
          try simp (disch := omega) only [↓aI,↓zP,aD,zD,aS,simprocAttr,Tryz.facts,s0,s1,s8,s19,s20,zA,aj hb10,ah,vk,ho,hk0,hsl]
          intro k2 o2 hk20 hk2 ho2
          have h9 : (O ++ [opD (x1,x2)]).length = O.length + 1 := by simp
          exact ⟨mm - 1,by omega,j + 1,O ++ [opD (x1,x2)],k2,o2,by omega,hO2.symm,by omega,hk20,hs.free hk2,(hs.kill_free hk).set_free (hs.free hk2),set_get,by rw [h9,Nat.succ_mul]; exact ho2,by rw [h9]; exact congrArg (fun c => AV.imm k2 c (O.length + 1)) hsn,rfl⟩
        · obtain rfl : j = q := by omega
          rw [← hO] at hR
          subst hR
          simp (disch := omega) only [↓aI,↓zP,aD,zD,aS,simprocAttr,Tryz.facts,s0,s1,s8,s19,s20,zA]
          exact ⟨_,rfl,_,Abs.Sub.refl _,rfl,hs⟩
end Go.Proofs.YtcgjlmopeblapaaGreat
end
section
set_option linter.unusedSimpArgs false
set_option linter.unusedVariables false
set_option maxRecDepth 8000
set_option maxHeartbeats 1000000
namespace Go.Proofs.YtcgjlmopeblapaaGreat
open Go Go.Abs Go.Proofs Go.Fug
end Go.Proofs.YtcgjlmopeblapaaGreat
end
section
set_option maxRecDepth 20000
namespace Go.Proofs.YtcgjlmopeblapaaGreat
open Go Go.Abs Go.Proofs Go.Fug
abbrev WishX := Int × Int × Int × Int × Int × (List UInt8) × Unit
abbrev wishOf (x : WishX) : Wsh := ⟨x.1,x.2.1,x.2.2.1,x.2.2.2.1,x.2.2.2.2.1,x.2.2.2.2.2.1⟩
theorem wish_enc (x : WishX) : Tryz.ty24.enc x = wishC (wishOf x) := by
  obtain ⟨a,n,m,v,o,t,⟨⟩⟩ := x
  rfl
abbrev opssOf (x : List (List OpX)) : List (List Opn) := x.map fun l => l.map opOf
theorem opss_enc (x : List (List OpX)) : (Tryz.ty22.enc x).getD 0 .any = opssV (opssOf x) := by
  show AV.imm 0 (x.flatMap fun l => [AV.imm 0 (l.flatMap Tryz.ty58.enc) l.length]) x.length = .imm 0 ((opssOf x).map opsV) (opssOf x).length
  rw [flat_one,List.length_map]
  congr 1
  rw [List.map_map]
  refine List.map_congr_left fun l _ => ?_
  show AV.imm 0 (l.flatMap Tryz.ty58.enc) l.length = opsV (l.map opOf)
  rw [ops_enc,opsV,List.length_map]
theorem opss_len (x : List (List OpX)) : (opssOf x).length ≤ Tryz.ty22.size x := by
  show (opssOf x).length ≤ sumMap Tryz.ty28.size x + 1
  rw [List.length_map]
  have : ∀ l : List (List OpX),l.length ≤ sumMap Tryz.ty28.size l := by
    intro l
    induction l with
    | nil => exact Nat.zero_le _
    | cons a l ih =>
      show l.length + 1 ≤ _
      have h2 : 1 ≤ Tryz.ty28.size a := by
        show 1 ≤ sumMap _ a + 1
        omega
      simp only [sumMap,List.map_cons,List.sum_cons] at ih ⊢
      omega
  have := this x
  omega
theorem wish_len (x : WishX) : (wishOf x).txt.length ≤ Tryz.ty24.size x := by
  obtain ⟨a,n,m,v,o,t,⟨⟩⟩ := x
  show t.length ≤ 1 + (1 + (1 + (1 + (1 + ((t.length + 1) + 0))))) + 1
  omega
theorem both_len (x0 : List (List OpX)) (x1 : WishX) (hb : Tryz.ty22.size x0 + Tryz.ty24.size x1 ≤ 1048576) : (opssOf x0).length ≤ 1100000 ∧ (wishOf x1).txt.length ≤ 1100000 := by
  have h1 := opss_len x0
  have h2 := wish_len x1
  omega
end Go.Proofs.YtcgjlmopeblapaaGreat
end
