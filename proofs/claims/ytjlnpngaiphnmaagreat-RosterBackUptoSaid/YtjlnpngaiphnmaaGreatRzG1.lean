/-
  Several texts in one: each says what it proves.
  Conditions: none. Lemmas only.
-/
import Derived.Test.YtjlnpngaiphnmaaGreatRosG1
import Derived.Test.YtjlnpngaiphnmaaGreatLetG2
import Derived.Test.YtjlnpngaiphnmaaGreatRosG3
import Derived.Test.YtjlnpngaiphnmaaGreatRosG6
import Derived.Test.YtjlnpngaiphnmaaGreatSuiG6
set_option linter.all false
section
set_option linter.unusedSimpArgs false
set_option linter.unusedVariables false
set_option maxRecDepth 20000
set_option maxHeartbeats 8000000
namespace Go.Proofs.YtjlnpngaiphnmaaGreat
open Go Go.Abs Go.Proofs
theorem kE (s : RS) (most : Nat) : (gJ s most).2.length ≤ most := by
  unfold gJ
  split
  · split
    · split
      · exact Nat.zero_le _
      · split
        · exact Nat.zero_le _
        · rename_i h _
          exact Nat.le_trans (List.length_take_le _ _) (by omega)
    · exact Nat.zero_le _
  · exact Nat.zero_le _
theorem RdS.step {B H H' : AH} {r k b : Nat} {bs : List UInt8} {s s' : RS} {o : AObj} (p : RdS B H r k bs s) (f : B b = none) (n : ¬ b = r) (q : RdS ((H.set b o).kill r) H' r k bs s') : RdS B H' r k bs s' ∧ H' b = some o ∧ ∀ y x,¬ y = r → ¬ y = b → H y = some x → H' y = some x := by
  have p1 := p.put (o := o) f n
  exact ⟨p1.back q,p1.keep q set_get n,fun y x h1 h2 h3 => p1.keep q (by rw [aP h2]; exact h3) h1⟩
def gY (s : RS) : RS × Mem := ((gJ (gJ (fK s 0 4).1 64).1 64).1,⟨(fK s 0 4).2,(gJ (fK s 0 4).1 64).2,(gJ (gJ (fK s 0 4).1 64).1 64).2⟩)
def iR (s : RS) : RS × Nd := ((fK (fK s 0 4).1 0 1048576).1,⟨(fK s 0 4).2,(fK (fK s 0 4).1 0 1048576).2⟩)
def io (s : RS) : RS × List UInt8 := gJ s 64
def ig {α : Type} (one : RS → RS × α) : Nat → RS → RS × List α
  | 0,s => (s,[])
  | n + 1,s => ((one (ig one n s).1).1,(ig one n s).2 ++ [(one (ig one n s).1).2])
def fR {α : Type} (one : RS → RS × α) (s : RS) : RS × List α := ig one (fK s 0 5).2.toNat (fK s 0 5).1
theorem iy {α : Type} (one : RS → RS × α) (s : RS) : ∀ n,(ig one n s).2.length = n
  | 0 => rfl
  | n + 1 => by
    show ((ig one n s).2 ++ [_]).length = _
    rw [List.length_append,iy one s n]; rfl
theorem jf (s : RS) (hi : Int) (h : 0 ≤ hi) : 0 ≤ (fK s 0 hi).2 ∧ (fK s 0 hi).2 ≤ hi := by
  unfold fK
  split
  · split
    · split
      · exact ⟨Int.le_refl _,h⟩
      · rename_i c
        exact ⟨Int.natCast_nonneg _,by show ((ft s.1).1 : Int) ≤ hi; omega⟩
    · exact ⟨Int.le_refl _,h⟩
  · exact ⟨Int.le_refl _,h⟩
theorem iS {α : Type} (one : RS → RS × α) (s : RS) : (fR one s).2.length ≤ 5 := by
  unfold fR
  rw [iy]
  have := jf s 5 (by decide)
  omega
theorem mem1_live (B H : AH) (r k : Nat) (bs : List UInt8) (s : RS) (p : RdS B H r k bs s) (hr0 : r ≠ 0) : ACalls Tryz.prog 32 [.ip [.ptr r 0] 0] H fun v H' => v = .agg (fL (gY s).2) ∧ RdS B H' r k bs (gY s).1 := by
  have h1 := fun B H p => iv B H r k bs s 0 4 p hr0
  have h2 := fun B H p => text_live B H r k bs (fK s 0 4).1 64 p hr0
  have h3 := fun B H p => text_live B H r k bs (gJ (fK s 0 4).1 64).1 64 p hr0
  unfold gY
  generalize gJ (gJ (fK s 0 4).1 64).1 64 = R3 at *
  generalize gJ (fK s 0 4).1 64 = R2 at *
  generalize fK s 0 4 = R1 at *
  refine ao (c := ⟨Tryz.prog,13,[],[],[]⟩) (rs := [ResultVar.cell 1 30]) Tryz.mixed Tryz.func32 rfl rfl rfl (Nat.le_of_ble_eq_true rfl) (by kernel_rfl) ?_
  simp (disch := omega) only [↓aI,↓zP,aD,zD,aS,simprocAttr,Tryz.facts,zA]
  intro b2 hb20 hb2
  have n2 := p.ne hb2
  have f2 := p.free hb2
  have p1 := p.put (o := .cells [.sc (.int .i64 0),.sc (.slice none 0 0),.sc (.slice none 0 0)] 30 3) f2 n2
  have v2 := set_get (H := H) (k := b2) (o := .cells [.sc (.int .i64 0),.sc (.slice none 0 0),.sc (.slice none 0 0)] 30 3)
  try simp (disch := omega) only [↓aI,↓zP,aD,zD,aS,simprocAttr,Tryz.facts,zA]
  refine CallK.i (h1 _ _ p1.all) ?_
  rintro v H1 ⟨rfl,q⟩
  have v2 := p1.keep q v2 n2
  have p1 := p1.back q
  try simp (disch := omega) only [↓aI,↓zP,aD,zD,aS,simprocAttr,Tryz.facts,zA]
  intro b3 hb30 hb3
  have n3 := p1.ne hb3
  have f3 := p1.free hb3
  have n23 := bA v2 hb3
  try simp (disch := omega) only [↓aI,↓zP,aD,zD,aS,simprocAttr,Tryz.facts,zA,ah]
  refine CallK.i (h2 _ _ (p1.put f3 n3).all) ?_
  rintro v H2 ⟨rfl,q⟩
  obtain ⟨p1,v3,fr⟩ := p1.step f3 n3 q
  have v2 := fr _ _ n2 n23 v2
  try simp (disch := omega) only [↓aI,↓zP,aD,zD,aS,simprocAttr,Tryz.facts,zA,v2,v3,ah]
  refine CallK.i (h3 _ _ (p1.put f3 n3).all) ?_
  rintro v H3 ⟨rfl,q⟩
  obtain ⟨p1,v3,fr⟩ := p1.step f3 n3 q
  have v2 := fr _ _ n2 n23 v2
  have n32 : ¬ b2 = b3 := n23
  try simp (disch := omega) only [↓aI,↓zP,aD,zD,aS,simprocAttr,Tryz.facts,zA,v2,v3,ah,aP,n23]
  exact ⟨_,rfl,_,Abs.Sub.refl _,rfl,(p1.put f3 n3).put f2 n2⟩
theorem nd1_live (B H : AH) (r k : Nat) (bs : List UInt8) (s : RS) (p : RdS B H r k bs s) (hr0 : r ≠ 0) : ACalls Tryz.prog 34 [.ip [.ptr r 0] 0] H fun v H' => v = .agg (ndC (iR s).2) ∧ RdS B H' r k bs (iR s).1 := by
  have h1 := fun B H p => iv B H r k bs s 0 4 p hr0
  have h2 := fun B H p => iv B H r k bs (fK s 0 4).1 0 1048576 p hr0
  unfold iR
  generalize fK (fK s 0 4).1 0 1048576 = R2 at *
  generalize fK s 0 4 = R1 at *
  refine ao (c := ⟨Tryz.prog,10,[],[],[]⟩) (rs := [ResultVar.cell 1 84]) Tryz.mixed Tryz.func34 rfl rfl rfl (Nat.le_of_ble_eq_true rfl) (by kernel_rfl) ?_
  simp (disch := omega) only [↓aI,↓zP,aD,zD,aS,simprocAttr,Tryz.facts,zA]
  intro b2 hb20 hb2
  have n2 := p.ne hb2
  have f2 := p.free hb2
  have p1 := p.put (o := .cells [.sc (.int .i64 0),.sc (.int .i64 0)] 84 2) f2 n2
  have v2 := set_get (H := H) (k := b2) (o := .cells [.sc (.int .i64 0),.sc (.int .i64 0)] 84 2)
  try simp (disch := omega) only [↓aI,↓zP,aD,zD,aS,simprocAttr,Tryz.facts,zA]
  refine CallK.i (h1 _ _ p1.all) ?_
  rintro v H1 ⟨rfl,q⟩
  have v2 := p1.keep q v2 n2
  have p1 := p1.back q
  try simp (disch := omega) only [↓aI,↓zP,aD,zD,aS,simprocAttr,Tryz.facts,zA]
  intro b3 hb30 hb3
  have n3 := p1.ne hb3
  have f3 := p1.free hb3
  have n23 := bA v2 hb3
  try simp (disch := omega) only [↓aI,↓zP,aD,zD,aS,simprocAttr,Tryz.facts,zA,ah]
  refine CallK.i (h2 _ _ (p1.put f3 n3).all) ?_
  rintro v H2 ⟨rfl,q⟩
  obtain ⟨p1,v3,fr⟩ := p1.step f3 n3 q
  have v2 := fr _ _ n2 n23 v2
  try simp (disch := omega) only [↓aI,↓zP,aD,zD,aS,simprocAttr,Tryz.facts,zA,v2,v3,ah,aP,n23]
  exact ⟨_,rfl,_,Abs.Sub.refl _,rfl,(p1.put f3 n3).put f2 n2⟩
theorem bx1_live (B H : AH) (r k : Nat) (bs : List UInt8) (s : RS) (p : RdS B H r k bs s) (hr0 : r ≠ 0) : ACalls Tryz.prog 36 [.ip [.ptr r 0] 0] H fun v H' => v = eu (io s).2 ∧ RdS B H' r k bs (io s).1 := by
  have h1 := fun B H p => text_live B H r k bs s 64 p hr0
  unfold io
  generalize gJ s 64 = R1 at *
  refine ao (c := ⟨Tryz.prog,4,[],[],[]⟩) (rs := [ResultVar.tmp 1]) Tryz.mixed Tryz.func36 rfl rfl rfl (Nat.le_of_ble_eq_true rfl) (by kernel_rfl) ?_
  simp (disch := omega) only [↓aI,↓zP,aD,zD,aS,simprocAttr,Tryz.facts,zA]
  refine CallK.i (h1 _ _ p) ?_
  rintro v H1 ⟨rfl,q⟩
  try simp (disch := omega) only [↓aI,↓zP,aD,zD,aS,simprocAttr,Tryz.facts,zA]
  exact ⟨_,rfl,_,Abs.Sub.refl _,rfl,q⟩
theorem memL_live (B H : AH) (r k : Nat) (bs : List UInt8) (s : RS) (p : RdS B H r k bs s) (hr0 : r ≠ 0) : ACalls Tryz.prog 31 [.ptr r 0,.fn (.func 32) [] [.ip [.ptr r 0] 0]] H fun v H' => v = .imm 0 (List.flatMap fL (fR gY s).2) (fR gY s).2.length ∧ RdS B H' r k bs (fR gY s).1 := by
  have h1 := fun B H p => iv B H r k bs s 0 5 p hr0
  have hin := jf s 5 (by decide)
  have hone := fun s B H p => mem1_live B H r k bs s p hr0
  unfold fR
  generalize fK s 0 5 = N at *
  obtain ⟨s1,n0⟩ := N
  simp only [] at *
  obtain ⟨n,rfl⟩ : ∃ n : Nat,n0 = (n : Int) := ⟨n0.toNat,by omega⟩
  rw [Int.toNat_natCast]
  obtain ⟨P,hP⟩ : ∃ P : Nat → RS × List Mem,∀ i,P i = ig gY i s1 := ⟨_,fun _ => rfl⟩
  have hP0 : P 0 = (s1,[]) := by rw [hP]; rfl
  have hPs : ∀ i,P (i + 1) = ((gY (P i).1).1,(P i).2 ++ [(gY (P i).1).2]) := fun i => by rw [hP,hP]; rfl
  have hPl : ∀ i,(P i).2.length = i := fun i => by rw [hP]; exact iy _ _ _
  rw [← hP]
  clear hP
  refine ao (c := ⟨Tryz.prog,17,[],[],[]⟩) (rs := [ResultVar.tmp 4]) Tryz.mixed Tryz.func31 rfl rfl rfl (Nat.le_of_ble_eq_true rfl) (by kernel_rfl) ?_
  simp (disch := omega) only [↓aI,↓zP,aD,zD,aS,simprocAttr,Tryz.facts,zA]
  refine CallK.i (h1 _ _ p) ?_
  rintro v H1 ⟨rfl,q⟩
  try simp (disch := omega) only [↓aI,↓zP,aD,zD,aS,simprocAttr,Tryz.facts,zA]
  refine jn 5 (by simp (disch := omega) only [↓aI,↓zP,aD,zD,aS,simprocAttr,Tryz.facts]) fun kt hkt0 hkt => ?_
  have q0 := q.put (o := .nilt) (q.free hkt) (q.ne hkt)
  refine br (c := ⟨Tryz.prog,17,[],[],[]⟩) Tryz.mixed (by kernel_rfl) (fun mm σ E => ∃ (i kt : Nat) (o : AObj),i + mm = n ∧ E kt = some o ∧ kt ≠ 0 ∧ B kt = none ∧ ¬ kt = r ∧ RdS B E r k bs (P i).1 ∧ cy 30 3 o (i * 3) ∧
    σ 0 = .ptr r 0 ∧ σ 1 = .fn (.func 32) [] [.ip [.ptr r 0] 0] ∧ σ 5 = .imm kt (List.flatMap fL (P i).2) i ∧ σ 7 = .sc (.int .i64 (n : Nat)) ∧ σ 8 = .sc (.int .i64 (i : Nat))) n ?_ ?_
  · refine ⟨0,kt,.nilt,by omega,set_get,hkt0,q.free hkt,q.ne hkt,by rw [hP0]; exact q0,.inr ⟨rfl,rfl⟩,?_⟩
    simp (disch := omega) only [↓aI,↓zP,aD,zD,aS,simprocAttr,Tryz.facts,zA]
    try (rw [hP0]; rfl)
  · rintro mm σ E ⟨i,kt,o,him,hkv,hkt0,hkB,hkr,p,ho,s0,s1',s5,s7,s8⟩
    by_cases hlt : i < n
    · have hone := hone (P i).1
      have hPs := hPs i
      have hPl := hPl i
      have hcl : (List.flatMap fL (P i).2).length = i * 3 := by rw [fF fU,hPl]
      generalize hPi : P i = Pi at *
      generalize gY Pi.1 = O at *
      obtain ⟨o1,⟨x1,x2,x3⟩⟩ := O
      simp only [fL] at *
      simp (disch := omega) only [↓aI,↓zP,aD,zD,aS,simprocAttr,Tryz.facts,zA,s0,s1',s5,s7,s8]
      refine CallK.i (hone _ _ p.all) ?_
      rintro v H2 ⟨rfl,q⟩
      have hkv := p.keep q hkv hkr
      have p := p.back q
      try simp (disch := omega) only [↓aI,↓zP,aD,zD,aS,simprocAttr,Tryz.facts,zA,s0,s1',s5,s7,s8,hkv,hcl,ho,fO]
      intro k2 o2 hk20 hk2 ho2
      refine ⟨mm - 1,by omega,i + 1,k2,o2,by omega,set_get,hk20,p.free hk2,p.ne hk2,?_,?_,?_⟩
      · rw [hPs]
        exact (p.kill hkB hkr).put (p.free hk2) (p.ne hk2)
      · first | exact ho2 | (rw [Nat.add_mul,Nat.one_mul]; exact ho2) | (simpa [Nat.add_mul] using ho2)
      · rw [hPs]
        first | (refine ⟨?_,rfl⟩; simp [fL,ndC]) | simp [fL,ndC]
    · obtain rfl : i = n := by omega
      have hfl : (P i).2.length = i := hPl i
      simp (disch := omega) only [↓aI,↓zP,aD,zD,aS,simprocAttr,Tryz.facts,zA,s0,s1',s5,s7,s8]
      exact ⟨_,rfl,_,Abs.Sub.refl _,by rw [hfl],p⟩
theorem ndL_live (B H : AH) (r k : Nat) (bs : List UInt8) (s : RS) (p : RdS B H r k bs s) (hr0 : r ≠ 0) : ACalls Tryz.prog 33 [.ptr r 0,.fn (.func 34) [] [.ip [.ptr r 0] 0]] H fun v H' => v = .imm 0 (List.flatMap ndC (fR iR s).2) (fR iR s).2.length ∧ RdS B H' r k bs (fR iR s).1 := by
  have h1 := fun B H p => iv B H r k bs s 0 5 p hr0
  have hin := jf s 5 (by decide)
  have hone := fun s B H p => nd1_live B H r k bs s p hr0
  unfold fR
  generalize fK s 0 5 = N at *
  obtain ⟨s1,n0⟩ := N
  simp only [] at *
  obtain ⟨n,rfl⟩ : ∃ n : Nat,n0 = (n : Int) := ⟨n0.toNat,by omega⟩
  rw [Int.toNat_natCast]
  obtain ⟨P,hP⟩ : ∃ P : Nat → RS × List Nd,∀ i,P i = ig iR i s1 := ⟨_,fun _ => rfl⟩
  have hP0 : P 0 = (s1,[]) := by rw [hP]; rfl
  have hPs : ∀ i,P (i + 1) = ((iR (P i).1).1,(P i).2 ++ [(iR (P i).1).2]) := fun i => by rw [hP,hP]; rfl
  have hPl : ∀ i,(P i).2.length = i := fun i => by rw [hP]; exact iy _ _ _
  rw [← hP]
  clear hP
  refine ao (c := ⟨Tryz.prog,17,[],[],[]⟩) (rs := [ResultVar.tmp 4]) Tryz.mixed Tryz.func33 rfl rfl rfl (Nat.le_of_ble_eq_true rfl) (by kernel_rfl) ?_
  simp (disch := omega) only [↓aI,↓zP,aD,zD,aS,simprocAttr,Tryz.facts,zA]
  refine CallK.i (h1 _ _ p) ?_
  rintro v H1 ⟨rfl,q⟩
  try simp (disch := omega) only [↓aI,↓zP,aD,zD,aS,simprocAttr,Tryz.facts,zA]
  refine jn 5 (by simp (disch := omega) only [↓aI,↓zP,aD,zD,aS,simprocAttr,Tryz.facts]) fun kt hkt0 hkt => ?_
  have q0 := q.put (o := .nilt) (q.free hkt) (q.ne hkt)
  refine br (c := ⟨Tryz.prog,17,[],[],[]⟩) Tryz.mixed (by kernel_rfl) (fun mm σ E => ∃ (i kt : Nat) (o : AObj),i + mm = n ∧ E kt = some o ∧ kt ≠ 0 ∧ B kt = none ∧ ¬ kt = r ∧ RdS B E r k bs (P i).1 ∧ cy 84 2 o (i * 2) ∧
    σ 0 = .ptr r 0 ∧ σ 1 = .fn (.func 34) [] [.ip [.ptr r 0] 0] ∧ σ 5 = .imm kt (List.flatMap ndC (P i).2) i ∧ σ 7 = .sc (.int .i64 (n : Nat)) ∧ σ 8 = .sc (.int .i64 (i : Nat))) n ?_ ?_
  · refine ⟨0,kt,.nilt,by omega,set_get,hkt0,q.free hkt,q.ne hkt,by rw [hP0]; exact q0,.inr ⟨rfl,rfl⟩,?_⟩
    simp (disch := omega) only [↓aI,↓zP,aD,zD,aS,simprocAttr,Tryz.facts,zA]
    try (rw [hP0]; rfl)
  · rintro mm σ E ⟨i,kt,o,him,hkv,hkt0,hkB,hkr,p,ho,s0,s1',s5,s7,s8⟩
    by_cases hlt : i < n
    · have hone := hone (P i).1
      have hPs := hPs i
      have hPl := hPl i
      have hcl : (List.flatMap ndC (P i).2).length = i * 2 := by rw [fF gZ,hPl]
      generalize hPi : P i = Pi at *
      generalize iR Pi.1 = O at *
      obtain ⟨o1,⟨x1,x2⟩⟩ := O
      simp only [ndC] at *
      simp (disch := omega) only [↓aI,↓zP,aD,zD,aS,simprocAttr,Tryz.facts,zA,s0,s1',s5,s7,s8]
      refine CallK.i (hone _ _ p.all) ?_
      rintro v H2 ⟨rfl,q⟩
      have hkv := p.keep q hkv hkr
      have p := p.back q
      try simp (disch := omega) only [↓aI,↓zP,aD,zD,aS,simprocAttr,Tryz.facts,zA,s0,s1',s5,s7,s8,hkv,hcl,ho,fO]
      intro k2 o2 hk20 hk2 ho2
      refine ⟨mm - 1,by omega,i + 1,k2,o2,by omega,set_get,hk20,p.free hk2,p.ne hk2,?_,?_,?_⟩
      · rw [hPs]
        exact (p.kill hkB hkr).put (p.free hk2) (p.ne hk2)
      · first | exact ho2 | (rw [Nat.add_mul,Nat.one_mul]; exact ho2) | (simpa [Nat.add_mul] using ho2)
      · rw [hPs]
        first | (refine ⟨?_,rfl⟩; simp [fL,ndC]) | simp [fL,ndC]
    · obtain rfl : i = n := by omega
      have hfl : (P i).2.length = i := hPl i
      simp (disch := omega) only [↓aI,↓zP,aD,zD,aS,simprocAttr,Tryz.facts,zA,s0,s1',s5,s7,s8]
      exact ⟨_,rfl,_,Abs.Sub.refl _,by rw [hfl],p⟩
theorem bxL_live (B H : AH) (r k : Nat) (bs : List UInt8) (s : RS) (p : RdS B H r k bs s) (hr0 : r ≠ 0) : ACalls Tryz.prog 35 [.ptr r 0,.fn (.func 36) [] [.ip [.ptr r 0] 0]] H fun v H' => v = .imm 0 (List.map eu (fR io s).2) (fR io s).2.length ∧ RdS B H' r k bs (fR io s).1 := by
  have h1 := fun B H p => iv B H r k bs s 0 5 p hr0
  have hin := jf s 5 (by decide)
  have hone := fun s B H p => bx1_live B H r k bs s p hr0
  unfold fR
  generalize fK s 0 5 = N at *
  obtain ⟨s1,n0⟩ := N
  simp only [] at *
  obtain ⟨n,rfl⟩ : ∃ n : Nat,n0 = (n : Int) := ⟨n0.toNat,by omega⟩
  rw [Int.toNat_natCast]
  obtain ⟨P,hP⟩ : ∃ P : Nat → RS × List (List UInt8),∀ i,P i = ig io i s1 := ⟨_,fun _ => rfl⟩
  have hP0 : P 0 = (s1,[]) := by rw [hP]; rfl
  have hPs : ∀ i,P (i + 1) = ((io (P i).1).1,(P i).2 ++ [(io (P i).1).2]) := fun i => by rw [hP,hP]; rfl
  have hPl : ∀ i,(P i).2.length = i := fun i => by rw [hP]; exact iy _ _ _
  rw [← hP]
  clear hP
  refine ao (c := ⟨Tryz.prog,17,[],[],[]⟩) (rs := [ResultVar.tmp 4]) Tryz.mixed Tryz.func35 rfl rfl rfl (Nat.le_of_ble_eq_true rfl) (by kernel_rfl) ?_
  simp (disch := omega) only [↓aI,↓zP,aD,zD,aS,simprocAttr,Tryz.facts,zA]
  refine CallK.i (h1 _ _ p) ?_
  rintro v H1 ⟨rfl,q⟩
  try simp (disch := omega) only [↓aI,↓zP,aD,zD,aS,simprocAttr,Tryz.facts,zA]
  refine jn 5 (by simp (disch := omega) only [↓aI,↓zP,aD,zD,aS,simprocAttr,Tryz.facts]) fun kt hkt0 hkt => ?_
  have q0 := q.put (o := .nilt) (q.free hkt) (q.ne hkt)
  refine br (c := ⟨Tryz.prog,17,[],[],[]⟩) Tryz.mixed (by kernel_rfl) (fun mm σ E => ∃ (i kt : Nat) (o : AObj),i + mm = n ∧ E kt = some o ∧ kt ≠ 0 ∧ B kt = none ∧ ¬ kt = r ∧ RdS B E r k bs (P i).1 ∧ cy 22 1 o i ∧
    σ 0 = .ptr r 0 ∧ σ 1 = .fn (.func 36) [] [.ip [.ptr r 0] 0] ∧ σ 5 = .imm kt (List.map eu (P i).2) i ∧ σ 7 = .sc (.int .i64 (n : Nat)) ∧ σ 8 = .sc (.int .i64 (i : Nat))) n ?_ ?_
  · refine ⟨0,kt,.nilt,by omega,set_get,hkt0,q.free hkt,q.ne hkt,by rw [hP0]; exact q0,.inr ⟨rfl,rfl⟩,?_⟩
    simp (disch := omega) only [↓aI,↓zP,aD,zD,aS,simprocAttr,Tryz.facts,zA]
    try (rw [hP0]; rfl)
  · rintro mm σ E ⟨i,kt,o,him,hkv,hkt0,hkB,hkr,p,ho,s0,s1',s5,s7,s8⟩
    by_cases hlt : i < n
    · have hone := hone (P i).1
      have hPs := hPs i
      have hPl := hPl i
      have hcl : (List.map eu (P i).2).length = i := by rw [List.length_map,hPl]
      generalize hPi : P i = Pi at *
      generalize io Pi.1 = O at *
      obtain ⟨o1,x1⟩ := O
      simp only [] at *
      simp (disch := omega) only [↓aI,↓zP,aD,zD,aS,simprocAttr,Tryz.facts,zA,s0,s1',s5,s7,s8]
      refine CallK.i (hone _ _ p.all) ?_
      rintro v H2 ⟨rfl,q⟩
      have hkv := p.keep q hkv hkr
      have p := p.back q
      try simp (disch := omega) only [↓aI,↓zP,aD,zD,aS,simprocAttr,Tryz.facts,zA,s0,s1',s5,s7,s8,hkv,hcl,ho,fO]
      intro k2 o2 hk20 hk2 ho2
      refine ⟨mm - 1,by omega,i + 1,k2,o2,by omega,set_get,hk20,p.free hk2,p.ne hk2,?_,?_,?_⟩
      · rw [hPs]
        exact (p.kill hkB hkr).put (p.free hk2) (p.ne hk2)
      · first | exact ho2 | (rw [Nat.add_mul,Nat.one_mul]; exact ho2) | (simpa [Nat.add_mul] using ho2)
      · rw [hPs]
        first | (refine ⟨?_,rfl⟩; simp [fL,ndC]) | simp [fL,ndC]
    · obtain rfl : i = n := by omega
      have hfl : (P i).2.length = i := hPl i
      simp (disch := omega) only [↓aI,↓zP,aD,zD,aS,simprocAttr,Tryz.facts,zA,s0,s1',s5,s7,s8]
      exact ⟨_,rfl,_,Abs.Sub.refl _,by rw [hfl],p⟩
end Go.Proofs.YtjlnpngaiphnmaaGreat
end
section
set_option linter.unusedSimpArgs false
set_option linter.unusedVariables false
set_option maxRecDepth 20000
set_option maxHeartbeats 8000000
namespace Go.Proofs.YtjlnpngaiphnmaaGreat
open Go Go.Abs Go.Proofs
def failS (s : RS) (e : Ent) : RS := (s.1,if gK e = true then s.2 else if s.2 = 0 then 5 else s.2)
def fixE (s : RS) (e : Ent) : RS × Ent := (failS s e,if (failS s e).2 = 0 then e else i9)
def jq (s : RS) : RS × Ent :=
  fixE (gJ (fR io (gJ (fR iR (fR gY (gJ (fK (fK s 1 1).1 1 65536).1 64).1).1).1 64).1).1 64).1
    ⟨(fK (fK s 1 1).1 1 65536).2,(gJ (fK (fK s 1 1).1 1 65536).1 64).2,(fR gY (gJ (fK (fK s 1 1).1 1 65536).1 64).1).2,
      (fR iR (fR gY (gJ (fK (fK s 1 1).1 1 65536).1 64).1).1).2,(gJ (fR iR (fR gY (gJ (fK (fK s 1 1).1 1 65536).1 64).1).1).1 64).2,
      (fR io (gJ (fR iR (fR gY (gJ (fK (fK s 1 1).1 1 65536).1 64).1).1).1 64).1).2,
      (gJ (fR io (gJ (fR iR (fR gY (gJ (fK (fK s 1 1).1 1 65536).1 64).1).1).1 64).1).1 64).2⟩
theorem rget_live (B H : AH) (r k : Nat) (bs : List UInt8) (s : RS) (p : RdS B H r k bs s) (hr0 : r ≠ 0) : ACalls Tryz.prog 7 [.ptr r 0] H fun v H' => v = .agg (fX (jq s).2) ∧ RdS B H' r k bs (jq s).1 := by
  have hnum := fun lo hi s B H p => iv B H r k bs s lo hi p hr0
  have htx := fun (m : Nat) s B H p => text_live B H r k bs s m p hr0
  have hfail := fun s B H p => fail_live B H r k bs s 5 p hr0
  have herr := fun s B H p => err_live B H r k bs s p hr0
  have hR : jq s = fixE (gJ (fR io (gJ (fR iR (fR gY (gJ (fK (fK s 1 1).1 1 65536).1 64).1).1).1 64).1).1 64).1
    ⟨(fK (fK s 1 1).1 1 65536).2,(gJ (fK (fK s 1 1).1 1 65536).1 64).2,(fR gY (gJ (fK (fK s 1 1).1 1 65536).1 64).1).2,
      (fR iR (fR gY (gJ (fK (fK s 1 1).1 1 65536).1 64).1).1).2,(gJ (fR iR (fR gY (gJ (fK (fK s 1 1).1 1 65536).1 64).1).1).1 64).2,
      (fR io (gJ (fR iR (fR gY (gJ (fK (fK s 1 1).1 1 65536).1 64).1).1).1 64).1).2,
      (gJ (fR io (gJ (fR iR (fR gY (gJ (fK (fK s 1 1).1 1 65536).1 64).1).1).1 64).1).1 64).2⟩ := rfl
  generalize jq s = R at *
  have h1 := hnum 1 1 s
  generalize fK s 1 1 = K at *
  obtain ⟨s1,kd⟩ := K
  simp only at h1 hR
  have h2 := hnum 1 65536 s1
  generalize fK s1 1 65536 = K at *
  obtain ⟨s2,nn⟩ := K
  simp only at h2 hR
  have h3 := htx 64 s2
  generalize gJ s2 64 = K at *
  obtain ⟨s3,pv⟩ := K
  simp only at h3 hR
  have h4 := fun B H p => memL_live B H r k bs s3 p hr0
  have l4 := iS gY s3
  generalize fR gY s3 = K at *
  obtain ⟨s4,ms⟩ := K
  simp only at h4 hR l4
  have h5 := fun B H p => ndL_live B H r k bs s4 p hr0
  have l5 := iS iR s4
  generalize fR iR s4 = K at *
  obtain ⟨s5,ns⟩ := K
  simp only at h5 hR l5
  have h6 := htx 64 s5
  generalize gJ s5 64 = K at *
  obtain ⟨s6,on⟩ := K
  simp only at h6 hR
  have h7 := fun B H p => bxL_live B H r k bs s6 p hr0
  have l7 := iS io s6
  generalize fR io s6 = K at *
  obtain ⟨s7,xs⟩ := K
  simp only at h7 hR l7
  have h8 := htx 64 s7
  generalize gJ s7 64 = K at *
  obtain ⟨s8,sg⟩ := K
  simp only at h8 hR
  have hrt := ie ⟨nn,pv,ms,ns,on,xs,sg⟩ (by show ms.length ≤ _; omega) (by show ns.length ≤ _; omega) (by show xs.length ≤ _; omega)
  unfold fixE failS at hR
  generalize hob : gK ⟨nn,pv,ms,ns,on,xs,sg⟩ = ob at hrt hR
  simp only [fX] at hrt
  have hz : fX i9 = [.sc (.int .i64 0),.imm 0 [] 0,.imm 0 [] 0,.imm 0 [] 0,.imm 0 [] 0,.imm 0 [] 0,.imm 0 [] 0] := by simp [fX,i9,bw]
  refine ao (c := ⟨Tryz.prog,40,[(1000000,[1])],[],[]⟩) (rs := [ResultVar.cell 2 27]) Tryz.mixed Tryz.func7 rfl rfl rfl (Nat.le_of_ble_eq_true rfl) (by kernel_rfl) ?_
  simp (disch := omega) only [↓aI,↓zP,aD,zD,aS,simprocAttr,Tryz.facts,zA]
  intro b1 hb10 hb1 b2 hb20 hb2
  have n12 := bK hb2
  have hb2 := am hb2
  have n2 := p.ne hb2
  have f2 := p.free hb2
  try simp (disch := omega) only [↓aI,↓zP,aD,zD,aS,simprocAttr,Tryz.facts,zA,aP,n12,bH hb1 n12]
  have v2 := set_get (H := H) (k := b2) (o := .cells [.sc (.int .i64 0),.sc (.slice none 0 0),.sc (.slice none 0 0),.sc (.slice none 0 0),.sc (.slice none 0 0),.sc (.slice none 0 0),.sc (.slice none 0 0)] 27 7)
  have p1 := p.put (o := .cells [.sc (.int .i64 0),.sc (.slice none 0 0),.sc (.slice none 0 0),.sc (.slice none 0 0),.sc (.slice none 0 0),.sc (.slice none 0 0),.sc (.slice none 0 0)] 27 7) f2 n2
  refine CallK.i (h1 _ _ p1.all) ?_
  rintro v H1 ⟨rfl,q⟩
  have v2 := p1.keep q v2 n2
  have p1 := p1.back q
  try simp (disch := omega) only [↓aI,↓zP,aD,zD,aS,simprocAttr,Tryz.facts,zA]
  refine CallK.i (h2 _ _ p1.all) ?_
  rintro v H2 ⟨rfl,q⟩
  have v2 := p1.keep q v2 n2
  have p1 := p1.back q
  try simp (disch := omega) only [↓aI,↓zP,aD,zD,aS,simprocAttr,Tryz.facts,zA]
  intro b3 hb30 hb3
  have n3 := p1.ne hb3
  have f3 := p1.free hb3
  have n23 := bA v2 hb3
  try simp (disch := omega) only [↓aI,↓zP,aD,zD,aS,simprocAttr,Tryz.facts,zA,ah]
  refine CallK.i (h3 _ _ (p1.put f3 n3).all) ?_
  rintro v H3 ⟨rfl,q⟩
  obtain ⟨p1,v3,fr⟩ := p1.step f3 n3 q
  have v2 := fr _ _ n2 n23 v2
  try simp (disch := omega) only [↓aI,↓zP,aD,zD,aS,simprocAttr,Tryz.facts,zA,v2,v3,ah]
  refine CallK.i (h4 _ _ (p1.put f3 n3).all) ?_
  rintro v H4 ⟨rfl,q⟩
  obtain ⟨p1,v3,fr⟩ := p1.step f3 n3 q
  have v2 := fr _ _ n2 n23 v2
  try simp (disch := omega) only [↓aI,↓zP,aD,zD,aS,simprocAttr,Tryz.facts,zA,v2,v3,ah]
  refine CallK.i (h5 _ _ (p1.put f3 n3).all) ?_
  rintro v H5 ⟨rfl,q⟩
  obtain ⟨p1,v3,fr⟩ := p1.step f3 n3 q
  have v2 := fr _ _ n2 n23 v2
  try simp (disch := omega) only [↓aI,↓zP,aD,zD,aS,simprocAttr,Tryz.facts,zA,v2,v3,ah]
  refine CallK.i (h6 _ _ (p1.put f3 n3).all) ?_
  rintro v H6 ⟨rfl,q⟩
  obtain ⟨p1,v3,fr⟩ := p1.step f3 n3 q
  have v2 := fr _ _ n2 n23 v2
  try simp (disch := omega) only [↓aI,↓zP,aD,zD,aS,simprocAttr,Tryz.facts,zA,v2,v3,ah]
  refine CallK.i (h7 _ _ (p1.put f3 n3).all) ?_
  rintro v H7 ⟨rfl,q⟩
  obtain ⟨p1,v3,fr⟩ := p1.step f3 n3 q
  have v2 := fr _ _ n2 n23 v2
  try simp (disch := omega) only [↓aI,↓zP,aD,zD,aS,simprocAttr,Tryz.facts,zA,v2,v3,ah]
  refine CallK.i (h8 _ _ (p1.put f3 n3).all) ?_
  rintro v H8 ⟨rfl,q⟩
  obtain ⟨p1,v3,fr⟩ := p1.step f3 n3 q
  have v2 := fr _ _ n2 n23 v2
  try simp (disch := omega) only [↓aI,↓zP,aD,zD,aS,simprocAttr,Tryz.facts,zA,v2,v3,ah]
  first | refine CallK.p (hrt) ?_ | refine CallP.i (hrt) ?_
  simp (disch := omega) only [↓aI,↓zP,aD,zD,aS,simprocAttr,Tryz.facts,zA,v2,v3,ah]
  cases ob
  · try simp (disch := omega) only [↓aI,↓zP,aD,zD,aS,simprocAttr,Tryz.facts,zA,v2,v3,ah]
    refine CallK.i (hfail _ _ _ (p1.put f3 n3).all) ?_
    rintro v H9 q
    obtain ⟨p1,v3,fr⟩ := p1.step f3 n3 q
    have v2 := fr _ _ n2 n23 v2
    try simp (disch := omega) only [↓aI,↓zP,aD,zD,aS,simprocAttr,Tryz.facts,zA,v2,v3,ah]
    refine CallK.i (herr _ _ _ p1) ?_
    rintro v H9' ⟨rfl,rfl⟩
    simp only [Bool.false_eq_true,if_false] at hR
    have c0 : ¬ (if s8.2 = 0 then (5 : Int) else s8.2) = 0 := by split <;> omega
    rw [if_neg c0] at hR
    subst hR
    simp only []
    generalize (if s8.2 = 0 then (5 : Int) else s8.2) = ee at *
    try simp (disch := omega) only [↓aI,↓zP,aD,zD,aS,simprocAttr,Tryz.facts,zA,v2,v3,c0,ah]
    refine ⟨_,rfl,_,Abs.Sub.refl _,by rw [hz],?_⟩
    exact p1.put f2 n2
  · try simp (disch := omega) only [↓aI,↓zP,aD,zD,aS,simprocAttr,Tryz.facts,zA,v2,v3,ah]
    refine CallK.i (herr _ _ _ (p1.put f3 n3)) ?_
    rintro v H9' ⟨rfl,rfl⟩
    simp only [if_true] at hR
    obtain ⟨s8a,s8e⟩ := s8
    simp only [] at hR
    by_cases c0 : s8e = 0
    · rw [if_pos c0] at hR
      subst hR
      subst c0
      simp only []
      try simp (disch := omega) only [↓aI,↓zP,aD,zD,aS,simprocAttr,Tryz.facts,zA,v2,v3,aP,n23,ah]
      exact ⟨_,rfl,_,Abs.Sub.refl _,rfl,(p1.put f3 n3).put f2 n2⟩
    · rw [if_neg c0] at hR
      subst hR
      simp only []
      try simp (disch := omega) only [↓aI,↓zP,aD,zD,aS,simprocAttr,Tryz.facts,zA,v2,v3,c0,aP,n23,ah]
      exact ⟨_,rfl,_,Abs.Sub.refl _,by rw [hz],(p1.put f3 n3).put f2 n2⟩
end Go.Proofs.YtjlnpngaiphnmaaGreat
end
section
set_option linter.unusedSimpArgs false
set_option linter.unusedVariables false
set_option maxRecDepth 8000
set_option maxHeartbeats 1000000
namespace Go.Proofs.YtjlnpngaiphnmaaGreat
open Go Go.Abs Go.Proofs
theorem ofN8 (n : Nat) (h : n < 256) : (UInt8.ofNat n).toNat = n := by rw [UInt8.toNat_ofNat']; omega
theorem vr_last (f k acc n : Nat) (r : List UInt8) (hn : n < 128) (h0 : 0 < k → 0 < n) (h : acc + n * 128 ^ k ≤ 1099511627776) : vr (f + 1) k acc (UInt8.ofNat n :: r) = (acc + n * 128 ^ k,k + 1,0) := by
  have e := ofN8 n (by omega)
  rw [vr,e,if_neg (by omega),if_neg (by omega),Nat.mod_eq_of_lt hn,if_neg (by omega)]
theorem vr_dig : ∀ (g f k acc n : Nat) (r : List UInt8),1 ≤ f → f ≤ g + 1 → n < 128 ^ f → (0 < k → 0 < n) → acc + n * 128 ^ k ≤ 1099511627776 → vr f k acc (ib g n ++ r) = (acc + n * 128 ^ k,k + (ib g n).length,0) := by
  intro g
  induction g with
  | zero =>
    intro f k acc n r h1 h2 h3 h4 h5
    obtain rfl : f = 1 := by omega
    exact vr_last 0 k acc n r (by simpa using h3) h4 h5
  | succ g ih =>
    intro f k acc n r h1 h2 h3 h4 h5
    obtain ⟨f,rfl⟩ : ∃ m,f = m + 1 := ⟨f - 1,by omega⟩
    unfold ib
    split
    · rename_i hn
      exact vr_last f k acc n r hn h4 h5
    · rename_i hn
      have e := ofN8 (128 + n % 128) (by omega)
      have hf : 1 ≤ f := by
        rcases Nat.eq_zero_or_pos f with rfl | h
        · simp at h3; omega
        · exact h
      have hp : n / 128 < 128 ^ f := by
        rw [Nat.pow_succ] at h3
        exact Nat.div_lt_of_lt_mul (by rw [Nat.mul_comm]; exact h3)
      have hs : acc + (128 + n % 128) % 128 * 128 ^ k + n / 128 * 128 ^ (k + 1) = acc + n * 128 ^ k := by
        rw [Nat.pow_succ,show (128 + n % 128) % 128 = n % 128 by omega,Nat.add_assoc,show n / 128 * (128 ^ k * 128) = 128 * (n / 128) * 128 ^ k by rw [Nat.mul_comm (128 ^ k) 128,← Nat.mul_assoc,Nat.mul_comm (n / 128) 128],← Nat.add_mul,Nat.mod_add_div]
      have h := ih f (k + 1) (acc + (128 + n % 128) % 128 * 128 ^ k) (n / 128) r hf (by omega) hp (fun _ => by omega) (by rw [hs]; exact h5)
      rw [List.cons_append,vr,e,if_pos (by omega),h,hs,List.length_cons,Nat.add_assoc,Nat.add_comm 1]
theorem vread_vnum {z : Int} (h0 : 0 ≤ z) (h1 : z ≤ 1099511627776) (r : List UInt8) : ft (fI z ++ r) = (z.toNat,(fI z).length,0) := by
  have hz := clampN_of h0 h1
  unfold ft fI
  rw [vr_dig 6 6 0 0 (iG z) r (by omega) (by omega) (by have := jI z; omega) (by omega) (by have := jI z; omega)]
  simp only [Nat.pow_zero,Nat.mul_one,Nat.zero_add]
  rw [show z.toNat = iG z by omega]
theorem kF {z lo hi : Int} (h : lo ≤ z ∧ z ≤ hi) (h0 : 0 ≤ z ∧ z ≤ 1099511627776) (r : List UInt8) : fK (fI z ++ r,0) lo hi = ((r,0),z) := by
  unfold fK
  simp only [vread_vnum h0.1 h0.2,if_true]
  rw [show ((z.toNat : Nat) : Int) = z by omega,if_neg (by omega),List.drop_left]
theorem rdTx_of {b : List UInt8} {most : Nat} (h : b.length ≤ most) (hm : most ≤ 1099511627776) (r : List UInt8) : gJ (fj b ++ r,0) most = ((r,0),b) := by
  unfold gJ fj
  have hv := vread_vnum (z := (b.length : Int)) (by omega) (by omega) (b ++ r)
  simp only [List.append_assoc,hv,if_true,Int.toNat_natCast,List.drop_left]
  rw [if_neg (by omega),if_neg (by simp only [List.length_append]; omega),List.take_left]
theorem draw_ne {ts : List Term} {i j : Nat} {x y : List UInt8} (hx : Nm ts (fJ i) x) (hy : Nm ts (fJ j) y) (hl : ts.length ≤ 1000000) (hi : i < 1000000) (hj : j < 1000000) (hij : i ≠ j) : x ≠ y := fun e => by
  subst e
  have := hx.inj hy hl
  simp only [fJ,Term.mk.injEq,List.cons.injEq,and_true,true_and] at this
  exact hij (by have := lowL8_inj (by omega) (by omega) this; omega)
end Go.Proofs.YtjlnpngaiphnmaaGreat
end
