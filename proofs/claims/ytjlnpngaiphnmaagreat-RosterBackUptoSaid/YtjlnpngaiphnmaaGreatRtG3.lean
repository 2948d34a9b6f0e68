/-
  Several texts in one: each says what it proves.
  Conditions: none. Lemmas only.
-/
import Derived.Test.YtjlnpngaiphnmaaGreatRtG2
set_option linter.all false
section
set_option linter.unusedSimpArgs false
set_option linter.unusedVariables false
set_option maxRecDepth 20000
set_option maxHeartbeats 8000000
namespace Go.Proofs.YtjlnpngaiphnmaaGreat
open Go Go.Abs Go.Proofs
def jb (n : Nat) : List UInt8 := List.replicate n 0
theorem zeroB_len (n : Nat) : (jb n).length = n := List.length_replicate
def chM (e : Ent) : Nat → Ent
  | 1 => { e with n := e.n + 1 }
  | 2 => { e with n := e.n - 1 }
  | 3 => { e with sig := jb 64 }
  | 4 => { e with prev := jb 32 }
  | 5 => { e with boxes := e.boxes ++ [jb 48] }
  | 6 => { e with members := match e.members with | [] => [] | m :: l => { m with sgn := jb 32 } :: l }
  | 7 => { e with once := jb 32 }
  | _ => e
def chE (e : Ent) (how : UInt8) : Ent := chM e (how.toNat % 8)
theorem changed_plain (e : Ent) (how : UInt8) (he : OkE e) (hn : -1000000 ≤ e.n ∧ e.n ≤ 1000000) (c6 : how.toNat % 8 ≠ 6 ∨ e.members = []) : APure Tryz.prog 78 [.agg (fX e),.sc (.int .u8 how.toNat)] (.agg (fX (chE e how))) := by
  have hm : ((how.toNat : Nat) : Int).tmod 8 = ((how.toNat % 8 : Nat) : Int) := jd _ 8
  have hlt := Nat.mod_lt how.toNat (show 0 < 8 by omega)
  unfold chE
  generalize how.toNat % 8 = q at *
  obtain ⟨hp,hml,hms,hel,hol,hbl,hbs,hsl⟩ := he
  obtain ⟨n,prev,ms,ns,once,bs,sig⟩ := e
  simp only [fX] at *
  have hmc : (ms.flatMap fL).length = ms.length * 3 := fF fU _
  have hbc : (bs.map eu).length = bs.length := List.length_map _
  refine az (c := ⟨Tryz.prog,74,[(15,[0,1,0,0,2,0,2]),(18,[0,1,0,0,0,2]),(4000007,[2,4]),(4000009,[2,4]),(4000011,[2,4]),(4000015,[2,4]),(4000018,[2,4]),(4000004,[1,2,4]),(4000003,[1,2,4]),(4000002,[1,2,4]),(4000001,[1,2,4])],[5,10,15,20,2000043,4000048,4000054,4000066,4000071],[]⟩) (rs := [ResultVar.cell 4 27]) Tryz.mixed Tryz.func78 rfl rfl rfl (Nat.le_of_ble_eq_true rfl) (by kernel_rfl) fun H => ?_
  simp (disch := omega) only [↓aI,↓zP,aD,zD,aS,simprocAttr,Tryz.facts,zA,hm]
  intro b2 hb20 hb2 b4 hb40 hb4
  have n24 := bK hb4
  have n42 : ¬ b4 = b2 := fun e => n24 e.symm
  have f4 := am hb4
  obtain ⟨E0,hE0⟩ : ∃ E,E = (H.set b2 (.cells [.sc (.int .i64 n),eu prev,fE ms,fY ns,eu once,fZ bs,eu sig] 27 7)).set b4 (.cells [.sc (.int .i64 0),.sc (.slice none 0 0),.sc (.slice none 0 0),.sc (.slice none 0 0),.sc (.slice none 0 0),.sc (.slice none 0 0),.sc (.slice none 0 0)] 27 7) := ⟨_,rfl⟩
  have hs0 : Abs.Sub H E0 := by rw [hE0]; exact ((Abs.Sub.refl H).set_free hb2).set_free f4
  have v2 : E0 b2 = some (.cells [.sc (.int .i64 n),eu prev,fE ms,fY ns,eu once,fZ bs,eu sig] 27 7) := by rw [hE0,aP n24,set_get]
  have v4 : E0 b4 = some (.cells [.sc (.int .i64 0),.sc (.slice none 0 0),.sc (.slice none 0 0),.sc (.slice none 0 0),.sc (.slice none 0 0),.sc (.slice none 0 0),.sc (.slice none 0 0)] 27 7) := by rw [hE0,set_get]
  rw [← hE0]
  clear hE0
  intro t1 ht10 ht1
  have nt1 := bA v2 ht1
  try simp (disch := omega) only [↓aI,↓zP,aD,zD,aS,simprocAttr,Tryz.facts,zA,v2,aP nt1,aj ht1,hmc,hbc]
  intro k1 o1 hk10 hk1 ho1
  have hk1 := am hk1
  have nk1 := bA v2 hk1
  try simp (disch := omega) only [↓aI,↓zP,aD,zD,aS,simprocAttr,Tryz.facts,zA,v2,aP nt1,aP nk1,aj ht1,ah]
  obtain ⟨E1,hE1⟩ : ∃ E,E = (E0.set k1 o1).set b2 (.cells [.sc (.int .i64 n),eu prev,fE ms,fY ns,eu once,fZ bs,.imm k1 (bw sig) sig.length] 27 7) := ⟨_,rfl⟩
  have hs1 : Abs.Sub H E1 := by rw [hE1]; exact (hs0.set_free (hs0.free hk1)).set_free hb2
  have v4 : E1 b4 = some (.cells [.sc (.int .i64 0),.sc (.slice none 0 0),.sc (.slice none 0 0),.sc (.slice none 0 0),.sc (.slice none 0 0),.sc (.slice none 0 0),.sc (.slice none 0 0)] 27 7) := by rw [hE1,aP (fun e => n24 e.symm),aP (bA v4 hk1)]; exact v4
  have v2 : E1 b2 = some (.cells [.sc (.int .i64 n),eu prev,fE ms,fY ns,eu once,fZ bs,.imm k1 (bw sig) sig.length] 27 7) := by rw [hE1,set_get]
  rw [← hE1]
  clear hE1
  intro t2 ht20 ht2
  have nt2 := bA v2 ht2
  try simp (disch := omega) only [↓aI,↓zP,aD,zD,aS,simprocAttr,Tryz.facts,zA,v2,aP nt2,aj ht2,hmc,hbc]
  intro k2 o2 hk20 hk2 ho2
  have hk2 := am hk2
  have nk2 := bA v2 hk2
  try simp (disch := omega) only [↓aI,↓zP,aD,zD,aS,simprocAttr,Tryz.facts,zA,v2,aP nt2,aP nk2,aj ht2,ah]
  obtain ⟨E2,hE2⟩ : ∃ E,E = (E1.set k2 o2).set b2 (.cells [.sc (.int .i64 n),.imm k2 (bw prev) prev.length,fE ms,fY ns,eu once,fZ bs,.imm k1 (bw sig) sig.length] 27 7) := ⟨_,rfl⟩
  have hs2 : Abs.Sub H E2 := by rw [hE2]; exact (hs1.set_free (hs1.free hk2)).set_free hb2
  have v4 : E2 b4 = some (.cells [.sc (.int .i64 0),.sc (.slice none 0 0),.sc (.slice none 0 0),.sc (.slice none 0 0),.sc (.slice none 0 0),.sc (.slice none 0 0),.sc (.slice none 0 0)] 27 7) := by rw [hE2,aP (fun e => n24 e.symm),aP (bA v4 hk2)]; exact v4
  have v2 : E2 b2 = some (.cells [.sc (.int .i64 n),.imm k2 (bw prev) prev.length,fE ms,fY ns,eu once,fZ bs,.imm k1 (bw sig) sig.length] 27 7) := by rw [hE2,set_get]
  rw [← hE2]
  clear hE2
  intro t3 ht30 ht3
  have nt3 := bA v2 ht3
  try simp (disch := omega) only [↓aI,↓zP,aD,zD,aS,simprocAttr,Tryz.facts,zA,v2,aP nt3,aj ht3,hmc,hbc]
  intro k3 o3 hk30 hk3 ho3
  have hk3 := am hk3
  have nk3 := bA v2 hk3
  have nj3 := bA v4 hk3
  have f3 := hs2.free hk3
  try simp (disch := omega) only [↓aI,↓zP,aD,zD,aS,simprocAttr,Tryz.facts,zA,v2,aP nt3,aP nk3,aj ht3,ah]
  obtain ⟨E3,hE3⟩ : ∃ E,E = (E2.set k3 o3).set b2 (.cells [.sc (.int .i64 n),.imm k2 (bw prev) prev.length,fE ms,fY ns,eu once,.imm k3 (bs.map eu) bs.length,.imm k1 (bw sig) sig.length] 27 7) := ⟨_,rfl⟩
  have hs3 : Abs.Sub H E3 := by rw [hE3]; exact (hs2.set_free (hs2.free hk3)).set_free hb2
  have v4 : E3 b4 = some (.cells [.sc (.int .i64 0),.sc (.slice none 0 0),.sc (.slice none 0 0),.sc (.slice none 0 0),.sc (.slice none 0 0),.sc (.slice none 0 0),.sc (.slice none 0 0)] 27 7) := by rw [hE3,aP (fun e => n24 e.symm),aP (bA v4 hk3)]; exact v4
  have v2 : E3 b2 = some (.cells [.sc (.int .i64 n),.imm k2 (bw prev) prev.length,fE ms,fY ns,eu once,.imm k3 (bs.map eu) bs.length,.imm k1 (bw sig) sig.length] 27 7) := by rw [hE3,set_get]
  have w3 : E3 k3 = some o3 := by rw [hE3,aP (fun e => nk3 e.symm),set_get]
  rw [← hE3]
  clear hE3
  intro t4 ht40 ht4
  have nt4 := bA v2 ht4
  try simp (disch := omega) only [↓aI,↓zP,aD,zD,aS,simprocAttr,Tryz.facts,zA,v2,aP nt4,aj ht4,hmc,hbc]
  intro k4 o4 hk40 hk4 ho4
  have hk4 := am hk4
  have nk4 := bA v2 hk4
  try simp (disch := omega) only [↓aI,↓zP,aD,zD,aS,simprocAttr,Tryz.facts,zA,v2,aP nt4,aP nk4,aj ht4,ah]
  obtain ⟨E4,hE4⟩ : ∃ E,E = (E3.set k4 o4).set b2 (.cells [.sc (.int .i64 n),.imm k2 (bw prev) prev.length,.imm k4 (ms.flatMap fL) ms.length,fY ns,eu once,.imm k3 (bs.map eu) bs.length,.imm k1 (bw sig) sig.length] 27 7) := ⟨_,rfl⟩
  have hs4 : Abs.Sub H E4 := by rw [hE4]; exact (hs3.set_free (hs3.free hk4)).set_free hb2
  have v4 : E4 b4 = some (.cells [.sc (.int .i64 0),.sc (.slice none 0 0),.sc (.slice none 0 0),.sc (.slice none 0 0),.sc (.slice none 0 0),.sc (.slice none 0 0),.sc (.slice none 0 0)] 27 7) := by rw [hE4,aP (fun e => n24 e.symm),aP (bA v4 hk4)]; exact v4
  have v2 : E4 b2 = some (.cells [.sc (.int .i64 n),.imm k2 (bw prev) prev.length,.imm k4 (ms.flatMap fL) ms.length,fY ns,eu once,.imm k3 (bs.map eu) bs.length,.imm k1 (bw sig) sig.length] 27 7) := by rw [hE4,set_get]
  have w3 : E4 k3 = some o3 := by rw [hE4,aP (fun e => nk3 e.symm),aP (bA w3 hk4)]; exact w3
  rw [← hE4]
  clear hE4
  clear hs0 hs1 hs2 hs3
  rcases (by omega : q = 0 ∨ q = 1 ∨ q = 2 ∨ q = 3 ∨ q = 4 ∨ q = 5 ∨ q = 6 ∨ q = 7) with rfl | rfl | rfl | rfl | rfl | rfl | rfl | rfl
  · simp only [chM]
    simp (disch := omega) only [↓aI,↓zP,aD,zD,aS,simprocAttr,Tryz.facts,zA,hm,v2,v4,ah,aP,n24,n42]
    first | exact hs4.set_free f4 | exact (hs4.set_free hb2).set_free f4 | exact ⟨rfl,hs4.set_free f4⟩ | exact ⟨rfl,(hs4.set_free hb2).set_free f4⟩
  · simp only [chM]
    simp (disch := omega) only [↓aI,↓zP,aD,zD,aS,simprocAttr,Tryz.facts,zA,hm,v2,v4,ah,aP,n24,n42]
    first | exact hs4.set_free f4 | exact (hs4.set_free hb2).set_free f4 | exact ⟨rfl,hs4.set_free f4⟩ | exact ⟨rfl,(hs4.set_free hb2).set_free f4⟩
  · simp only [chM]
    simp (disch := omega) only [↓aI,↓zP,aD,zD,aS,simprocAttr,Tryz.facts,zA,hm,v2,v4,ah,aP,n24,n42]
    first | exact hs4.set_free f4 | exact (hs4.set_free hb2).set_free f4 | exact ⟨rfl,hs4.set_free f4⟩ | exact ⟨rfl,(hs4.set_free hb2).set_free f4⟩
  · simp only [chM]
    have ht0 : cy 5 1 (.full 0) 0 = True := TokO_full rfl
    simp (disch := omega) only [↓aI,↓zP,aD,zD,aS,simprocAttr,Tryz.facts,zA,hm,v2,v4,ah,aP,n24,n42]
    intro gk hgk0 hgk
    have ngk := bA v2 hgk
    try simp (disch := omega) only [↓aI,↓zP,aD,zD,aS,simprocAttr,Tryz.facts,zA,hm,ht0,v2,v4,ah,aP,n24,n42,ngk,aj hgk]
    intro k5 o5 hk50 hk5 ho5
    have hk5 := am hk5
    have nk5 := bA v2 hk5
    have nj5 := bA v4 hk5
    try simp (disch := omega) only [↓aI,↓zP,aD,zD,aS,simprocAttr,Tryz.facts,zA,hm,v2,v4,ah,aP,n24,n42,ngk,nk5,nj5,aj hgk]
    first | exact ((hs4.set_free (hs4.free hk5)).set_free hb2).set_free f4 | exact ⟨rfl,((hs4.set_free (hs4.free hk5)).set_free hb2).set_free f4⟩
  · simp only [chM]
    simp (disch := omega) only [↓aI,↓zP,aD,zD,aS,simprocAttr,Tryz.facts,zA,hm,v2,v4,ah,aP,n24,n42]
    first | exact hs4.set_free f4 | exact (hs4.set_free hb2).set_free f4 | exact ⟨rfl,hs4.set_free f4⟩ | exact ⟨rfl,(hs4.set_free hb2).set_free f4⟩
  · simp only [chM]
    simp (disch := omega) only [↓aI,↓zP,aD,zD,aS,simprocAttr,Tryz.facts,zA,hm,v2,v4,w3,ho3,hbc,ah,aP,n24,n42]
    intro k5 o5 hk50 hk5 ho5
    have nk5 := bA v2 hk5
    have nj5 := bA v4 hk5
    try simp (disch := omega) only [↓aI,↓zP,aD,zD,aS,simprocAttr,Tryz.facts,zA,hm,v2,v4,ah,aP,n24,n42,nk5,nj5,bZ,nk3,nj3]
    have hbl5 : (bs ++ [jb 48]).map eu = bs.map eu ++ [eu (jb 48)] := by rw [List.map_append]; rfl
    have hbl6 : (bs ++ [jb 48]).length = bs.length + 1 := by rw [List.length_append]; rfl
    rw [fZ,hbl5,hbl6]
    first | exact (((hs4.kill_free f3).set_free (hs4.free hk5)).set_free hb2).set_free f4 | exact ⟨rfl,(((hs4.kill_free f3).set_free (hs4.free hk5)).set_free hb2).set_free f4⟩
  · simp only [chM]
    obtain rfl : ms = [] := c6.resolve_left (by decide)
    simp (disch := omega) only [↓aI,↓zP,aD,zD,aS,simprocAttr,Tryz.facts,zA,hm,v2,v4,ah,aP,n24,n42]
    first | exact hs4.set_free f4 | exact (hs4.set_free hb2).set_free f4 | exact ⟨rfl,hs4.set_free f4⟩ | exact ⟨rfl,(hs4.set_free hb2).set_free f4⟩
  · simp only [chM]
    simp (disch := omega) only [↓aI,↓zP,aD,zD,aS,simprocAttr,Tryz.facts,zA,hm,v2,v4,ah,aP,n24,n42]
    first | exact hs4.set_free f4 | exact (hs4.set_free hb2).set_free f4 | exact ⟨rfl,hs4.set_free f4⟩ | exact ⟨rfl,(hs4.set_free hb2).set_free f4⟩
end Go.Proofs.YtjlnpngaiphnmaaGreat
end
section
set_option linter.unusedSimpArgs false
set_option linter.unusedVariables false
set_option maxRecDepth 20000
set_option maxHeartbeats 8000000
namespace Go.Abs
open Go Go.RowKit
theorem Frz.aggL {H H0 : AH} {l r : List AV} (h : FrzL H H0 l r) : Frz H H0 (.agg l) (.agg r) := by
  intro C u hc w hs hv
  obtain ⟨vs,rfl,hsz,h1,hv⟩ := hv.agg_inv
  obtain ⟨e1,e2⟩ := h.get
  refine .agg _ vs (by rw [hsz,e1]) h1 fun j hj => ?_
  have hj' : j < l.length := by omega
  exact e2 j hj' hj C _ hc w hs (hv j hj')
theorem FrzL.same' {H H0 : AH} : ∀ {l : List AV},FrzL H H0 l l
  | [] => trivial
  | _ :: _ => ⟨Frz.same,FrzL.same'⟩
theorem FrzL.at {H H0 : AH} {a b : AV} (h : Frz H H0 a b) : ∀ {l r : List AV},FrzL H H0 (l ++ a :: r) (l ++ b :: r)
  | [],_ => ⟨h,FrzL.same'⟩
  | _ :: _,_ => ⟨Frz.same,FrzL.at h⟩
end Go.Abs
namespace Go.Proofs.YtjlnpngaiphnmaaGreat
open Go Go.Abs Go.Proofs
theorem changed_mem (e : Ent) (how : UInt8) (he : OkE e) (hn : -1000000 ≤ e.n ∧ e.n ≤ 1000000) (c6 : how.toNat % 8 = 6) (cm : e.members ≠ []) : APure Tryz.prog 78 [.agg (fX e),.sc (.int .u8 how.toNat)] (.agg (fX (chE e how))) := by
  have hm : ((how.toNat : Nat) : Int).tmod 8 = ((how.toNat % 8 : Nat) : Int) := jd _ 8
  have hlt := Nat.mod_lt how.toNat (show 0 < 8 by omega)
  unfold chE
  rw [c6] at hm ⊢
  obtain ⟨hp,hml,hms,hel,hol,hbl,hbs,hsl⟩ := he
  obtain ⟨n,prev,ms,ns,once,bs,sig⟩ := e
  simp only [fX] at *
  have hmc : (ms.flatMap fL).length = ms.length * 3 := fF fU _
  have hbc : (bs.map eu).length = bs.length := List.length_map _
  obtain ⟨m0,ml,rfl⟩ : ∃ m l,ms = m :: l := by cases ms with | nil => exact absurd rfl cm | cons m l => exact ⟨m,l,rfl⟩
  obtain ⟨mi,mp,mg⟩ := m0
  simp only [chM,List.length_cons,List.flatMap_cons,fL] at *
  intro H
  suffices X : ACalls Tryz.prog 78 [.agg [.sc (.int .i64 n),eu prev,.imm 0 (.sc (.int .i64 mi) :: eu mp :: eu mg :: ml.flatMap fL) (ml.length + 1),fY ns,eu once,fZ bs,eu sig],.sc (.int .u8 how.toNat)] H (fun v H' => ∃ k,H k = none ∧ H' k = some (.cells (.sc (.int .i64 mi) :: eu mp :: eu (jb 32) :: ml.flatMap fL) 30 3) ∧ Abs.Sub H H' ∧ v = .agg [.sc (.int .i64 n),eu prev,.own k 0 (ml.length + 1),fY ns,eu once,fZ bs,eu sig]) by
    have hcl : (.sc (.int .i64 mi) :: eu mp :: eu (jb 32) :: ml.flatMap fL).length = (ml.length + 1) * 3 := by simp only [List.length_cons,fF fU]; omega
    refine X.freeze ?_
    rintro v H' ⟨k,fk,vk,hs,rfl⟩
    refine ⟨_,H,hs,Frz.aggL (FrzL.at (l := [.sc (.int .i64 n),eu prev]) (r := [fY ns,eu once,fZ bs,eu sig]) (Frz.own vk fk (by rw [hcl]; exact Nat.le_refl _))),?_,rfl⟩
    rw [List.take_of_length_le (by rw [hcl]; exact Nat.le_refl _)]
    rfl
  refine ao (c := ⟨Tryz.prog,74,[(15,[0,1,0,0,2,0,2]),(18,[0,1,0,0,0,2]),(4000007,[2,4]),(4000009,[2,4]),(4000011,[2,4]),(4000015,[2,4]),(4000018,[2,4]),(4000004,[1,2,4]),(4000003,[1,2,4]),(4000002,[1,2,4]),(4000001,[1,2,4])],[5,10,15,1000020,1000023,2000043,4000048,4000054,4000066,4000071],[]⟩) (rs := [ResultVar.cell 4 27]) Tryz.mixed Tryz.func78 rfl rfl rfl (Nat.le_of_ble_eq_true rfl) (by kernel_rfl) ?_
  simp (disch := omega) only [↓aI,↓zP,aD,zD,aS,simprocAttr,Tryz.facts,zA,hm]
  intro b2 hb20 hb2 b4 hb40 hb4
  have n24 := bK hb4
  have n42 : ¬ b4 = b2 := fun e => n24 e.symm
  have f4 := am hb4
  obtain ⟨E0,hE0⟩ : ∃ E,E = (H.set b2 (.cells [.sc (.int .i64 n),eu prev,(.imm 0 (.sc (.int .i64 mi) :: eu mp :: eu mg :: ml.flatMap fL) (ml.length + 1)),fY ns,eu once,fZ bs,eu sig] 27 7)).set b4 (.cells [.sc (.int .i64 0),.sc (.slice none 0 0),.sc (.slice none 0 0),.sc (.slice none 0 0),.sc (.slice none 0 0),.sc (.slice none 0 0),.sc (.slice none 0 0)] 27 7) := ⟨_,rfl⟩
  have hs0 : Abs.Sub H E0 := by rw [hE0]; exact ((Abs.Sub.refl H).set_free hb2).set_free f4
  have v2 : E0 b2 = some (.cells [.sc (.int .i64 n),eu prev,(.imm 0 (.sc (.int .i64 mi) :: eu mp :: eu mg :: ml.flatMap fL) (ml.length + 1)),fY ns,eu once,fZ bs,eu sig] 27 7) := by rw [hE0,aP n24,set_get]
  have v4 : E0 b4 = some (.cells [.sc (.int .i64 0),.sc (.slice none 0 0),.sc (.slice none 0 0),.sc (.slice none 0 0),.sc (.slice none 0 0),.sc (.slice none 0 0),.sc (.slice none 0 0)] 27 7) := by rw [hE0,set_get]
  rw [← hE0]
  clear hE0
  intro t1 ht10 ht1
  have nt1 := bA v2 ht1
  try simp (disch := omega) only [↓aI,↓zP,aD,zD,aS,simprocAttr,Tryz.facts,zA,v2,aP nt1,aj ht1,hmc,hbc]
  intro k1 o1 hk10 hk1 ho1
  have hk1 := am hk1
  have nk1 := bA v2 hk1
  try simp (disch := omega) only [↓aI,↓zP,aD,zD,aS,simprocAttr,Tryz.facts,zA,v2,aP nt1,aP nk1,aj ht1,ah]
  obtain ⟨E1,hE1⟩ : ∃ E,E = (E0.set k1 o1).set b2 (.cells [.sc (.int .i64 n),eu prev,(.imm 0 (.sc (.int .i64 mi) :: eu mp :: eu mg :: ml.flatMap fL) (ml.length + 1)),fY ns,eu once,fZ bs,.imm k1 (bw sig) sig.length] 27 7) := ⟨_,rfl⟩
  have hs1 : Abs.Sub H E1 := by rw [hE1]; exact (hs0.set_free (hs0.free hk1)).set_free hb2
  have v4 : E1 b4 = some (.cells [.sc (.int .i64 0),.sc (.slice none 0 0),.sc (.slice none 0 0),.sc (.slice none 0 0),.sc (.slice none 0 0),.sc (.slice none 0 0),.sc (.slice none 0 0)] 27 7) := by rw [hE1,aP (fun e => n24 e.symm),aP (bA v4 hk1)]; exact v4
  have v2 : E1 b2 = some (.cells [.sc (.int .i64 n),eu prev,(.imm 0 (.sc (.int .i64 mi) :: eu mp :: eu mg :: ml.flatMap fL) (ml.length + 1)),fY ns,eu once,fZ bs,.imm k1 (bw sig) sig.length] 27 7) := by rw [hE1,set_get]
  rw [← hE1]
  clear hE1
  intro t2 ht20 ht2
  have nt2 := bA v2 ht2
  try simp (disch := omega) only [↓aI,↓zP,aD,zD,aS,simprocAttr,Tryz.facts,zA,v2,aP nt2,aj ht2,hmc,hbc]
  intro k2 o2 hk20 hk2 ho2
  have hk2 := am hk2
  have nk2 := bA v2 hk2
  try simp (disch := omega) only [↓aI,↓zP,aD,zD,aS,simprocAttr,Tryz.facts,zA,v2,aP nt2,aP nk2,aj ht2,ah]
  obtain ⟨E2,hE2⟩ : ∃ E,E = (E1.set k2 o2).set b2 (.cells [.sc (.int .i64 n),.imm k2 (bw prev) prev.length,(.imm 0 (.sc (.int .i64 mi) :: eu mp :: eu mg :: ml.flatMap fL) (ml.length + 1)),fY ns,eu once,fZ bs,.imm k1 (bw sig) sig.length] 27 7) := ⟨_,rfl⟩
  have hs2 : Abs.Sub H E2 := by rw [hE2]; exact (hs1.set_free (hs1.free hk2)).set_free hb2
  have v4 : E2 b4 = some (.cells [.sc (.int .i64 0),.sc (.slice none 0 0),.sc (.slice none 0 0),.sc (.slice none 0 0),.sc (.slice none 0 0),.sc (.slice none 0 0),.sc (.slice none 0 0)] 27 7) := by rw [hE2,aP (fun e => n24 e.symm),aP (bA v4 hk2)]; exact v4
  have v2 : E2 b2 = some (.cells [.sc (.int .i64 n),.imm k2 (bw prev) prev.length,(.imm 0 (.sc (.int .i64 mi) :: eu mp :: eu mg :: ml.flatMap fL) (ml.length + 1)),fY ns,eu once,fZ bs,.imm k1 (bw sig) sig.length] 27 7) := by rw [hE2,set_get]
  rw [← hE2]
  clear hE2
  intro t3 ht30 ht3
  have nt3 := bA v2 ht3
  try simp (disch := omega) only [↓aI,↓zP,aD,zD,aS,simprocAttr,Tryz.facts,zA,v2,aP nt3,aj ht3,hmc,hbc]
  intro k3 o3 hk30 hk3 ho3
  have hk3 := am hk3
  have nk3 := bA v2 hk3
  have nj3 := bA v4 hk3
  have f3 := hs2.free hk3
  try simp (disch := omega) only [↓aI,↓zP,aD,zD,aS,simprocAttr,Tryz.facts,zA,v2,aP nt3,aP nk3,aj ht3,ah]
  obtain ⟨E3,hE3⟩ : ∃ E,E = (E2.set k3 o3).set b2 (.cells [.sc (.int .i64 n),.imm k2 (bw prev) prev.length,(.imm 0 (.sc (.int .i64 mi) :: eu mp :: eu mg :: ml.flatMap fL) (ml.length + 1)),fY ns,eu once,.imm k3 (bs.map eu) bs.length,.imm k1 (bw sig) sig.length] 27 7) := ⟨_,rfl⟩
  have hs3 : Abs.Sub H E3 := by rw [hE3]; exact (hs2.set_free (hs2.free hk3)).set_free hb2
  have v4 : E3 b4 = some (.cells [.sc (.int .i64 0),.sc (.slice none 0 0),.sc (.slice none 0 0),.sc (.slice none 0 0),.sc (.slice none 0 0),.sc (.slice none 0 0),.sc (.slice none 0 0)] 27 7) := by rw [hE3,aP (fun e => n24 e.symm),aP (bA v4 hk3)]; exact v4
  have v2 : E3 b2 = some (.cells [.sc (.int .i64 n),.imm k2 (bw prev) prev.length,(.imm 0 (.sc (.int .i64 mi) :: eu mp :: eu mg :: ml.flatMap fL) (ml.length + 1)),fY ns,eu once,.imm k3 (bs.map eu) bs.length,.imm k1 (bw sig) sig.length] 27 7) := by rw [hE3,set_get]
  have w3 : E3 k3 = some o3 := by rw [hE3,aP (fun e => nk3 e.symm),set_get]
  rw [← hE3]
  clear hE3
  have hmc3 : (AV.sc (.int .i64 mi) :: eu mp :: eu mg :: ml.flatMap fL).length = (ml.length + 1) * 3 := by simp only [List.length_cons,fF fU]; omega
  intro t4 ht40 ht4
  have nt4 := bA v2 ht4
  try simp (disch := omega) only [↓aI,↓zP,aD,zD,aS,simprocAttr,Tryz.facts,zA,v2,aP nt4,aj ht4,hmc3,fF fU,set_get]
  intro k4 hk4
  have hk4 : E3 k4 = none := by
    rcases hk4 with rfl | ⟨_,h⟩
    · exact ht4
    · exact am h
  have nk4 := bA v2 hk4
  try simp (disch := omega) only [↓aI,↓zP,aD,zD,aS,simprocAttr,Tryz.facts,zA,v2,aP nt4,aP nk4,aj ht4,ah,set_get]
  obtain ⟨E4,hE4⟩ : ∃ E,E = (E3.set k4 (.cells (.sc (.int .i64 mi) :: eu mp :: eu mg :: ml.flatMap fL) 30 3)).set b2 (.cells [.sc (.int .i64 n),.imm k2 (bw prev) prev.length,.own k4 0 (ml.length + 1),fY ns,eu once,.imm k3 (bs.map eu) bs.length,.imm k1 (bw sig) sig.length] 27 7) := ⟨_,rfl⟩
  have hs4 : Abs.Sub H E4 := by rw [hE4]; exact (hs3.set_free (hs3.free hk4)).set_free hb2
  have f4k := hs3.free hk4
  have nj4 := bA v4 hk4
  have v4 : E4 b4 = some (.cells [.sc (.int .i64 0),.sc (.slice none 0 0),.sc (.slice none 0 0),.sc (.slice none 0 0),.sc (.slice none 0 0),.sc (.slice none 0 0),.sc (.slice none 0 0)] 27 7) := by rw [hE4,aP (fun e => n24 e.symm),aP nj4]; exact v4
  have vk : E4 k4 = some (.cells (.sc (.int .i64 mi) :: eu mp :: eu mg :: ml.flatMap fL) 30 3) := by rw [hE4,aP (fun e => nk4 e.symm),set_get]
  have v2 : E4 b2 = some (.cells [.sc (.int .i64 n),.imm k2 (bw prev) prev.length,.own k4 0 (ml.length + 1),fY ns,eu once,.imm k3 (bs.map eu) bs.length,.imm k1 (bw sig) sig.length] 27 7) := by rw [hE4,set_get]
  rw [← hE4]
  clear hE4
  have n4k : ¬ k4 = b4 := fun e => nj4 e.symm
  have n2k : ¬ k4 = b2 := fun e => nk4 e.symm
  have hml0 : (0 : Int) < (ml.length : Int) + 1 := by omega
  simp (disch := omega) only [↓aI,↓zP,aD,zD,aS,simprocAttr,Tryz.facts,zA,hm,v2,v4,vk,hml0,aP,nk4,nj4,n4k,n2k,n24,ah]
  exact ⟨_,rfl,_,Abs.Sub.refl _,k4,f4k,by rw [aP n4k,set_get]; rfl,(hs4.set_free f4k).set_free f4,rfl⟩
theorem changed_pure (e : Ent) (how : UInt8) (he : OkE e) (hn : -1000000 ≤ e.n ∧ e.n ≤ 1000000) : APure Tryz.prog 78 [.agg (fX e),.sc (.int .u8 how.toNat)] (.agg (fX (chE e how))) := by
  by_cases c6 : how.toNat % 8 = 6 ∧ e.members ≠ []
  · exact changed_mem e how he hn c6.1 c6.2
  · refine changed_plain e how he hn ?_
    by_cases h : how.toNat % 8 = 6
    · exact .inr (Classical.byContradiction fun hh => c6 ⟨h,hh⟩)
    · exact .inl h
theorem chE_ok {e : Ent} (how : UInt8) (h : gK e = true) : OkE (chE e how) := by
  obtain ⟨h1,h2,h3,h4,h5,h6,h7,h8⟩ := fy h
  obtain ⟨p1,p2,p3,p4,p5,p6⟩ := gH h4
  have hp := prev_le h3
  obtain ⟨q1,q2,q3,q4,q5,q6,q7,q8⟩ := right_ok h
  have z := zeroB_len
  unfold chE chM
  split
  · exact ⟨q1,q2,q3,q4,q5,q6,q7,q8⟩
  · exact ⟨q1,q2,q3,q4,q5,q6,q7,q8⟩
  · exact ⟨q1,q2,q3,q4,q5,q6,q7,by show (jb 64).length ≤ _; rw [z]; omega⟩
  · exact ⟨by show (jb 32).length ≤ _; rw [z]; omega,q2,q3,q4,q5,q6,q7,q8⟩
  · refine ⟨q1,q2,q3,q4,q5,?_,fun b hb => ?_,q8⟩
    · show (e.boxes ++ [_]).length ≤ _
      rw [List.length_append,List.length_singleton]; omega
    · rcases List.mem_append.1 hb with hb | hb
      · exact q7 b hb
      · rw [List.mem_singleton.1 hb,z]; omega
  · cases hm : e.members with
    | nil => exact ⟨q1,by simp,fun m hm => by simp at hm,q4,q5,q6,q7,q8⟩
    | cons m l =>
      rw [hm] at q2 q3
      refine ⟨q1,q2,fun x hx => ?_,q4,q5,q6,q7,q8⟩
      rcases List.mem_cons.1 hx with rfl | hx
      · exact ⟨(q3 m List.mem_cons_self).1,by show (jb 32).length ≤ _; rw [z]; omega⟩
      · exact q3 x (List.mem_cons_of_mem _ hx)
  · exact ⟨q1,q2,q3,q4,by show (jb 32).length ≤ _; rw [z]; omega,q6,q7,q8⟩
  · exact ⟨q1,q2,q3,q4,q5,q6,q7,q8⟩
end Go.Proofs.YtjlnpngaiphnmaaGreat
end
