/-
  The walks of the suite layer: what is opened, what two share.
  Conditions: none. Lemmas only.
-/
import Derived.Test.YtaehlpkinbpmbaaSuiI
set_option linter.all false
set_option linter.unusedSimpArgs false
set_option linter.unusedVariables false
set_option maxRecDepth 20000
namespace Go.Proofs.Ytaehlpkinbpmbaa
open Go Go.Abs Go.Proofs

def opT (ts : List Term) (key : List UInt8) (n : Nat) (o b : List UInt8) : Bool :=
  (findT ts b 98).2 && (partT (findT ts b 98).1 0 == key) && (partT (findT ts b 98).1 1 == lowL 8 n) && (partT (findT ts b 98).1 2 == o)
def OpenR (H : AH) (ts : List Term) (key : List UInt8) (n : Nat) (o b : List UInt8) (v : AV) (H' : AH) : Prop :=
  (opT ts key n o b = false ∧ v = .tup [.imm 0 [] 0,.sc (.int .i64 9)] ∧ H' = H) ∨
  (opT ts key n o b = true ∧ ∃ r,OwnB (partT (findT ts b 98).1 3) H r H' ∧ v = .tup [r,.sc (.int .i64 0)])
theorem open_live (H : AH) (h m k d : Nat) (ts : List Term) (key : List UInt8) (n : Nat) (o b : List UInt8) (h32 : key.length = 32) (hn : n < 9223372036854775808) (h1 : b.length ≤ 140737488355328) (hts : ∀ x ∈ ts, wfT x) (hl : ts.length ≤ 1000000) (g : IsI H h m k d ts) :
    ACalls Try.prog 109 [.ptr h 0,bytesV key,.sc (.int .i64 n),bytesV o,bytesV b] H (OpenR H ts key n o b) := by
  have hm := made_live H h m k d ts g
  have f1 := find_live H h m k d ts b 98 h1 (fun x hx => (hts x hx).1) hl g
  have e1 : (findT ts b 98).2 = true → 4 ≤ (findT ts b 98).1.parts.length := fun h => (hts _ (findT_mem h).1).1.1 (findT_mem h).2
  have e2 : (findT ts b 98).2 = true → (partT (findT ts b 98).1 3).length ≤ 1000000000000 := fun h => by
    have h4 := e1 h
    have := (hts _ (findT_mem h).1).1.2.2
    have e : partT (findT ts b 98).1 3 = (findT ts b 98).1.parts[3] := by simp [partT,List.getD,show 3 < (findT ts b 98).1.parts.length by omega]
    have := flat_mem (List.getElem_mem (show 3 < (findT ts b 98).1.parts.length by omega))
    rw [e]; omega
  have hb1 := beq_pure (partT (findT ts b 98).1 0) key
  have hb2 := beq_pure (partT (findT ts b 98).1 1) (lowL 8 n)
  have hb3 := beq_pure (partT (findT ts b 98).1 2) o
  have he := eight_pure n hn
  have k98 : ((98 : UInt8).toNat : Int) = 98 := rfl
  have hneg : decide ((n : Int) < 0) = false := by simp
  have hb : ((key.length : Int) != 32) = false := by simp [h32]
  have hB : opT ts key n o b = ((findT ts b 98).2 && (partT (findT ts b 98).1 0 == key) && (partT (findT ts b 98).1 1 == lowL 8 n) && (partT (findT ts b 98).1 2 == o)) := rfl
  unfold OpenR
  generalize opT ts key n o b = B at *
  have pg1 := fun j (h : j < (findT ts b 98).1.parts.length) => part_get h
  rw [k98] at f1
  generalize findT ts b 98 = x at *
  generalize lowL 8 n = E at *
  obtain ⟨x,okx⟩ := x
  simp only [] at *
  obtain ⟨k0,hi,hmm,ot,hk,ho⟩ := id g
  refine ao (c := ⟨Try.prog,70,[(4,[0,0,0,0,1,0,1,0,0,0,0,0,0,1,0,1,0,0,0,0,0,0,0,1,0,1,0,0,0,0]),(1000003,[12]),(4000006,[10,11]),(4000004,[12,63]),(4000003,[1,2,3,12,13]),(4000001,[0,1,2,3,4,25])],[1000064,1000069],[]⟩) (rs := [ResultVar.tmp 10,ResultVar.tmp 11]) Try.mixed Try.func109 rfl rfl rfl (Nat.le_of_ble_eq_true rfl) (by kernel_rfl) ?_
  simp (disch := omega) only [↓aI,↓zP,aD,zD,aS,simprocAttr,Try.facts]
  refine CallK.i hm ?_
  rintro v H1 ⟨rfl,rfl⟩
  simp (disch := omega) only [↓aI,↓zP,aD,zD,aS,simprocAttr,Try.facts,hb,hneg]
  refine CallK.i f1 ?_
  rintro v H2 ⟨rfl,rfl⟩
  simp (disch := omega) only [↓aI,↓zP,aD,zD,aS,simprocAttr,Try.facts]
  intro b1 hb10 hb1f
  cases okx with
  | false =>
    simp (disch := omega) only [↓aI,↓zP,aD,zD,aS,simprocAttr,Try.facts,ah,aj hb1f]
    exact ⟨_,rfl,_,Abs.Sub.refl _,.inl ⟨by rw [hB]; simp_all,rfl,rfl⟩⟩
  | true =>
    have l1 := e1 rfl
    have l2 := e2 rfl
    have p0 := pg1 0 (by omega)
    have p1 := pg1 1 (by omega)
    have p2 := pg1 2 (by omega)
    have p3 := pg1 3 (by omega)
    simp (disch := omega) only [↓aI,↓zP,aD,zD,aS,simprocAttr,Try.facts,ah,aj hb1f,p0]
    first | refine CallK.p (hb1) ?_ | refine CallP.i (hb1) ?_
    simp (disch := omega) only [↓aI,↓zP,aD,zD,aS,simprocAttr,Try.facts,ah,aj hb1f,p0,p1]
    cases hq : partT x 0 == key with
    | false =>
      simp (disch := omega) only [↓aI,↓zP,aD,zD,aS,simprocAttr,Try.facts,ah,aj hb1f]
      exact ⟨_,rfl,_,Abs.Sub.refl _,.inl ⟨by rw [hB]; simp_all,rfl,rfl⟩⟩
    | true =>
      simp (disch := omega) only [↓aI,↓zP,aD,zD,aS,simprocAttr,Try.facts,ah,aj hb1f,p1]
      first | refine CallK.p (he) ?_ | refine CallP.i (he) ?_
      simp (disch := omega) only [↓aI,↓zP,aD,zD,aS,simprocAttr,Try.facts,ah,aj hb1f]
      first | refine CallK.p (hb2) ?_ | refine CallP.i (hb2) ?_
      simp (disch := omega) only [↓aI,↓zP,aD,zD,aS,simprocAttr,Try.facts,ah,aj hb1f]
      cases hq2 : partT x 1 == E with
      | false =>
        simp (disch := omega) only [↓aI,↓zP,aD,zD,aS,simprocAttr,Try.facts,ah,aj hb1f]
        exact ⟨_,rfl,_,Abs.Sub.refl _,.inl ⟨by rw [hB]; simp_all,rfl,rfl⟩⟩
      | true =>
        simp (disch := omega) only [↓aI,↓zP,aD,zD,aS,simprocAttr,Try.facts,ah,aj hb1f,p2]
        first | refine CallK.p (hb3) ?_ | refine CallP.i (hb3) ?_
        simp (disch := omega) only [↓aI,↓zP,aD,zD,aS,simprocAttr,Try.facts,ah,aj hb1f]
        cases hq3 : partT x 2 == o with
        | false =>
          simp (disch := omega) only [↓aI,↓zP,aD,zD,aS,simprocAttr,Try.facts,ah,aj hb1f]
          exact ⟨_,rfl,_,Abs.Sub.refl _,.inl ⟨by rw [hB]; simp_all,rfl,rfl⟩⟩
        | true =>
          simp (disch := omega) only [↓aI,↓zP,aD,zD,aS,simprocAttr,Try.facts,ah,aj hb1f,p3]
          intro k1 hk10 hk1 k2 hk2
          obtain ⟨hk20,hk2⟩ := own_next hk10 hk1 hk2
          refine ⟨_,rfl,_,Abs.Sub.refl _,.inr ⟨by rw [hB]; simp_all,_,⟨k2,hk20,hk2,rfl,?_⟩,rfl⟩⟩
          exact set_new_set hk1

def shT (s p : List UInt8) : Term := ⟨100,if 0 < Lib.compareBytes s p then [p,s] else [s,p]⟩
theorem cmp_pure (a b : List UInt8) : APure Try.prog 117 [bytesV a,bytesV b] (.sc (.int .i64 (Lib.compareBytes a b))) := by
  have he := ext_compare (P := Try.prog) (f := 118) Try.func118 (by kernel_rfl) (by kernel_rfl) (by kernel_rfl) (by kernel_rfl) a b
  refine az (c := ⟨Try.prog,8,[],[],[]⟩) (rs := [ResultVar.tmp 4]) Try.mixed Try.func117 rfl rfl rfl (Nat.le_of_ble_eq_true rfl) (by kernel_rfl) fun H => ?_
  simp (disch := omega) only [↓aI,↓zP,aD,zD,aS,simprocAttr,Try.facts]
  first | refine CallK.p (he) ?_ | refine CallP.i (he) ?_
  simp (disch := omega) only [↓aI,↓zP,aD,zD,aS,simprocAttr,Try.facts]
  exact Abs.Sub.refl _
def ShR (H : AH) (h m k d : Nat) (ts : List Term) (s p : List UInt8) (v : AV) (H' : AH) : Prop :=
  (s.length ≠ 32 ∧ v = .tup [.imm 0 [] 0,.sc (.int .i64 1)] ∧ H' = H) ∨
  (s.length = 32 ∧ (findT ts p 112).2 = false ∧ v = .tup [.imm 0 [] 0,.sc (.int .i64 8)] ∧ H' = H) ∨
  (s.length = 32 ∧ (findT ts p 112).2 = true ∧ ∃ r,NameR H h m k d ts (shT s (partT (findT ts p 112).1 0)) r H' ∧ v = .tup [r,.sc (.int .i64 0)])
theorem shared_live (H : AH) (h m k d : Nat) (ts : List Term) (s p : List UInt8) (h1 : p.length ≤ 140737488355328) (hp : ∀ x ∈ ts, x.kind = 112 → (partT x 0).length ≤ 1000000) (hts : ∀ x ∈ ts, wfT x) (hl : ts.length ≤ 1000000) (g : IsI H h m k d ts) :
    ACalls Try.prog 112 [.ptr h 0,bytesV s,bytesV p] H (ShR H h m k d ts s p) := by
  have hm := made_live H h m k d ts g
  have f1 := find_live H h m k d ts p 112 h1 (fun x hx => (hts x hx).1) hl g
  have e1 : (findT ts p 112).2 = true → 1 ≤ (findT ts p 112).1.parts.length := fun h => (hts _ (findT_mem h).1).2.2.2 (findT_mem h).2
  have e2 : (findT ts p 112).2 = true → (partT (findT ts p 112).1 0).length ≤ 1000000 := fun h => hp _ (findT_mem h).1 (findT_mem h).2
  have hc := cmp_pure s (partT (findT ts p 112).1 0)
  have hn : ∀ t,okT t → ∀ H,IsI H h m k d ts → _ := fun t ht H g => name_live H h m k d ts t ht (fun x hx => (hts x hx).1) hl g
  have pg1 := fun j (h : j < (findT ts p 112).1.parts.length) => part_get h
  have k112 : ((112 : UInt8).toNat : Int) = 112 := rfl
  have k100 : ((100 : UInt8).toNat : Int) = 100 := rfl
  obtain ⟨R,hRd⟩ : ∃ R,R = ShR H h m k d ts s p := ⟨_,rfl⟩
  rw [← hRd]
  have hR : ∀ v H',R v H' = ShR H h m k d ts s p v H' := fun v H' => by rw [hRd]
  clear hRd
  simp only [ShR] at hR
  rw [k112] at f1
  generalize findT ts p 112 = x at *
  obtain ⟨x,okx⟩ := x
  simp only [] at e1 e2 hc pg1 f1 hR ⊢
  generalize hP : partT x 0 = P at *
  generalize hC : Lib.compareBytes s P = C at *
  obtain ⟨k0,hi,hmm,ot,hk,ho⟩ := id g
  refine ao (c := ⟨Try.prog,46,[(6,[0,0,1,0,1,0,0]),(1000003,[8])],[],[]⟩) (rs := [ResultVar.tmp 6,ResultVar.tmp 7]) Try.mixed Try.func112 rfl rfl rfl (Nat.le_of_ble_eq_true rfl) (by kernel_rfl) ?_
  simp (disch := omega) only [↓aI,↓zP,aD,zD,aS,simprocAttr,Try.facts]
  refine CallK.i hm ?_
  rintro v H1 ⟨rfl,rfl⟩
  by_cases h32 : s.length = 32
  · have hb : ((s.length : Int) != 32) = false := by simp [h32]
    simp (disch := omega) only [↓aI,↓zP,aD,zD,aS,simprocAttr,Try.facts,hb]
    refine CallK.i f1 ?_
    rintro v H2 ⟨rfl,rfl⟩
    simp (disch := omega) only [↓aI,↓zP,aD,zD,aS,simprocAttr,Try.facts]
    intro b1 hb10 hb1f
    cases okx with
    | false =>
      simp (disch := omega) only [↓aI,↓zP,aD,zD,aS,simprocAttr,Try.facts,ah,aj hb1f]
      exact ⟨_,rfl,_,Abs.Sub.refl _,by rw [hR]; exact .inr (.inl ⟨h32,rfl,rfl,rfl⟩)⟩
    | true =>
      have l1 := e1 rfl
      have l2 := e2 rfl
      have p0 := pg1 0 (by omega)
      rw [hP] at p0
      simp (disch := omega) only [↓aI,↓zP,aD,zD,aS,simprocAttr,Try.facts,ah,aj hb1f,p0]
      first | refine CallK.p (hc) ?_ | refine CallP.i (hc) ?_
      simp (disch := omega) only [↓aI,↓zP,aD,zD,aS,simprocAttr,Try.facts,ah,aj hb1f,p0]
      by_cases hgt : 0 < C
      · have hd : decide (0 < C) = true := by simpa using hgt
        have hsh : shT s P = ⟨100,[P,s]⟩ := by rw [shT,hC,if_pos hgt]
        have hN := hn ⟨100,[P,s]⟩ ⟨fun h => absurd h (by simp),by simp,by simp; omega⟩ H2 g
        simp (disch := omega) only [↓aI,↓zP,aD,zD,aS,simprocAttr,Try.facts,hd,ah,aj hb1f]
        refine CallK.i hN ?_
        rintro v H3 ⟨H4,hs,kk,hkk0,hkk,rfl,rfl⟩
        simp (disch := omega) only [↓aI,↓zP,aD,zD,aS,simprocAttr,Try.facts]
        exact ⟨_,rfl,_,Abs.Sub.refl _,by rw [hR]; exact .inr (.inr ⟨h32,rfl,_,by rw [hsh]; exact ⟨H4,hs,kk,hkk0,hkk,rfl,rfl⟩,rfl⟩)⟩
      · have hd : decide (0 < C) = false := by simpa using hgt
        have hsh : shT s P = ⟨100,[s,P]⟩ := by rw [shT,hC,if_neg hgt]
        have hN := hn ⟨100,[s,P]⟩ ⟨fun h => absurd h (by simp),by simp,by simp; omega⟩ H2 g
        simp (disch := omega) only [↓aI,↓zP,aD,zD,aS,simprocAttr,Try.facts,hd,ah,aj hb1f]
        refine CallK.i hN ?_
        rintro v H3 ⟨H4,hs,kk,hkk0,hkk,rfl,rfl⟩
        simp (disch := omega) only [↓aI,↓zP,aD,zD,aS,simprocAttr,Try.facts]
        exact ⟨_,rfl,_,Abs.Sub.refl _,by rw [hR]; exact .inr (.inr ⟨h32,rfl,_,by rw [hsh]; exact ⟨H4,hs,kk,hkk0,hkk,rfl,rfl⟩,rfl⟩)⟩
  · have hb : ((s.length : Int) != 32) = true := by simp; omega
    simp (disch := omega) only [↓aI,↓zP,aD,zD,aS,simprocAttr,Try.facts,hb]
    exact ⟨_,rfl,_,Abs.Sub.refl _,by rw [hR]; exact .inl ⟨h32,rfl,rfl⟩⟩

theorem len_live (H : AH) (h m k d : Nat) (ts : List Term) (g : IsI H h m k d ts) : ACalls Try.prog 31 [.ptr h 0] H fun v H' => v = .sc (.int .i64 ts.length) ∧ H' = H := by
  have hm := made_live H h m k d ts g
  obtain ⟨k0,hi,hmm,ot,hk,ho⟩ := id g
  refine ao (c := ⟨Try.prog,12,[],[],[]⟩) (rs := [ResultVar.tmp 2]) Try.mixed Try.func31 rfl rfl rfl (Nat.le_of_ble_eq_true rfl) (by kernel_rfl) ?_
  simp (disch := omega) only [↓aI,↓zP,aD,zD,aS,simprocAttr,Try.facts]
  refine CallK.i hm ?_
  rintro v H1 ⟨rfl,rfl⟩
  simp (disch := omega) only [↓aI,↓zP,aD,zD,aS,simprocAttr,Try.facts,hi]
  exact ⟨_,rfl,_,Abs.Sub.refl _,rfl,rfl⟩
end Go.Proofs.Ytaehlpkinbpmbaa
