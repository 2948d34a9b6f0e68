/-
  The walks of the suite layer: what an ideal suite is asked, where it names the answer.
  Conditions: none. Lemmas only.
-/
import Derived.Test.YtaehlpkinbpmbaaSuiE
set_option linter.all false
set_option linter.unusedSimpArgs false
set_option linter.unusedVariables false
set_option maxRecDepth 20000
namespace Go.Proofs.Ytaehlpkinbpmbaa
open Go Go.Abs Go.Proofs

theorem public_live (H : AH) (h m k d : Nat) (ts : List Term) (a : List UInt8) (ht : okT ⟨112,[a]⟩) (hts : ∀ x ∈ ts,okT x) (hl : ts.length ≤ 1000000) (g : IsI H h m k d ts) : ACalls Try.prog 110 [.ptr h 0,bytesV a] H (NamedR H h m k d ts ⟨112,[a]⟩) := by
  have hn := named_live H h m k d ts ⟨112,[a]⟩ ht (by simp) hts hl g
  have hk : ((112 : UInt8).toNat : Int) = 112 := rfl
  refine ao (c := ⟨Try.prog,9,[],[],[]⟩) (rs := [ResultVar.tmp 4]) Try.mixed Try.func110 rfl rfl rfl (Nat.le_of_ble_eq_true rfl) (by kernel_rfl) ?_
  simp (disch := omega) only [↓aI,↓zP,aD,zD,aS,simprocAttr,Try.facts]
  refine CallK.i hn ?_
  rintro v H2 (⟨h32,H3,hs,kk,hkk0,hkk,rfl,rfl⟩ | ⟨h32,rfl,rfl⟩)
  · simp (disch := omega) only [↓aI,↓zP,aD,zD,aS,simprocAttr,Try.facts]
    exact ⟨_,rfl,_,Abs.Sub.refl _,.inl ⟨h32,H3,hs,kk,hkk0,hkk,rfl,rfl⟩⟩
  · simp (disch := omega) only [↓aI,↓zP,aD,zD,aS,simprocAttr,Try.facts]
    exact ⟨_,rfl,_,Abs.Sub.refl _,.inr ⟨h32,rfl,rfl⟩⟩

theorem derive_live (H : AH) (h m k d : Nat) (ts : List Term) (a b : List UInt8) (ht : okT ⟨107,[a,b]⟩) (hts : ∀ x ∈ ts,okT x) (hl : ts.length ≤ 1000000) (g : IsI H h m k d ts) : ACalls Try.prog 108 [.ptr h 0,bytesV a,bytesV b] H (NamedR H h m k d ts ⟨107,[a,b]⟩) := by
  have hn := named_live H h m k d ts ⟨107,[a,b]⟩ ht (by simp) hts hl g
  have hk : ((107 : UInt8).toNat : Int) = 107 := rfl
  refine ao (c := ⟨Try.prog,12,[],[],[]⟩) (rs := [ResultVar.tmp 6]) Try.mixed Try.func108 rfl rfl rfl (Nat.le_of_ble_eq_true rfl) (by kernel_rfl) ?_
  simp (disch := omega) only [↓aI,↓zP,aD,zD,aS,simprocAttr,Try.facts]
  refine CallK.i hn ?_
  rintro v H2 (⟨h32,H3,hs,kk,hkk0,hkk,rfl,rfl⟩ | ⟨h32,rfl,rfl⟩)
  · simp (disch := omega) only [↓aI,↓zP,aD,zD,aS,simprocAttr,Try.facts]
    exact ⟨_,rfl,_,Abs.Sub.refl _,.inl ⟨h32,H3,hs,kk,hkk0,hkk,rfl,rfl⟩⟩
  · simp (disch := omega) only [↓aI,↓zP,aD,zD,aS,simprocAttr,Try.facts]
    exact ⟨_,rfl,_,Abs.Sub.refl _,.inr ⟨h32,rfl,rfl⟩⟩

theorem signer_live (H : AH) (h m k d : Nat) (ts : List Term) (a : List UInt8) (ht : okT ⟨118,[a]⟩) (hts : ∀ x ∈ ts,okT x) (hl : ts.length ≤ 1000000) (g : IsI H h m k d ts) : ACalls Try.prog 17 [.ptr h 0,bytesV a] H (NamedR H h m k d ts ⟨118,[a]⟩) := by
  have hn := named_live H h m k d ts ⟨118,[a]⟩ ht (by simp) hts hl g
  have hk : ((118 : UInt8).toNat : Int) = 118 := rfl
  refine ao (c := ⟨Try.prog,9,[],[],[]⟩) (rs := [ResultVar.tmp 4]) Try.mixed Try.func17 rfl rfl rfl (Nat.le_of_ble_eq_true rfl) (by kernel_rfl) ?_
  simp (disch := omega) only [↓aI,↓zP,aD,zD,aS,simprocAttr,Try.facts]
  refine CallK.i hn ?_
  rintro v H2 (⟨h32,H3,hs,kk,hkk0,hkk,rfl,rfl⟩ | ⟨h32,rfl,rfl⟩)
  · simp (disch := omega) only [↓aI,↓zP,aD,zD,aS,simprocAttr,Try.facts]
    exact ⟨_,rfl,_,Abs.Sub.refl _,.inl ⟨h32,H3,hs,kk,hkk0,hkk,rfl,rfl⟩⟩
  · simp (disch := omega) only [↓aI,↓zP,aD,zD,aS,simprocAttr,Try.facts]
    exact ⟨_,rfl,_,Abs.Sub.refl _,.inr ⟨h32,rfl,rfl⟩⟩

theorem sign_live (H : AH) (h m k d : Nat) (ts : List Term) (a b : List UInt8) (ht : okT ⟨103,[a,b]⟩) (hts : ∀ x ∈ ts,okT x) (hl : ts.length ≤ 1000000) (g : IsI H h m k d ts) : ACalls Try.prog 113 [.ptr h 0,bytesV a,bytesV b] H (NamedR H h m k d ts ⟨103,[a,b]⟩) := by
  have hn := named_live H h m k d ts ⟨103,[a,b]⟩ ht (by simp) hts hl g
  have hk : ((103 : UInt8).toNat : Int) = 103 := rfl
  refine ao (c := ⟨Try.prog,12,[],[],[]⟩) (rs := [ResultVar.tmp 6]) Try.mixed Try.func113 rfl rfl rfl (Nat.le_of_ble_eq_true rfl) (by kernel_rfl) ?_
  simp (disch := omega) only [↓aI,↓zP,aD,zD,aS,simprocAttr,Try.facts]
  refine CallK.i hn ?_
  rintro v H2 (⟨h32,H3,hs,kk,hkk0,hkk,rfl,rfl⟩ | ⟨h32,rfl,rfl⟩)
  · simp (disch := omega) only [↓aI,↓zP,aD,zD,aS,simprocAttr,Try.facts]
    exact ⟨_,rfl,_,Abs.Sub.refl _,.inl ⟨h32,H3,hs,kk,hkk0,hkk,rfl,rfl⟩⟩
  · simp (disch := omega) only [↓aI,↓zP,aD,zD,aS,simprocAttr,Try.facts]
    exact ⟨_,rfl,_,Abs.Sub.refl _,.inr ⟨h32,rfl,rfl⟩⟩

theorem hash_live (H : AH) (h m k d : Nat) (ts : List Term) (a : List UInt8) (ht : okT ⟨104,[a]⟩) (hts : ∀ x ∈ ts,okT x) (hl : ts.length ≤ 1000000) (g : IsI H h m k d ts) : ACalls Try.prog 51 [.ptr h 0,bytesV a] H (NameR H h m k d ts ⟨104,[a]⟩) := by
  have hm := made_live H h m k d ts g
  have hn := name_live H h m k d ts ⟨104,[a]⟩ ht hts hl g
  refine ao (c := ⟨Try.prog,12,[],[],[]⟩) (rs := [ResultVar.tmp 4]) Try.mixed Try.func51 rfl rfl rfl (Nat.le_of_ble_eq_true rfl) (by kernel_rfl) ?_
  simp (disch := omega) only [↓aI,↓zP,aD,zD,aS,simprocAttr,Try.facts]
  refine CallK.i hm ?_
  rintro v H1 ⟨rfl,rfl⟩
  simp (disch := omega) only [↓aI,↓zP,aD,zD,aS,simprocAttr,Try.facts]
  refine CallK.i hn ?_
  rintro v H2 ⟨H3,hs,kk,hkk0,hkk,rfl,rfl⟩
  simp (disch := omega) only [↓aI,↓zP,aD,zD,aS,simprocAttr,Try.facts]
  exact ⟨_,rfl,_,Abs.Sub.refl _,H3,hs,kk,hkk0,hkk,rfl,rfl⟩
end Go.Proofs.Ytaehlpkinbpmbaa
