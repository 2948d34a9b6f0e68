/-
  The walks of the suite layer: what an ideal suite is asked, Draw and Seal.
  Conditions: none. Lemmas only.
-/
import Derived.Test.YtaehlpkinbpmbaaSuiF
set_option linter.all false
set_option linter.unusedSimpArgs false
set_option linter.unusedVariables false
set_option maxRecDepth 20000
namespace Go.Proofs.Ytaehlpkinbpmbaa
open Go Go.Abs Go.Proofs

theorem seal_live (H : AH) (h m k d : Nat) (ts : List Term) (key : List UInt8) (n : Nat) (o x : List UInt8) (hn9 : n < 9223372036854775808) (ht : okT ⟨98, [key, lowL 8 n, o, x]⟩) (hts : ∀ x ∈ ts, okT x) (hl : ts.length ≤ 1000000) (g : IsI H h m k d ts) :
    ACalls Try.prog 111 [.ptr h 0,bytesV key,.sc (.int .i64 n),bytesV o,bytesV x] H (NamedR H h m k d ts ⟨98,[key,lowL 8 n,o,x]⟩) := by
  have hn := named_live H h m k d ts ⟨98,[key,lowL 8 n,o,x]⟩ ht (by simp) hts hl g
  have he := eight_pure n hn9
  have hb : decide ((n : Int) < 0) = false := by simp
  refine ao (c := ⟨Try.prog,21,[],[],[]⟩) (rs := [ResultVar.tmp 10]) Try.mixed Try.func111 rfl rfl rfl (Nat.le_of_ble_eq_true rfl) (by kernel_rfl) ?_
  simp (disch := omega) only [↓aI,↓zP,aD,zD,aS,simprocAttr,Try.facts,hb]
  first | refine CallK.p (he) ?_ | refine CallP.i (he) ?_
  simp (disch := omega) only [↓aI,↓zP,aD,zD,aS,simprocAttr,Try.facts]
  refine CallK.i hn ?_
  rintro v H2 (⟨h32,H3,hs,kk,hkk0,hkk,rfl,rfl⟩ | ⟨h32,rfl,rfl⟩)
  · simp (disch := omega) only [↓aI,↓zP,aD,zD,aS,simprocAttr,Try.facts]
    exact ⟨_,rfl,_,Abs.Sub.refl _,.inl ⟨h32,H3,hs,kk,hkk0,hkk,rfl,rfl⟩⟩
  · simp (disch := omega) only [↓aI,↓zP,aD,zD,aS,simprocAttr,Try.facts]
    exact ⟨_,rfl,_,Abs.Sub.refl _,.inr ⟨h32,rfl,rfl⟩⟩
theorem IsI.draw {H : AH} {h m k d : Nat} {ts : List Term} (g : IsI H h m k d ts) : IsI (H.set h (.cells [.imm k (dC ts) ts.length,.mp m,.sc (.int .i64 ((d + 1 : Nat)))] 82 3)) h m k (d + 1) ts := by
  obtain ⟨k0,hi,hm,o,hk,ho⟩ := id g
  exact ⟨k0,set_get,by rw [aP (fun e => g.hmne e.symm)]; exact hm,o,by rw [aP (fun e => g.hkne e.symm)]; exact hk,ho⟩
theorem StepI.over {H H1 : AH} {h m k d' : Nat} {ts' : List Term} {c : AObj} (hh : ∃ o,H h = some o) (s : StepI (H.set h c) h m k d' ts' H1) : StepI H h m k d' ts' H1 := by
  obtain ⟨k',h1,h2,h3⟩ := s
  refine ⟨k',?_,h2,fun x x1 x2 x3 x4 => ?_⟩
  · rcases h1 with h1 | ⟨h1,h4⟩
    · exact .inl h1
    · exact .inr ⟨h1,am h4⟩
  · rw [h3 x x1 x2 x3 x4,aP x1]
def DrawR (H : AH) (h m k d : Nat) (ts : List Term) (v : AV) (H' : AH) : Prop := ∃ H1,StepI H h m k (d + 1) (numT ts ⟨115,[lowL 8 (d + 1)]⟩).1 H1 ∧ OwnB (nameT ⟨115,[lowL 8 (d + 1)]⟩ (numT ts ⟨115,[lowL 8 (d + 1)]⟩).2) H1 v H'
theorem draw_live (H : AH) (h m k d : Nat) (ts : List Term) (hd : d ≤ 1000000) (hts : ∀ x ∈ ts,okT x) (hl : ts.length ≤ 1000000) (g : IsI H h m k d ts) : ACalls Try.prog 10 [.ptr h 0] H (DrawR H h m k d ts) := by
  have hm := made_live H h m k d ts g
  have ht : okT ⟨115,[lowL 8 (d + 1)]⟩ := ⟨fun h => absurd h (by simp),by simp,by simp [lowL_length]⟩
  have hn := name_live _ h m k (d + 1) ts ⟨115,[lowL 8 (d + 1)]⟩ ht hts hl g.draw
  have he := eight_pure (d + 1) (by omega)
  obtain ⟨k0,hi,_,_⟩ := id g
  refine ao (c := ⟨Try.prog,21,[],[],[]⟩) (rs := [ResultVar.tmp 2]) Try.mixed Try.func10 rfl rfl rfl (Nat.le_of_ble_eq_true rfl) (by kernel_rfl) ?_
  simp (disch := omega) only [↓aI,↓zP,aD,zD,aS,simprocAttr,Try.facts]
  refine CallK.i hm ?_
  rintro v H1 ⟨rfl,rfl⟩
  simp (disch := omega) only [↓aI,↓zP,aD,zD,aS,simprocAttr,Try.facts,hi,ah]
  first | refine CallK.p (he) ?_ | refine CallP.i (he) ?_
  simp (disch := omega) only [↓aI,↓zP,aD,zD,aS,simprocAttr,Try.facts,hi,ah]
  refine CallK.i hn ?_
  rintro v H2 ⟨H3,hs,kk,hkk0,hkk,rfl,rfl⟩
  simp (disch := omega) only [↓aI,↓zP,aD,zD,aS,simprocAttr,Try.facts]
  exact ⟨_,rfl,_,Abs.Sub.refl _,H3,hs.over ⟨_,hi⟩,kk,hkk0,hkk,rfl,rfl⟩
end Go.Proofs.Ytaehlpkinbpmbaa
