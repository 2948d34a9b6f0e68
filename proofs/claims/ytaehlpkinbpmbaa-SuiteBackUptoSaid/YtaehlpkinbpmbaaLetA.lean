/-
  The ideal suite's answers, as names of terms that it knows: what a layer above it asks.
  Conditions: none. Lemmas only.
-/
import Derived.Test.YtaehlpkinbpmbaaSuiQ
set_option linter.all false
set_option linter.unusedSimpArgs false
set_option linter.unusedVariables false
set_option maxRecDepth 20000
set_option maxHeartbeats 2000000
namespace Go.Proofs.Ytaehlpkinbpmbaa
open Go Go.Abs Go.Proofs
def Nm (ts : List Term) (t : Term) (b : List UInt8) : Prop := ∃ i,∃ h : i < ts.length,ts[i] = t ∧ b = nameT t (i + 1)
theorem Nm.len {ts : List Term} {t : Term} {b : List UInt8} (n : Nm ts t b) : b.length = sizeT t := by
  obtain ⟨i,h,rfl,rfl⟩ := n
  exact nameT_length _ _
theorem Nm.mem {ts : List Term} {t : Term} {b : List UInt8} (n : Nm ts t b) : t ∈ ts := by
  obtain ⟨i,h,rfl,rfl⟩ := n
  exact List.getElem_mem h
theorem Nm.up {ts ts' : List Term} {t : Term} {b : List UInt8} (n : Nm ts t b) (p : ts <+: ts') : Nm ts' t b := by
  obtain ⟨r,rfl⟩ := p
  obtain ⟨i,h,h1,h2⟩ := n
  exact ⟨i,by rw [List.length_append]; omega,by rw [List.getElem_append_left h]; exact h1,h2⟩
theorem Nm.inj {ts : List Term} {t u : Term} {b : List UInt8} (n : Nm ts t b) (m : Nm ts u b) (hl : ts.length ≤ 1000000) : t = u := by
  obtain ⟨i,h,rfl,rfl⟩ := n
  obtain ⟨j,h',rfl,e⟩ := m
  have := nameT_inj (by omega) (by omega) e
  obtain rfl : i = j := by omega
  rfl
theorem Nm.one {ts : List Term} {t : Term} {b c : List UInt8} (n : Nm ts t b) (m : Nm ts t c) (nd : ts.Nodup) : b = c := by
  obtain ⟨i,h,e1,rfl⟩ := n
  obtain ⟨j,h',e2,rfl⟩ := m
  rw [(List.getElem_inj nd).1 (e1.trans e2.symm)]
theorem Nm.find {ts : List Term} {t : Term} {b : List UInt8} (n : Nm ts t b) (hl : ts.length ≤ 1000000) : findT ts b t.kind = (t,true) := by
  obtain ⟨i,h,rfl,rfl⟩ := n
  exact findT_hit h hl rfl rfl
theorem numT_nm (ts : List Term) (t : Term) : Nm (numT ts t).1 t (nameT t (numT ts t).2) ∧ ts <+: (numT ts t).1 := by
  unfold numT
  split
  · rename_i h
    exact ⟨⟨ts.idxOf t,List.idxOf_lt_length_of_mem h,List.getElem_idxOf _,rfl⟩,List.prefix_rfl⟩
  · exact ⟨⟨ts.length,by simp,by simp,rfl⟩,List.prefix_append _ _⟩
def AnsR (H0 : AH) (h m d N : Nat) (ts : List Term) (t : Term) (v : AV) (H' : AH) : Prop := ∃ b ts',v = bytesV b ∧ SS H0 H' h m d ts' ∧ Nm ts' t b ∧ ts <+: ts' ∧ GT (N + 1) ts'
theorem TellR.ans {H0 : AH} {h m d N : Nat} {ts : List Term} {t : Term} {v : AV} {H' : AH} (g : GT N ts) (ht : wfT t) (hp : t.kind = 112 → (partT t 0).length ≤ 1000000) (r : TellR H0 h m d ts t v H') : AnsR H0 h m d N ts t v H' :=
  ⟨_,_,r.1,r.2,(numT_nm ts t).1,(numT_nm ts t).2,g.num ht hp⟩
variable {H0 H : AH} {h m d N : Nat} {ts : List Term}
abbrev drawT (d : Nat) : Term := ⟨115,[lowL 8 (d + 1)]⟩
theorem wf1 {k : UInt8} {a : List UInt8} (hk : k ≠ 98 ∧ k ≠ 103) (ha : a.length ≤ 100000000) : wfT ⟨k,[a]⟩ :=
  ⟨⟨fun e => absurd e hk.1,by simp,by simp; omega⟩,fun e => absurd e hk.2,fun _ => by simp,fun _ => by simp⟩
theorem wf2 {k : UInt8} {a b : List UInt8} (hk : k ≠ 98) (ha : a.length ≤ 100000000) (hb : b.length ≤ 100000000) : wfT ⟨k,[a,b]⟩ :=
  ⟨⟨fun e => absurd e hk,by simp,by simp; omega⟩,fun _ => by simp,fun _ => by simp,fun _ => by simp⟩
theorem wf4 {k : UInt8} {a b c e : List UInt8} (ha : a.length ≤ 100000000) (hb : b.length ≤ 100000000) (hc : c.length ≤ 100000000) (he : e.length ≤ 100000000) : wfT ⟨k,[a,b,c,e]⟩ :=
  ⟨⟨fun _ => by simp,by simp,by simp; omega⟩,fun _ => by simp,fun _ => by simp,fun _ => by simp⟩
theorem draw_ans (hd : d ≤ 1000000) (hN : N ≤ 1000000) (g : GT N ts) (s : SS H0 H h m d ts) : ACalls Try.prog 10 [.ptr h 0] H (AnsR H0 h m (d + 1) N ts (drawT d)) :=
  (draw_tell hd (g.mono hN) s).mono fun v H' r => TellR.ans g (wf1 (by decide) (by rw [lowL_length]; omega)) (fun e => absurd (show (115 : UInt8) = 112 from e) (by decide)) r
theorem public_ans (a : List UInt8) (ha : a.length = 32) (hN : N ≤ 1000000) (g : GT N ts) (s : SS H0 H h m d ts) : ACalls Try.prog 110 [.ptr h 0,bytesV a] H (AnsR H0 h m d N ts ⟨112,[a]⟩) :=
  have w := wf1 (k := 112) (a := a) (by decide) (by omega)
  (public_tell a w.1 (g.mono hN) ha s).mono fun v H' r => TellR.ans g w (fun _ => by simp [partT]; omega) r
theorem signer_ans (a : List UInt8) (ha : a.length = 32) (hN : N ≤ 1000000) (g : GT N ts) (s : SS H0 H h m d ts) : ACalls Try.prog 17 [.ptr h 0,bytesV a] H (AnsR H0 h m d N ts ⟨118,[a]⟩) :=
  have w := wf1 (k := 118) (a := a) (by decide) (by omega)
  (signer_tell a w.1 (g.mono hN) ha s).mono fun v H' r => TellR.ans g w (fun e => absurd (show (118 : UInt8) = 112 from e) (by decide)) r
theorem derive_ans (a b : List UInt8) (ha : a.length = 32) (hb : b.length ≤ 100000000) (hN : N ≤ 1000000) (g : GT N ts) (s : SS H0 H h m d ts) : ACalls Try.prog 108 [.ptr h 0,bytesV a,bytesV b] H (AnsR H0 h m d N ts ⟨107,[a,b]⟩) :=
  have w := wf2 (k := 107) (a := a) (b := b) (by decide) (by omega) hb
  (derive_tell a b w.1 (g.mono hN) ha s).mono fun v H' r => TellR.ans g w (fun e => absurd (show (107 : UInt8) = 112 from e) (by decide)) r
theorem sign_ans (a b : List UInt8) (ha : a.length = 32) (hb : b.length ≤ 100000000) (hN : N ≤ 1000000) (g : GT N ts) (s : SS H0 H h m d ts) : ACalls Try.prog 113 [.ptr h 0,bytesV a,bytesV b] H (AnsR H0 h m d N ts ⟨103,[a,b]⟩) :=
  have w := wf2 (k := 103) (a := a) (b := b) (by decide) (by omega) hb
  (sign_tell a b w.1 (g.mono hN) ha s).mono fun v H' r => TellR.ans g w (fun e => absurd (show (103 : UInt8) = 112 from e) (by decide)) r
abbrev sealT (a : List UInt8) (n : Nat) (o x : List UInt8) : Term := ⟨98,[a,lowL 8 n,o,x]⟩
theorem seal_ans (a : List UInt8) (n : Nat) (o x : List UInt8) (ha : a.length = 32) (hn : n < 9223372036854775808) (ho : o.length ≤ 100000000) (hx : x.length ≤ 100000000) (hN : N ≤ 1000000) (g : GT N ts) (s : SS H0 H h m d ts) :
    ACalls Try.prog 111 [.ptr h 0,bytesV a,.sc (.int .i64 n),bytesV o,bytesV x] H (AnsR H0 h m d N ts (sealT a n o x)) :=
  have w : wfT (sealT a n o x) := wf4 (by omega) (by rw [lowL_length]; omega) ho hx
  (seal_tell a n o x hn w.1 (g.mono hN) ha s).mono fun v H' r => TellR.ans g w (fun e => absurd (show (98 : UInt8) = 112 from e) (by decide)) r
theorem open_ans (a : List UInt8) (n : Nat) (o x b : List UInt8) (ha : a.length = 32) (hn : n < 9223372036854775808) (hN : N ≤ 1000000) (g : GT N ts) (s : SS H0 H h m d ts) (k : Nm ts (sealT a n o x) b) :
    ACalls Try.prog 109 [.ptr h 0,bytesV a,.sc (.int .i64 n),bytesV o,bytesV b] H fun v H' => v = .tup [bytesV x,.sc (.int .i64 0)] ∧ H' = H := by
  have hg := g.mono hN
  have hb : b.length ≤ 140737488355328 := by
    rw [k.len]
    have := sizeT_le (hg.wf _ k.mem).1
    omega
  refine (open_tell a n o b ha hn hb hg s).mono fun v H' r => ?_
  have hf := k.find hg.len
  have e : openV ts a n o b = .tup [bytesV x,.sc (.int .i64 0)] := by
    unfold openV opT
    rw [hf]
    simp [partT]
  rw [← e]
  exact r
theorem verify_ans (a b c q : List UInt8) (hc : c.length ≤ 100000000) (hq : q.length ≤ 100000000) (hN : N ≤ 1000000) (g : GT N ts) (s : SS H0 H h m d ts) :
    ACalls Try.prog 114 [.ptr h 0,bytesV c,bytesV b,bytesV q] H fun v H' => v = .sc (.bool (verT ts c b q)) ∧ H' = H :=
  verify_ss c b q (by omega) (by omega) (g.mono hN) s
theorem ver_yes {a b c q : List UInt8} (hl : ts.length ≤ 1000000) (k : Nm ts ⟨118,[a]⟩ c) (l : Nm ts ⟨103,[a,b]⟩ q) : verT ts c b q = true := by
  unfold verT
  have h1 := k.find hl
  have h2 := l.find hl
  simp only [] at h1 h2
  rw [h1,h2]
  simp [partT]
theorem cmp_anti : ∀ a b : List UInt8,Lib.compareBytes b a = - Lib.compareBytes a b
  | [],[] => rfl
  | [],_ :: _ => rfl
  | _ :: _,[] => rfl
  | x :: a,y :: b => by
    have ih := cmp_anti a b
    unfold Lib.compareBytes
    by_cases h1 : x < y
    · have h2 : ¬ y < x := fun h => absurd (UInt8.lt_trans h1 h) (UInt8.lt_irrefl x)
      rw [if_neg h2,if_pos h1,if_pos h1]; rfl
    · by_cases h2 : y < x
      · rw [if_pos h2,if_neg h1,if_pos h2]
      · rw [if_neg h2,if_neg h1,if_neg h1,if_neg h2,ih]
theorem cmp_same : ∀ a b : List UInt8,Lib.compareBytes a b = 0 → a = b
  | [],[],_ => rfl
  | [],_ :: _,h => by cases h
  | _ :: _,[],h => by cases h
  | x :: a,y :: b,h => by
    unfold Lib.compareBytes at h
    by_cases h1 : x < y
    · rw [if_pos h1] at h; cases h
    · by_cases h2 : y < x
      · rw [if_neg h1,if_pos h2] at h; cases h
      · rw [if_neg h1,if_neg h2] at h
        have e : x = y := by
          have a1 : ¬ x.toNat < y.toNat := fun h => h1 h
          have a2 : ¬ y.toNat < x.toNat := fun h => h2 h
          exact UInt8.toNat_inj.1 (by omega)
        rw [e,cmp_same a b h]
theorem shT_comm (a b : List UInt8) : shT a b = shT b a := by
  unfold shT
  have h := cmp_anti a b
  by_cases h1 : 0 < Lib.compareBytes a b
  · rw [if_pos h1,if_neg (by omega)]
  · by_cases h2 : 0 < Lib.compareBytes b a
    · rw [if_neg h1,if_pos h2]
    · rw [cmp_same a b (by omega)]
theorem shT_wf {a b : List UInt8} (ha : a.length ≤ 100000000) (hb : b.length ≤ 100000000) : wfT (shT a b) ∧ (shT a b).kind = 100 := by
  unfold shT
  split
  · exact ⟨wf2 (by decide) hb ha,rfl⟩
  · exact ⟨wf2 (by decide) ha hb,rfl⟩
theorem shared_ans (a b p : List UInt8) (ha : a.length = 32) (hb : b.length ≤ 1000000) (hN : N ≤ 1000000) (g : GT N ts) (s : SS H0 H h m d ts) (k : Nm ts ⟨112, [b]⟩ p) :
    ACalls Try.prog 112 [.ptr h 0,bytesV a,bytesV p] H fun v H' => ∃ r,v = .tup [r,.sc (.int .i64 0)] ∧ AnsR H0 h m d N ts (shT a b) r H' := by
  have hg := g.mono hN
  have hp : p.length ≤ 140737488355328 := by
    rw [k.len]
    have := sizeT_le (hg.wf _ k.mem).1
    omega
  obtain ⟨w,wk⟩ := shT_wf (a := a) (b := b) (by omega) (by omega)
  have hf := k.find hg.len
  simp only [] at hf
  have hpt : partT (⟨112,[b]⟩ : Term) 0 = b := rfl
  obtain ⟨k0,g0,n1,n2,n3,hs⟩ := s
  refine (shared_live H h m k0 d ts a p hp hg.pub hg.wf hg.len g0).freeze fun v H' r => ?_
  rcases r with ⟨hn,_⟩ | ⟨_,hn,_⟩ | ⟨_,_,r,hr,rfl⟩
  · exact absurd ha hn
  · rw [hf] at hn; cases hn
  · rw [hf] at hr
    simp only [hpt] at hr
    obtain ⟨H1,ss,kk,hk0,hk,rfl,rfl⟩ := name_give g0 n1 n2 n3 hs hr
    refine ⟨_,H1,Abs.Sub.set_new hk,.tup2 (Frz.own set_get hk (by rw [encB_length]; omega)) .same,bytesV (nameT (shT a b) (numT ts (shT a b)).2),?_,?_⟩
    · rw [List.take_of_length_le (by rw [encB_length]; omega)]
    · exact TellR.ans g w (fun e => absurd (wk.symm.trans e) (by decide)) ⟨rfl,ss⟩
end Go.Proofs.Ytaehlpkinbpmbaa
