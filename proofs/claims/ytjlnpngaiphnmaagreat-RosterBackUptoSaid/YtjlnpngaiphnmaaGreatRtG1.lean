/-
  Several texts in one: each says what it proves.
  Conditions: none. Lemmas only.
-/
import Derived.Test.YtjlnpngaiphnmaaGreatRosG8
import Derived.Test.YtjlnpngaiphnmaaGreatRosG7
set_option linter.all false
section
set_option linter.unusedSimpArgs false
set_option linter.unusedVariables false
set_option maxRecDepth 20000
set_option maxHeartbeats 8000000
namespace Go.Abs
open Go Go.RowKit
theorem lessCell {n : Nat} {i c : Nat → Nat} {H : AH} {w : World} (g : WR ⟨H, n, i, c, w⟩) {h e s j : Nat} {cs : List AV} {a a' : AV} (hh : H h = some (.cells cs e s)) (hj : cs[j]? = some a) (hw : ∀ (C : Ctx) (v : Value), VR C a v → VR C a' v) :
    WR ⟨H.set h (.cells (cs.set j a') e s),n,i,c,w⟩ ∧ Ext ⟨H,n,i,c,w⟩ ⟨H.set h (.cells (cs.set j a') e s),n,i,c,w⟩ := by
  have hnt : ∀ m e' s',AObj.cells cs e s ≠ .tail m e' s' := by intro _ _ _ h; cases h
  have ex := Ext.put g hh (o' := .cells (cs.set j a') e s) rfl w rfl (fun b _ => rfl) rfl rfl rfl hnt
  refine ⟨WR.put g hh (o' := .cells (cs.set j a') e s) rfl w rfl (fun b _ => rfl) rfl rfl rfl hnt ?_,ex⟩
  obtain ⟨vs,fz,b1,b2,b3,b4,b5⟩ := g.obj h _ hh
  refine ⟨vs,fz,b1,b2,b3,by simpa using b4,fun x hx => ?_⟩
  have hx' : x < cs.length := by simpa using hx
  refine ⟨?_,(b5 x hx').2⟩
  by_cases he : x = j
  · subst he
    have h1 := (b5 x hx').1
    have e1 : cs[x] = a := by rw [List.getElem?_eq_getElem hx'] at hj; exact Option.some.inj hj
    rw [e1] at h1
    rw [List.getElem_set_self]
    exact (hw _ _ h1).ext ex
  · rw [List.getElem_set_ne (by omega)]
    exact ((b5 x hx').1).ext ex
theorem imm_less (k : Nat) (cells : List AV) (n : Nat) (C : Ctx) (v : Value) (h : VR C (.imm k cells n) v) : VR C (.imm 0 cells n) v := by
  obtain ⟨A,cap,rfl,hn,hm,hk,b,o,ha,u,hc,hv⟩ := h.imm_inv
  exact .imm 0 cells n A cap hn hm (fun h => absurd rfl h) b o ha u hc hv
theorem ACalls.lessCell {P : Program} {f : FuncId} {args : List AV} {H : AH} {R R' : AV → AH → Prop} (h : ACalls P f args H R)
    (hr : ∀ v H',R v H' → ∃ b e s j cs a a',H' b = some (.cells cs e s) ∧ cs[j]? = some a ∧ (∀ (C : Ctx) (v : Value),VR C a v → VR C a' v) ∧ R' v (H'.set b (.cells (cs.set j a') e s))) : ACalls P f args H R' := by
  intro n i c w vs g hx
  refine (h n i c w vs g hx).mono ?_
  rintro u w' ⟨v,H',n',i',c',h2,h3,h4,h5⟩
  obtain ⟨b,e,s,j,cs,a,a',g1,g2,g3,g4⟩ := hr v H' h2
  obtain ⟨k1,k2⟩ := Go.Abs.lessCell h3 g1 g2 g3
  exact ⟨v,_,n',i',c',g4,k1,h4.trans k2,h5.ext k2⟩
end Go.Abs
namespace Go.Proofs.YtjlnpngaiphnmaaGreat
open Go Go.Abs Go.Proofs
theorem new_live21 (H : AH) (ad : List UInt8) (had : ad.length ≤ 1000000) : ACalls Tryz.prog 77 [eu ad] H fun v H' => ∃ r k kd,v = .ptr r 0 ∧ r ≠ 0 ∧ k ≠ 0 ∧ kd ≠ 0 ∧ H r = none ∧ H' r = some (lgP ad ⟨[],[]⟩ k kd) ∧ Abs.Sub H H' := by
  have h1 : ACalls Tryz.prog 77 [eu ad] H fun v H' => ∃ r ka,v = .ptr r 0 ∧ r ≠ 0 ∧ H r = none ∧ H' r = some (.cells [.imm ka (bw ad) ad.length,.sc (.slice none 0 0),.sc (.slice none 0 0)] 97 3) ∧ Abs.Sub H H' := by
    have hal := fO ad
    refine ao (c := ⟨Tryz.prog,8,[],[3],[]⟩) (rs := [ResultVar.tmp 2]) Tryz.mixed Tryz.func77 rfl rfl rfl (Nat.le_of_ble_eq_true rfl) (by kernel_rfl) ?_
    simp (disch := omega) only [↓aI,↓zP,aD,zD,aS,simprocAttr,Tryz.facts,zA]
    intro k1 hk10 hk1
    try simp (disch := omega) only [↓aI,↓zP,aD,zD,aS,simprocAttr,Tryz.facts,zA,hal,aj hk1]
    intro k2 o2 hk20 hk2 ho2
    try simp (disch := omega) only [↓aI,↓zP,aD,zD,aS,simprocAttr,Tryz.facts,zA,hal,aj hk1]
    intro b hb0 hb
    try simp (disch := omega) only [↓aI,↓zP,aD,zD,aS,simprocAttr,Tryz.facts,zA,hal,aj hk1]
    have hk2 := am hk2
    exact ⟨_,rfl,_,Abs.Sub.refl _,b,k2,rfl,hb0,am hb,set_get,(Sub.set_new hk2).set_free (am hb)⟩
  have h2 : ACalls Tryz.prog 77 [eu ad] H fun v H' => ∃ r,v = .ptr r 0 ∧ r ≠ 0 ∧ H r = none ∧ H' r = some (.cells [eu ad,.sc (.slice none 0 0),.sc (.slice none 0 0)] 97 3) ∧ Abs.Sub H H' := by
    refine h1.lessCell ?_
    rintro v H' ⟨r,ka,rfl,hr0,hf,hv,hs⟩
    exact ⟨r,_,_,0,_,_,eu ad,hv,rfl,imm_less _ _ _,r,rfl,hr0,hf,set_get,hs.set_free hf⟩
  have h3 : ACalls Tryz.prog 77 [eu ad] H fun v H' => ∃ r k,v = .ptr r 0 ∧ r ≠ 0 ∧ k ≠ 0 ∧ H r = none ∧ H' r = some (.cells [eu ad,.imm k [] 0,.sc (.slice none 0 0)] 97 3) ∧ Abs.Sub H H' := by
    refine h2.tokCell ?_
    rintro v H' ⟨r,rfl,hr0,hf,hv,hs⟩
    exact ⟨r,_,_,1,_,hv,rfl,fun k hk0 hk => ⟨r,k,rfl,hr0,hk0,hf,set_get,(hs.set_free (hs.free hk)).set_free hf⟩⟩
  refine h3.tokCell ?_
  rintro v H' ⟨r,k,rfl,hr0,hk0,hf,hv,hs⟩
  exact ⟨r,_,_,2,_,hv,rfl,fun k2 hk20 hk2 => ⟨r,k,k2,rfl,hr0,hk0,hk20,hf,set_get,(hs.set_free (hs.free hk2)).set_free hf⟩⟩
variable {ad : List UInt8} {g : LogM}
def jN (g : LogM) (n : Int) : List Mem := if n < 1 ∨ (g.L.length : Int) < n then [] else (g.L.getD (n.toNat - 1) i9).members
theorem rmems_pure (hg : OkG g) (n : Int) (hn : n ≤ 9223372036854775807) : APure Tryz.prog 49 [.agg (lgM ad g),.sc (.int .i64 n)] (fE (jN g n)) := by
  have hlen := hg.len
  have hfew := hg.few
  by_cases h1 : 1 ≤ n ∧ n ≤ g.L.length
  · obtain ⟨i,rfl⟩ : ∃ i : Nat,n = (i : Int) + 1 := ⟨(n - 1).toNat,by omega⟩
    have hi : i < g.L.length := by omega
    have e : jN g ((i : Int) + 1) = (g.L[i]).members := by
      unfold jN
      rw [if_neg (by omega)]
      simp [List.getD,hi]
    have hb : (g.L.flatMap fX)[i * 7 + 2]? = some (fE (g.L[i]).members) := by
      rw [gu i7 hi (by decide)]
      rfl
    have hLc : (g.L.flatMap fX).length = g.L.length * 7 := fF i7 _
    have ei : ((i : Int) + 1 - 1).toNat = i := by omega
    rw [e]
    generalize (g.L[i]).members = x at *
    refine az (c := ⟨Tryz.prog,21,[(1000000,[2])],[],[]⟩) (rs := [ResultVar.tmp 4]) Tryz.mixed Tryz.func49 rfl rfl rfl (Nat.le_of_ble_eq_true rfl) (by kernel_rfl) fun H => ?_
    simp (disch := omega) only [↓aI,↓zP,aD,zD,aS,simprocAttr,Tryz.facts,zA]
    intro k2 hk20 hk2
    rw [aj hk2]
    try simp (disch := omega) only [↓aI,↓zP,aD,zD,aS,simprocAttr,Tryz.facts,zA,hb,ei,hLc]
    exact Abs.Sub.refl _
  · have hz : jN g n = [] := by unfold jN; rw [if_pos (by omega)]
    rw [hz]
    by_cases h3 : n < 1
    · refine az (c := ⟨Tryz.prog,21,[(1000000,[2])],[],[]⟩) (rs := [ResultVar.tmp 4]) Tryz.mixed Tryz.func49 rfl rfl rfl (Nat.le_of_ble_eq_true rfl) (by kernel_rfl) fun H => ?_
      simp (disch := omega) only [↓aI,↓zP,aD,zD,aS,simprocAttr,Tryz.facts,zA]
      intro k2 hk20 hk2
      rw [aj hk2]
      try simp (disch := omega) only [↓aI,↓zP,aD,zD,aS,simprocAttr,Tryz.facts,zA]
      exact ⟨rfl,Abs.Sub.refl _⟩
    · refine az (c := ⟨Tryz.prog,21,[(1000000,[2])],[],[]⟩) (rs := [ResultVar.tmp 4]) Tryz.mixed Tryz.func49 rfl rfl rfl (Nat.le_of_ble_eq_true rfl) (by kernel_rfl) fun H => ?_
      simp (disch := omega) only [↓aI,↓zP,aD,zD,aS,simprocAttr,Tryz.facts,zA]
      intro k2 hk20 hk2
      rw [aj hk2]
      try simp (disch := omega) only [↓aI,↓zP,aD,zD,aS,simprocAttr,Tryz.facts,zA]
      exact ⟨rfl,Abs.Sub.refl _⟩
theorem mems_live {H : AH} {r k kd : Nat} (hg : OkG g) (hr0 : r ≠ 0) (hr : H r = some (lgP ad g k kd)) (n : Int) (hn : n ≤ 9223372036854775807) (hn0 : -9223372036854775808 ≤ n) : ACalls Tryz.prog 28 [.ptr r 0,.sc (.int .i64 n)] H fun v H' => v = fE (jN g n) ∧ H' = H := by
  have hlen := hg.len
  have hfew := hg.few
  have h2 := kL H r k (eu ad) (.imm kd (g.D.map eu) g.D.length) (g.L.map iF) hr0 (by rw [← lgP_B]; exact hr)
  rw [List.length_map] at h2
  by_cases h1 : 1 ≤ n ∧ n ≤ g.L.length
  · obtain ⟨i,rfl⟩ : ∃ i : Nat,n = (i : Int) + 1 := ⟨(n - 1).toNat,by omega⟩
    have hi : i < g.L.length := by omega
    have e : jN g ((i : Int) + 1) = (g.L[i]).members := by
      unfold jN
      rw [if_neg (by omega)]
      simp [List.getD,hi]
    have hb : ((g.L.map iF).flatMap fX)[i * 7 + 2]? = some (fE (g.L[i]).members) := by
      rw [gu i7 (by rw [List.length_map]; exact hi) (by decide)]
      simp [fX,iF]
    have hLc : ((g.L.map iF).flatMap fX).length = g.L.length * 7 := by rw [fF i7,List.length_map]
    have ei : ((i : Int) + 1 - 1).toNat = i := by omega
    have hpf := gH (fy (hg.ent _ (List.getElem_mem hi))).2.2.2.1
    have hcp := copied_pure (g.L[i]).members (by omega) (fun x hx => by have := hpf.2.2.2.2.1 x hx; omega)
    rw [e]
    generalize (g.L[i]).members = x at *
    refine ao (c := ⟨Tryz.prog,23,[],[],[]⟩) (rs := [ResultVar.tmp 4]) Tryz.mixed Tryz.func28 rfl rfl rfl (Nat.le_of_ble_eq_true rfl) (by kernel_rfl) ?_
    simp (disch := omega) only [↓aI,↓zP,aD,zD,aS,simprocAttr,Tryz.facts,zA,hr]
    refine CallK.i h2 ?_
    rintro v E ⟨rfl,rfl⟩
    try simp (disch := omega) only [↓aI,↓zP,aD,zD,aS,simprocAttr,Tryz.facts,zA,hr,hb,ei,hLc]
    first | refine CallK.p (hcp) ?_ | refine CallP.i (hcp) ?_
    simp (disch := omega) only [↓aI,↓zP,aD,zD,aS,simprocAttr,Tryz.facts,zA]
    exact ⟨_,rfl,_,Abs.Sub.refl _,rfl,rfl⟩
  · have hz : jN g n = [] := by unfold jN; rw [if_pos (by omega)]
    rw [hz]
    by_cases h3 : n < 1
    · refine ao (c := ⟨Tryz.prog,23,[],[],[]⟩) (rs := [ResultVar.tmp 4]) Tryz.mixed Tryz.func28 rfl rfl rfl (Nat.le_of_ble_eq_true rfl) (by kernel_rfl) ?_
      simp (disch := omega) only [↓aI,↓zP,aD,zD,aS,simprocAttr,Tryz.facts,zA,hr]
      exact ⟨_,rfl,_,Abs.Sub.refl _,rfl,rfl⟩
    · refine ao (c := ⟨Tryz.prog,23,[],[],[]⟩) (rs := [ResultVar.tmp 4]) Tryz.mixed Tryz.func28 rfl rfl rfl (Nat.le_of_ble_eq_true rfl) (by kernel_rfl) ?_
      simp (disch := omega) only [↓aI,↓zP,aD,zD,aS,simprocAttr,Tryz.facts,zA,hr]
      refine CallK.i h2 ?_
      rintro v E ⟨rfl,rfl⟩
      simp (disch := omega) only [↓aI,↓zP,aD,zD,aS,simprocAttr,Tryz.facts,zA,hr]
      exact ⟨_,rfl,_,Abs.Sub.refl _,rfl,rfl⟩
end Go.Proofs.YtjlnpngaiphnmaaGreat
end
section
set_option linter.unusedSimpArgs false
set_option linter.unusedVariables false
set_option maxRecDepth 20000
set_option maxHeartbeats 8000000
namespace Go.Proofs.YtjlnpngaiphnmaaGreat
open Go Go.Abs Go.Proofs
end Go.Proofs.YtjlnpngaiphnmaaGreat
end
section
set_option linter.unusedSimpArgs false
set_option linter.unusedVariables false
set_option maxRecDepth 20000
set_option maxHeartbeats 8000000
namespace Go.Proofs.YtjlnpngaiphnmaaGreat
open Go Go.Abs Go.Proofs
variable {H : AH} {ad : List UInt8} {g : LogM} {r k kd : Nat}
theorem lclone_live (hg : OkG g) (hr0 : r ≠ 0) (hk : k ≠ 0) (hkd : kd ≠ 0) (hr : H r = some (lgP ad g k kd)) : ACalls Tryz.prog 19 [.ptr r 0] H fun v H' => ∃ q k2 kd2,v = .ptr q 0 ∧ q ≠ 0 ∧ k2 ≠ 0 ∧ kd2 ≠ 0 ∧ H q = none ∧ H' q = some (lgP ad g k2 kd2) ∧ Abs.Sub H H' := by
  have hlen := hg.len
  have hfew := hg.few
  have hLc : ((g.L.map iF).flatMap fX).length = g.L.length * 7 := by rw [fF i7,List.length_map]
  have hDc : (g.D.map eu).length = g.D.length := List.length_map _
  have hLl : (g.L.map iF).length = g.L.length := List.length_map _
  refine ao (c := ⟨Tryz.prog,31,[(4,[0,0,0,0,0,0,0,0,0,0,2,0,0,0,0,0,0,2,0,2,0])],[2000021,2000028],[(4,(.op 0 0 (.op 1 0 (.op 2 0 (.op 4 0 (.op 5 0 (.op 6 0 (.op 8 0 (.op 9 0 (.op 11 0 (.op 12 0 (.op 13 0 (.op 15 0 (.op 16 0 (.op 3 4 (.op 7 4 (.op 14 4 (.or (.op 10 3 (.op 17 3 (.op 18 0 (.op 19 3 (.op 20 0 .nil))))) (.op 17 3 (.op 10 3 (.op 18 0 (.op 19 3 (.op 20 0 .nil)))))))))))))))))))))))]⟩) (rs := [ResultVar.tmp 2]) Tryz.mixed Tryz.func19 rfl rfl rfl (Nat.le_of_ble_eq_true rfl) (by kernel_rfl) ?_
  simp (disch := omega) only [↓aI,↓zP,aD,zD,aS,simprocAttr,Tryz.facts,zA,hr,hr0]
  refine eI (fun σ F => ∃ (q k2 kd2 : Nat),q ≠ 0 ∧ k2 ≠ 0 ∧ kd2 ≠ 0 ∧ H q = none ∧ F q = some (lgP ad g k2 kd2) ∧ Abs.Sub H F ∧ σ 2 = .ptr q 0) ?_ ?_
  · simp (disch := omega) only [↓aI,↓zP,aD,zD,aS,simprocAttr,Tryz.facts,zA,hr,hLc,hDc,hlen]
    refine ⟨?_,?_⟩
    · intro g1 hg10 hg1 g2 hg20 hg2 q hq0 hq
      have hv := set_get (H := (H.set g1 (.full g.L.length)).set g2 (.full g.L.length)) (k := q) (o := lgP ad g g1 g2)
      rw [lgP,hlen] at hv
      exact ⟨q,g1,g2,hq0,hg10,hg20,am (am hq),by rw [lgP,hlen]; exact hv,((Sub.set_new hg1).set_free (am hg2)).set_free (am (am hq)),rfl⟩
    · intro g1 hg10 hg1 g2 hg20 hg2 q hq0 hq
      have hv := set_get (H := (H.set g1 (.full g.L.length)).set g2 (.full g.L.length)) (k := q) (o := lgP ad g g2 g1)
      rw [lgP,hlen] at hv
      exact ⟨q,g2,g1,hq0,hg20,hg10,am (am hq),by rw [lgP,hlen]; exact hv,((Sub.set_new hg1).set_free (am hg2)).set_free (am (am hq)),rfl⟩
  · rintro σ F ⟨q,k2,kd2,a1,a2,a3,a4,a5,a6,s2⟩
    simp (disch := omega) only [↓aI,↓zP,aD,zD,aS,simprocAttr,Tryz.facts,zA,s2]
    exact ⟨_,rfl,_,Abs.Sub.refl _,q,k2,kd2,rfl,a1,a2,a3,a4,a5,a6⟩
end Go.Proofs.YtjlnpngaiphnmaaGreat
end
