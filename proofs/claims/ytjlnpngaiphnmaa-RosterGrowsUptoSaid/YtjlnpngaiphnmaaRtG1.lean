/-
  Several texts in one: each says what it proves.
  Conditions: none. Lemmas only.
-/
import Derived.Test.YtjlnpngaiphnmaaRosG8
import Derived.Test.YtjlnpngaiphnmaaRosG7
set_option linter.all false
section
set_option linter.unusedSimpArgs false
set_option linter.unusedVariables false
set_option maxRecDepth 20000
set_option maxHeartbeats 8000000
namespace Go.Abs
open Go Go.RowKit
theorem lessCell {n : Nat} {i c : Nat → Nat} {H : AH} {w : World} (g : WR ⟨H, n, i, c, w⟩) {h e s j : Nat} {cs : List AV} {a a' : AV} (hh : H h = some (.cells cs e s)) (hj : cs[j]? = some a) (hw : ∀ (C : Ctx) (v : Value), VR C a v → VR C a' v) :
    WR ⟨H.set h (.cells (cs.set j a') e s),n,i,c,w⟩ ∧ Ext ⟨H,n,i,c,w⟩ ⟨H.set h (.cells (cs.set j a') e s),n,i,c,w⟩ := by
  have hnt : ∀ m e' s',AObj.cells cs e s ≠ .tail m e' s' := by intro _ _ _ h; cases h
  have ex := Ext.put g hh (o' := .cells (cs.set j a') e s) rfl w rfl (fun b _ => rfl) rfl rfl rfl hnt
  refine ⟨WR.put g hh (o' := .cells (cs.set j a') e s) rfl w rfl (fun b _ => rfl) rfl rfl rfl hnt ?_,ex⟩
  obtain ⟨vs,fz,b1,b2,b3,b4,b5⟩ := g.obj h _ hh
  refine ⟨vs,fz,b1,b2,b3,by simpa using b4,fun x hx => ?_⟩
  have hx' : x < cs.length := by simpa using hx
  refine ⟨?_,(b5 x hx').2⟩
  by_cases he : x = j
  · subst he
    have h1 := (b5 x hx').1
    have e1 : cs[x] = a := by rw [List.getElem?_eq_getElem hx'] at hj; exact Option.some.inj hj
    rw [e1] at h1
    rw [List.getElem_set_self]
    exact (hw _ _ h1).ext ex
  · rw [List.getElem_set_ne (by omega)]
    exact ((b5 x hx').1).ext ex
theorem imm_less (k : Nat) (cells : List AV) (n : Nat) (C : Ctx) (v : Value) (h : VR C (.imm k cells n) v) : VR C (.imm 0 cells n) v := by
  obtain ⟨A,cap,rfl,hn,hm,hk,b,o,ha,u,hc,hv⟩ := h.imm_inv
  exact .imm 0 cells n A cap hn hm (fun h => absurd rfl h) b o ha u hc hv
theorem ACalls.lessCell {P : Program} {f : FuncId} {args : List AV} {H : AH} {R R' : AV → AH → Prop} (h : ACalls P f args H R)
    (hr : ∀ v H',R v H' → ∃ b e s j cs a a',H' b = some (.cells cs e s) ∧ cs[j]? = some a ∧ (∀ (C : Ctx) (v : Value),VR C a v → VR C a' v) ∧ R' v (H'.set b (.cells (cs.set j a') e s))) : ACalls P f args H R' := by
  intro n i c w vs g hx
  refine (h n i c w vs g hx).mono ?_
  rintro u w' ⟨v,H',n',i',c',h2,h3,h4,h5⟩
  obtain ⟨b,e,s,j,cs,a,a',g1,g2,g3,g4⟩ := hr v H' h2
  obtain ⟨k1,k2⟩ := Go.Abs.lessCell h3 g1 g2 g3
  exact ⟨v,_,n',i',c',g4,k1,h4.trans k2,h5.ext k2⟩
end Go.Abs
namespace Go.Proofs.Ytjlnpngaiphnmaa
open Go Go.Abs Go.Proofs
theorem new_live21 (H : AH) (ad : List UInt8) (had : ad.length ≤ 1000000) : ACalls Try.prog 36 [bytesV ad] H fun v H' => ∃ r k kd,v = .ptr r 0 ∧ r ≠ 0 ∧ k ≠ 0 ∧ kd ≠ 0 ∧ H r = none ∧ H' r = some (lgP ad ⟨[],[]⟩ k kd) ∧ Abs.Sub H H' := by
  have h1 : ACalls Try.prog 36 [bytesV ad] H fun v H' => ∃ r ka,v = .ptr r 0 ∧ r ≠ 0 ∧ H r = none ∧ H' r = some (.cells [.imm ka (bw ad) ad.length,.sc (.slice none 0 0),.sc (.slice none 0 0)] 74 3) ∧ Abs.Sub H H' := by
    have hal := encB_len ad
    refine ao (c := ⟨Try.prog,8,[],[3],[]⟩) (rs := [ResultVar.tmp 2]) Try.mixed Try.func36 rfl rfl rfl (Nat.le_of_ble_eq_true rfl) (by kernel_rfl) ?_
    simp (disch := omega) only [↓aI,↓zP,aD,zD,aS,simprocAttr,Try.facts,zA]
    intro k1 hk10 hk1
    try simp (disch := omega) only [↓aI,↓zP,aD,zD,aS,simprocAttr,Try.facts,zA,hal,aj hk1]
    intro k2 o2 hk20 hk2 ho2
    try simp (disch := omega) only [↓aI,↓zP,aD,zD,aS,simprocAttr,Try.facts,zA,hal,aj hk1]
    intro b hb0 hb
    try simp (disch := omega) only [↓aI,↓zP,aD,zD,aS,simprocAttr,Try.facts,zA,hal,aj hk1]
    have hk2 := am hk2
    exact ⟨_,rfl,_,Abs.Sub.refl _,b,k2,rfl,hb0,am hb,set_get,(Sub.set_new hk2).set_free (am hb)⟩
  have h2 : ACalls Try.prog 36 [bytesV ad] H fun v H' => ∃ r,v = .ptr r 0 ∧ r ≠ 0 ∧ H r = none ∧ H' r = some (.cells [bytesV ad,.sc (.slice none 0 0),.sc (.slice none 0 0)] 74 3) ∧ Abs.Sub H H' := by
    refine h1.lessCell ?_
    rintro v H' ⟨r,ka,rfl,hr0,hf,hv,hs⟩
    exact ⟨r,_,_,0,_,_,bytesV ad,hv,rfl,imm_less _ _ _,r,rfl,hr0,hf,set_get,hs.set_free hf⟩
  have h3 : ACalls Try.prog 36 [bytesV ad] H fun v H' => ∃ r k,v = .ptr r 0 ∧ r ≠ 0 ∧ k ≠ 0 ∧ H r = none ∧ H' r = some (.cells [bytesV ad,.imm k [] 0,.sc (.slice none 0 0)] 74 3) ∧ Abs.Sub H H' := by
    refine h2.tokCell ?_
    rintro v H' ⟨r,rfl,hr0,hf,hv,hs⟩
    exact ⟨r,_,_,1,_,hv,rfl,fun k hk0 hk => ⟨r,k,rfl,hr0,hk0,hf,set_get,(hs.set_free (hs.free hk)).set_free hf⟩⟩
  refine h3.tokCell ?_
  rintro v H' ⟨r,k,rfl,hr0,hk0,hf,hv,hs⟩
  exact ⟨r,_,_,2,_,hv,rfl,fun k2 hk20 hk2 => ⟨r,k,k2,rfl,hr0,hk0,hk20,hf,set_get,(hs.set_free (hs.free hk2)).set_free hf⟩⟩
variable {ad : List UInt8} {g : LogM}
def memsM (g : LogM) (n : Int) : List Mem := if n < 1 ∨ (g.L.length : Int) < n then [] else (g.L.getD (n.toNat - 1) zeroE).members
theorem rmems_pure (hg : OkG g) (n : Int) (hn : n ≤ 9223372036854775807) : APure Try.prog 17 [.agg (lgM ad g),.sc (.int .i64 n)] (memsV (memsM g n)) := by
  have hlen := hg.len
  have hfew := hg.few
  by_cases h1 : 1 ≤ n ∧ n ≤ g.L.length
  · obtain ⟨i,rfl⟩ : ∃ i : Nat,n = (i : Int) + 1 := ⟨(n - 1).toNat,by omega⟩
    have hi : i < g.L.length := by omega
    have e : memsM g ((i : Int) + 1) = (g.L[i]).members := by
      unfold memsM
      rw [if_neg (by omega)]
      simp [List.getD,hi]
    have hb : (g.L.flatMap entC)[i * 7 + 2]? = some (memsV (g.L[i]).members) := by
      rw [flat_get entC_len hi (by decide)]
      rfl
    have hLc : (g.L.flatMap entC).length = g.L.length * 7 := flat_len entC_len _
    have ei : ((i : Int) + 1 - 1).toNat = i := by omega
    rw [e]
    generalize (g.L[i]).members = x at *
    refine az (c := ⟨Try.prog,21,[(1000000,[2])],[],[]⟩) (rs := [ResultVar.tmp 4]) Try.mixed Try.func17 rfl rfl rfl (Nat.le_of_ble_eq_true rfl) (by kernel_rfl) fun H => ?_
    simp (disch := omega) only [↓aI,↓zP,aD,zD,aS,simprocAttr,Try.facts,zA]
    intro k2 hk20 hk2
    rw [aj hk2]
    try simp (disch := omega) only [↓aI,↓zP,aD,zD,aS,simprocAttr,Try.facts,zA,hb,ei,hLc]
    exact Abs.Sub.refl _
  · have hz : memsM g n = [] := by unfold memsM; rw [if_pos (by omega)]
    rw [hz]
    by_cases h3 : n < 1
    · refine az (c := ⟨Try.prog,21,[(1000000,[2])],[],[]⟩) (rs := [ResultVar.tmp 4]) Try.mixed Try.func17 rfl rfl rfl (Nat.le_of_ble_eq_true rfl) (by kernel_rfl) fun H => ?_
      simp (disch := omega) only [↓aI,↓zP,aD,zD,aS,simprocAttr,Try.facts,zA]
      intro k2 hk20 hk2
      rw [aj hk2]
      try simp (disch := omega) only [↓aI,↓zP,aD,zD,aS,simprocAttr,Try.facts,zA]
      exact ⟨rfl,Abs.Sub.refl _⟩
    · refine az (c := ⟨Try.prog,21,[(1000000,[2])],[],[]⟩) (rs := [ResultVar.tmp 4]) Try.mixed Try.func17 rfl rfl rfl (Nat.le_of_ble_eq_true rfl) (by kernel_rfl) fun H => ?_
      simp (disch := omega) only [↓aI,↓zP,aD,zD,aS,simprocAttr,Try.facts,zA]
      intro k2 hk20 hk2
      rw [aj hk2]
      try simp (disch := omega) only [↓aI,↓zP,aD,zD,aS,simprocAttr,Try.facts,zA]
      exact ⟨rfl,Abs.Sub.refl _⟩
theorem mems_live {H : AH} {r k kd : Nat} (hg : OkG g) (hr0 : r ≠ 0) (hr : H r = some (lgP ad g k kd)) (n : Int) (hn : n ≤ 9223372036854775807) (hn0 : -9223372036854775808 ≤ n) : ACalls Try.prog 16 [.ptr r 0,.sc (.int .i64 n)] H fun v H' => v = memsV (memsM g n) ∧ H' = H := by
  have hlen := hg.len
  have hfew := hg.few
  have h2 := last_live H r k (bytesV ad) (.imm kd (g.D.map bytesV) g.D.length) (g.L.map slimE) hr0 (by rw [← lgP_B]; exact hr)
  rw [List.length_map] at h2
  by_cases h1 : 1 ≤ n ∧ n ≤ g.L.length
  · obtain ⟨i,rfl⟩ : ∃ i : Nat,n = (i : Int) + 1 := ⟨(n - 1).toNat,by omega⟩
    have hi : i < g.L.length := by omega
    have e : memsM g ((i : Int) + 1) = (g.L[i]).members := by
      unfold memsM
      rw [if_neg (by omega)]
      simp [List.getD,hi]
    have hb : ((g.L.map slimE).flatMap entC)[i * 7 + 2]? = some (memsV (g.L[i]).members) := by
      rw [flat_get entC_len (by rw [List.length_map]; exact hi) (by decide)]
      simp [entC,slimE]
    have hLc : ((g.L.map slimE).flatMap entC).length = g.L.length * 7 := by rw [flat_len entC_len,List.length_map]
    have ei : ((i : Int) + 1 - 1).toNat = i := by omega
    have hpf := parts_facts (right_parts (hg.ent _ (List.getElem_mem hi))).2.2.2.1
    have hcp := copied_pure (g.L[i]).members (by omega) (fun x hx => by have := hpf.2.2.2.2.1 x hx; omega)
    rw [e]
    generalize (g.L[i]).members = x at *
    refine ao (c := ⟨Try.prog,23,[],[],[]⟩) (rs := [ResultVar.tmp 4]) Try.mixed Try.func16 rfl rfl rfl (Nat.le_of_ble_eq_true rfl) (by kernel_rfl) ?_
    simp (disch := omega) only [↓aI,↓zP,aD,zD,aS,simprocAttr,Try.facts,zA,hr]
    refine CallK.i h2 ?_
    rintro v E ⟨rfl,rfl⟩
    try simp (disch := omega) only [↓aI,↓zP,aD,zD,aS,simprocAttr,Try.facts,zA,hr,hb,ei,hLc]
    first | refine CallK.p (hcp) ?_ | refine CallP.i (hcp) ?_
    simp (disch := omega) only [↓aI,↓zP,aD,zD,aS,simprocAttr,Try.facts,zA]
    exact ⟨_,rfl,_,Abs.Sub.refl _,rfl,rfl⟩
  · have hz : memsM g n = [] := by unfold memsM; rw [if_pos (by omega)]
    rw [hz]
    by_cases h3 : n < 1
    · refine ao (c := ⟨Try.prog,23,[],[],[]⟩) (rs := [ResultVar.tmp 4]) Try.mixed Try.func16 rfl rfl rfl (Nat.le_of_ble_eq_true rfl) (by kernel_rfl) ?_
      simp (disch := omega) only [↓aI,↓zP,aD,zD,aS,simprocAttr,Try.facts,zA,hr]
      exact ⟨_,rfl,_,Abs.Sub.refl _,rfl,rfl⟩
    · refine ao (c := ⟨Try.prog,23,[],[],[]⟩) (rs := [ResultVar.tmp 4]) Try.mixed Try.func16 rfl rfl rfl (Nat.le_of_ble_eq_true rfl) (by kernel_rfl) ?_
      simp (disch := omega) only [↓aI,↓zP,aD,zD,aS,simprocAttr,Try.facts,zA,hr]
      refine CallK.i h2 ?_
      rintro v E ⟨rfl,rfl⟩
      simp (disch := omega) only [↓aI,↓zP,aD,zD,aS,simprocAttr,Try.facts,zA,hr]
      exact ⟨_,rfl,_,Abs.Sub.refl _,rfl,rfl⟩
end Go.Proofs.Ytjlnpngaiphnmaa
end
section
set_option linter.unusedSimpArgs false
set_option linter.unusedVariables false
set_option maxRecDepth 20000
set_option maxHeartbeats 8000000
namespace Go.Proofs.Ytjlnpngaiphnmaa
open Go Go.Abs Go.Proofs
def endN : List Nd → Int → Option Int
  | [],_ => none
  | x :: l,a => if x.author = a then some x.seq else endN l a
def endR : List Ent → Int → Option Int
  | [],_ => none
  | e :: l,a => (endN e.ends a).or (endR l a)
def endM (es : List Ent) (a : Int) : Option Int := endR es.reverse a
abbrev endV (o : Option Int) : AV := .tup [.sc (.int .i64 (o.getD 0)),.sc (.bool o.isSome)]
theorem endR_slim : ∀ (l : List Ent) (a : Int),endR (l.map slimE) a = endR l a
  | [],_ => rfl
  | e :: l,a => by rw [List.map_cons,endR,endR,endR_slim l a]; rfl
theorem endM_slim (l : List Ent) (a : Int) : endM (l.map slimE) a = endM l a := by
  unfold endM
  rw [← List.map_reverse,endR_slim]
theorem take_rev {es : List Ent} {m : Nat} (h : m < es.length) : (es.take (m + 1)).reverse = es[m] :: (es.take m).reverse := by
  rw [List.take_succ_eq_append_getElem h,List.reverse_append]; rfl
theorem end_live (H : AH) (r k : Nat) (a d : AV) (es : List Ent) (au : Int) (hl : es.length ≤ 1000000) (he : ∀ e ∈ es,e.ends.length ≤ 1000000) (hr0 : r ≠ 0) (hr : H r = some (lgB a k es d)) : ACalls Try.prog 10 [.ptr r 0,.sc (.int .i64 au)] H fun v H' => v = endV (endM es au) ∧ H' = H := by
  have h2 := last_live H r k a d es hr0 hr
  have hcl : (es.flatMap entC).length = es.length * 7 := flat_len entC_len es
  have hg3 : ∀ i (h : i < es.length),(es.flatMap entC)[i * 7 + 3]? = some (ndsV (es[i]).ends) := fun i h => by
    rw [flat_get entC_len h (by decide)]; rfl
  have hnd := fun (ns : List Nd) i (h : i < ns.length) => nd_load h
  have hnc := fun ns : List Nd => flat_len ndC_len ns
  generalize hR : endM es au = R at *
  refine ao (c := ⟨Try.prog,39,[(4,[0,0,0,0,0,2,0,0,0,0,0,0,0,0]),(1000006,[8])],[],[(4,(.op 0 0 (.op 1 0 (.op 2 0 (.op 4 0 (.op 7 0 (.op 13 0 (.op 3 4 (.op 5 5 (.op 6 0 (.op 8 0 (.op 9 0 (.op 10 0 (.op 11 0 (.op 12 0 .nil)))))))))))))))]⟩) (rs := [ResultVar.tmp 4,ResultVar.tmp 5]) Try.mixed Try.func10 rfl rfl rfl (Nat.le_of_ble_eq_true rfl) (by kernel_rfl) ?_
  simp (disch := omega) only [↓aI,↓zP,aD,zD,aS,simprocAttr,Try.facts,zA]
  refine CallK.i h2 ?_
  rintro v E ⟨rfl,rfl⟩
  try simp (disch := omega) only [↓aI,↓zP,aD,zD,aS,simprocAttr,Try.facts,zA]
  refine br (c := ⟨Try.prog,39,[(4,[0,0,0,0,0,2,0,0,0,0,0,0,0,0]),(1000006,[8])],[],[(4,(.op 0 0 (.op 1 0 (.op 2 0 (.op 4 0 (.op 7 0 (.op 13 0 (.op 3 4 (.op 5 5 (.op 6 0 (.op 8 0 (.op 9 0 (.op 10 0 (.op 11 0 (.op 12 0 .nil)))))))))))))))]⟩) Try.mixed (by kernel_rfl) (fun mm σ H' => H' = E ∧ ∃ (j : Nat),j + mm = es.length ∧ endR (es.take mm).reverse au = R ∧
    σ 0 = .ptr r 0 ∧ σ 1 = .sc (.int .i64 au) ∧ σ 10 = .sc (.int .i64 (es.length : Nat)) ∧ σ 11 = .sc (.int .i64 (j : Nat))) es.length ?_ ?_
  · refine ⟨rfl,0,by omega,by rw [List.take_length]; exact hR,?_⟩
    simp (disch := omega) only [↓aI,↓zP,aD,zD,aS,simprocAttr,Try.facts,zA]
  · rintro mm σ H' ⟨rfl,j,him,hf,s0,s1,s10,s11⟩
    by_cases hlt : j < es.length
    · obtain ⟨m,rfl⟩ : ∃ m,mm = m + 1 := ⟨mm - 1,by omega⟩
      have hml : m < es.length := by omega
      rw [take_rev hml,endR] at hf
      have hg := hg3 m hml
      have hen := he _ (List.getElem_mem hml)
      have hc := hnc (es[m]).ends
      have hn := hnd (es[m]).ends
      generalize (es[m]).ends = ns at *
      generalize hL : endR (es.take m).reverse au = L at *
      have hj : es.length - 1 - j = m := by omega
      have hji : ((es.length : Int) - 1 - (j : Int)).toNat = m := by omega
      simp (disch := omega) only [↓aI,↓zP,aD,zD,aS,simprocAttr,Try.facts,zA,s0,s1,s10,s11,hr]
      refine draw_one ?_
      simp (disch := omega) only [↓aI,↓zP,aD,zD,aS,simprocAttr,Try.facts,zA,s0,s1,s10,s11,hr]
      refine CallK.i h2 ?_
      rintro v E ⟨rfl,rfl⟩
      refine ⟨SubC.refl,?_⟩
      try simp (disch := omega) only [↓aI,↓zP,aD,zD,aS,simprocAttr,Try.facts,zA,s0,s1,s10,s11,hr,hg,hcl,hj]
      refine br (c := ⟨Try.prog,39,[(4,[0,0,0,0,0,2,0,0,0,0,0,0,0,0]),(1000006,[8])],[],[(4,(.op 0 0 (.op 1 0 (.op 2 0 (.op 4 0 (.op 7 0 (.op 13 0 (.op 3 4 (.op 5 5 (.op 6 0 (.op 8 0 (.op 9 0 (.op 10 0 (.op 11 0 (.op 12 0 .nil)))))))))))))))]⟩) Try.mixed (by kernel_rfl) (fun mq σ F => F = E ∧ ∃ (q : Nat),q + mq = ns.length ∧ (endN (ns.drop q) au).or L = R ∧
        σ 0 = .ptr r 0 ∧ σ 1 = .sc (.int .i64 au) ∧ σ 10 = .sc (.int .i64 (es.length : Nat)) ∧ σ 11 = .sc (.int .i64 (j : Nat)) ∧ σ 25 = ndsV ns ∧ σ 26 = .sc (.int .i64 (ns.length : Nat)) ∧ σ 27 = .sc (.int .i64 (q : Nat))) ns.length ?_ ?_
      · refine ⟨rfl,0,by omega,hf,?_⟩
        simp (disch := omega) only [↓aI,↓zP,aD,zD,aS,simprocAttr,Try.facts,zA,s0,s1,s10,s11]
      · rintro mq σ F ⟨rfl,q,hq,hf,s0,s1,s10,s11,s25,s26,s27⟩
        by_cases hlq : q < ns.length
        · have hd2 : ns.drop q = ns[q] :: ns.drop (q + 1) := List.drop_eq_getElem_cons hlq
          have hn := hn q hlq
          have hc2 : q * 2 + 2 ≤ ns.length * 2 := by omega
          rw [hd2,endN] at hf
          generalize ns[q] = x at *
          obtain ⟨xa,xs⟩ := x
          simp only [] at hf hn
          by_cases cc : xa = au
          · rw [if_pos cc,Option.some_or] at hf
            subst hf
            simp (disch := omega) only [↓aI,↓zP,aD,zD,aS,simprocAttr,Try.facts,zA,s0,s1,s10,s11,s25,s26,s27,hc,hn,hc2,ah]
            intro k7 hk70 hk7
            try simp (disch := omega) only [↓aI,↓zP,aD,zD,aS,simprocAttr,Try.facts,zA,s0,s1,s10,s11,s25,s26,s27,cc,aj hk7]
            exact ⟨_,rfl,_,Abs.Sub.refl _,rfl,rfl⟩
          · rw [if_neg cc] at hf
            simp (disch := omega) only [↓aI,↓zP,aD,zD,aS,simprocAttr,Try.facts,zA,s0,s1,s10,s11,s25,s26,s27,hc,hn,hc2,ah]
            intro k7 hk70 hk7
            try simp (disch := omega) only [↓aI,↓zP,aD,zD,aS,simprocAttr,Try.facts,zA,s0,s1,s10,s11,s25,s26,s27,cc,aj hk7]
            exact ⟨mq - 1,by omega,q + 1,by omega,hf,rfl⟩
        · obtain rfl : q = ns.length := by omega
          rw [List.drop_length,endN,Option.none_or] at hf
          simp (disch := omega) only [↓aI,↓zP,aD,zD,aS,simprocAttr,Try.facts,zA,s0,s1,s10,s11,s25,s26,s27,hc]
          exact ⟨m,by omega,j + 1,by omega,by rw [hL]; exact hf,rfl⟩
    · obtain ⟨rfl,rfl⟩ : j = es.length ∧ mm = 0 := by omega
      rw [List.take_zero,List.reverse_nil,endR] at hf
      subst hf
      simp (disch := omega) only [↓aI,↓zP,aD,zD,aS,simprocAttr,Try.facts,zA,s0,s1,s10,s11]
      exact ⟨_,rfl,_,Abs.Sub.refl _,rfl,rfl⟩
theorem rend_pure (a d : AV) (es : List Ent) (au : Int) (hl : es.length ≤ 1000000) (he : ∀ e ∈ es,e.ends.length ≤ 1000000) : APure Try.prog 11 [.agg (lgD a es d),.sc (.int .i64 au)] (endV (endM es au)) := by
  have hcl : (es.flatMap entC).length = es.length * 7 := flat_len entC_len es
  have hg3 : ∀ i (h : i < es.length),(es.flatMap entC)[i * 7 + 3]? = some (ndsV (es[i]).ends) := fun i h => by
    rw [flat_get entC_len h (by decide)]; rfl
  have hn0 : ∀ (ns : List Nd) i (h : i < ns.length),(ns.flatMap ndC)[i * 2]? = some (.sc (.int .i64 (ns[i]).author)) := fun ns i h => by
    have := flat_get ndC_len h (j := 0) (by omega)
    rw [Nat.add_zero] at this
    rw [this]; rfl
  have hn1 : ∀ (ns : List Nd) i (h : i < ns.length),(ns.flatMap ndC)[i * 2 + 1]? = some (.sc (.int .i64 (ns[i]).seq)) := fun ns i h => by
    rw [flat_get ndC_len h (by decide)]; rfl
  have hnc := fun ns : List Nd => flat_len ndC_len ns
  generalize hR : endM es au = R at *
  refine az (c := ⟨Try.prog,49,[(1000000,[2])],[],[]⟩) (rs := [ResultVar.tmp 4,ResultVar.tmp 5]) Try.mixed Try.func11 rfl rfl rfl (Nat.le_of_ble_eq_true rfl) (by kernel_rfl) fun H => ?_
  simp (disch := omega) only [↓aI,↓zP,aD,zD,aS,simprocAttr,Try.facts,zA]
  intro k2 hk20 hk2
  try simp (disch := omega) only [↓aI,↓zP,aD,zD,aS,simprocAttr,Try.facts,zA]
  refine br (c := ⟨Try.prog,49,[(1000000,[2])],[],[]⟩) Try.mixed (by kernel_rfl) (fun mm σ H' => H' = H ∧ mm ≤ es.length ∧ endR (es.take mm).reverse au = R ∧
    σ 1 = .sc (.int .i64 au) ∧ σ 2 = .ip (lgD a es d) 0 ∧ σ 6 = .sc (.int .i64 ((mm : Int) - 1))) es.length ?_ ?_
  · refine ⟨aj hk2,by omega,by rw [List.take_length]; exact hR,?_⟩
    simp (disch := omega) only [↓aI,↓zP,aD,zD,aS,simprocAttr,Try.facts,zA]
  · rintro mm σ H' ⟨rfl,him,hf,s1,s2,s6⟩
    cases mm with
    | succ m =>
      have hml : m < es.length := by omega
      rw [take_rev hml,endR] at hf
      have hg := hg3 m hml
      have hen := he _ (List.getElem_mem hml)
      have hc := hnc (es[m]).ends
      have hn0 := hn0 (es[m]).ends
      have hn1 := hn1 (es[m]).ends
      generalize (es[m]).ends = ns at *
      generalize hL : endR (es.take m).reverse au = L at *
      have hji : (((m + 1 : Nat) : Int) - 1) = (m : Nat) := by omega
      rw [hji] at s6
      simp (disch := omega) only [↓aI,↓zP,aD,zD,aS,simprocAttr,Try.facts,zA,s1,s2,s6]
      refine br (c := ⟨Try.prog,49,[(1000000,[2])],[],[]⟩) Try.mixed (by kernel_rfl) (fun mq σ F => F = H' ∧ ∃ (q : Nat),q + mq = ns.length ∧ (endN (ns.drop q) au).or L = R ∧
        σ 1 = .sc (.int .i64 au) ∧ σ 2 = .ip (lgD a es d) 0 ∧ σ 6 = .sc (.int .i64 (m : Nat)) ∧ σ 7 = .sc (.int .i64 (q : Nat))) ns.length ?_ ?_
      · refine ⟨rfl,0,by omega,hf,?_⟩
        simp (disch := omega) only [↓aI,↓zP,aD,zD,aS,simprocAttr,Try.facts,zA,s1,s2,s6]
      · rintro mq σ F ⟨rfl,q,hq,hf,s1,s2,s6,s7⟩
        by_cases hlq : q < ns.length
        · have hd2 : ns.drop q = ns[q] :: ns.drop (q + 1) := List.drop_eq_getElem_cons hlq
          have hn0 := hn0 q hlq
          have hn1 := hn1 q hlq
          rw [hd2,endN] at hf
          generalize ns[q] = x at *
          obtain ⟨xa,xs⟩ := x
          simp only [] at hf hn0 hn1
          by_cases cc : xa = au
          · rw [if_pos cc,Option.some_or] at hf
            subst hf
            simp (disch := omega) only [↓aI,↓zP,aD,zD,aS,simprocAttr,Try.facts,zA,s1,s2,s6,s7,hcl,hg,hc,hn0,hn1,cc,ah]
            exact ⟨rfl,Abs.Sub.refl _⟩
          · rw [if_neg cc] at hf
            simp (disch := omega) only [↓aI,↓zP,aD,zD,aS,simprocAttr,Try.facts,zA,s1,s2,s6,s7,hcl,hg,hc,hn0,hn1,cc,ah]
            exact ⟨mq - 1,by omega,q + 1,by omega,hf,rfl⟩
        · obtain rfl : q = ns.length := by omega
          rw [List.drop_length,endN,Option.none_or] at hf
          simp (disch := omega) only [↓aI,↓zP,aD,zD,aS,simprocAttr,Try.facts,zA,s1,s2,s6,s7,hcl,hg,hc]
          exact ⟨m,by omega,by omega,by rw [hL]; exact hf,rfl⟩
    | zero =>
      rw [List.take_zero,List.reverse_nil,endR] at hf
      subst hf
      simp (disch := omega) only [↓aI,↓zP,aD,zD,aS,simprocAttr,Try.facts,zA,s1,s2,s6]
      exact ⟨rfl,Abs.Sub.refl _⟩
end Go.Proofs.Ytjlnpngaiphnmaa
end
section
set_option linter.unusedSimpArgs false
set_option linter.unusedVariables false
set_option maxRecDepth 20000
set_option maxHeartbeats 8000000
namespace Go.Proofs.Ytjlnpngaiphnmaa
open Go Go.Abs Go.Proofs
theorem samem_pure (ms : List Mem) (hl : ms.length ≤ 1000000) (hb : ∀ m ∈ ms,m.pub.length ≤ 1000000 ∧ m.sgn.length ≤ 1000000) : APure Try.prog 15 [memsV ms,memsV ms] (.sc (.bool true)) := by
  have hml : (ms.flatMap memC).length = ms.length * 3 := flat_len memC_len ms
  have h0 : ∀ i (h : i < ms.length),(ms.flatMap memC)[i * 3]? = some (.sc (.int .i64 (ms[i]).id)) := fun i h => by
    have := flat_get memC_len h (j := 0) (by omega)
    rw [Nat.add_zero] at this
    rw [this]; rfl
  have h1 : ∀ i (h : i < ms.length),(ms.flatMap memC)[i * 3 + 1]? = some (bytesV (ms[i]).pub) := fun i h => by
    rw [flat_get memC_len h (by decide)]; rfl
  have h2 : ∀ i (h : i < ms.length),(ms.flatMap memC)[i * 3 + 2]? = some (bytesV (ms[i]).sgn) := fun i h => by
    rw [flat_get memC_len h (by decide)]; rfl
  refine az (c := ⟨Try.prog,58,[(6,[0,0,0,0,1,0,0,0,0,1,0,0,0,0,0,0,1,0,0,0,0,0,1,0,0,0,0,0,0,0,0,1,0,0,0,0,0,1,0,0,0])],[],[]⟩) (rs := [ResultVar.tmp 4]) Try.mixed Try.func15 rfl rfl rfl (Nat.le_of_ble_eq_true rfl) (by kernel_rfl) fun H => ?_
  simp (disch := omega) only [↓aI,↓zP,aD,zD,aS,simprocAttr,Try.facts,zA]
  refine br (c := ⟨Try.prog,58,[(6,[0,0,0,0,1,0,0,0,0,1,0,0,0,0,0,0,1,0,0,0,0,0,1,0,0,0,0,0,0,0,0,1,0,0,0,0,0,1,0,0,0])],[],[]⟩) Try.mixed (by kernel_rfl) (fun mm σ E => E = H ∧ ∃ (i : Nat),i + mm = ms.length ∧
    σ 0 = memsV ms ∧ σ 1 = memsV ms ∧ σ 5 = .sc (.int .i64 (i : Nat))) ms.length ?_ ?_
  · refine ⟨rfl,0,by omega,?_⟩
    simp (disch := omega) only [↓aI,↓zP,aD,zD,aS,simprocAttr,Try.facts,zA]
  · rintro mm σ E ⟨rfl,i,him,s0,s1,s5⟩
    by_cases hlt : i < ms.length
    · have h0 := h0 i hlt
      have h1 := h1 i hlt
      have h2 := h2 i hlt
      have hb := hb _ (List.getElem_mem hlt)
      generalize ms[i] = m at *
      obtain ⟨mi,mp,mg⟩ := m
      simp only [] at h0 h1 h2 hb
      simp (disch := omega) only [↓aI,↓zP,aD,zD,aS,simprocAttr,Try.facts,zA,s0,s1,s5,hml,h0,h1,h2]
      exact ⟨mm - 1,by omega,i + 1,by omega,rfl⟩
    · obtain rfl : i = ms.length := by omega
      simp (disch := omega) only [↓aI,↓zP,aD,zD,aS,simprocAttr,Try.facts,zA,s0,s1,s5,hml]
      first | exact Abs.Sub.refl _ | exact ⟨rfl,Abs.Sub.refl _⟩
variable {H : AH} {ad : List UInt8} {g : LogM} {r k kd : Nat}
theorem clone_live (hg : OkG g) (hr0 : r ≠ 0) (hk : k ≠ 0) (hkd : kd ≠ 0) (hr : H r = some (lgP ad g k kd)) : ACalls Try.prog 19 [.ptr r 0] H fun v H' => ∃ q k2 kd2,v = .ptr q 0 ∧ q ≠ 0 ∧ k2 ≠ 0 ∧ kd2 ≠ 0 ∧ H q = none ∧ H' q = some (lgP ad g k2 kd2) ∧ Abs.Sub H H' := by
  have hlen := hg.len
  have hfew := hg.few
  have hLc : ((g.L.map slimE).flatMap entC).length = g.L.length * 7 := by rw [flat_len entC_len,List.length_map]
  have hDc : (g.D.map bytesV).length = g.D.length := List.length_map _
  have hLl : (g.L.map slimE).length = g.L.length := List.length_map _
  refine ao (c := ⟨Try.prog,31,[(4,[0,0,0,0,0,0,0,0,0,0,2,0,0,0,0,0,0,2,0,2,0])],[2000021,2000028],[(4,(.op 0 0 (.op 1 0 (.op 2 0 (.op 4 0 (.op 5 0 (.op 6 0 (.op 8 0 (.op 9 0 (.op 11 0 (.op 12 0 (.op 13 0 (.op 15 0 (.op 16 0 (.op 3 4 (.op 7 4 (.op 14 4 (.or (.op 10 3 (.op 17 3 (.op 18 0 (.op 19 3 (.op 20 0 .nil))))) (.op 17 3 (.op 10 3 (.op 18 0 (.op 19 3 (.op 20 0 .nil)))))))))))))))))))))))]⟩) (rs := [ResultVar.tmp 2]) Try.mixed Try.func19 rfl rfl rfl (Nat.le_of_ble_eq_true rfl) (by kernel_rfl) ?_
  simp (disch := omega) only [↓aI,↓zP,aD,zD,aS,simprocAttr,Try.facts,zA,hr,hr0]
  refine eI (fun σ F => ∃ (q k2 kd2 : Nat),q ≠ 0 ∧ k2 ≠ 0 ∧ kd2 ≠ 0 ∧ H q = none ∧ F q = some (lgP ad g k2 kd2) ∧ Abs.Sub H F ∧ σ 2 = .ptr q 0) ?_ ?_
  · simp (disch := omega) only [↓aI,↓zP,aD,zD,aS,simprocAttr,Try.facts,zA,hr,hLc,hDc,hlen]
    refine ⟨?_,?_⟩
    · intro g1 hg10 hg1 g2 hg20 hg2 q hq0 hq
      have hv := set_get (H := (H.set g1 (.full g.L.length)).set g2 (.full g.L.length)) (k := q) (o := lgP ad g g1 g2)
      rw [lgP,hlen] at hv
      exact ⟨q,g1,g2,hq0,hg10,hg20,am (am hq),by rw [lgP,hlen]; exact hv,((Sub.set_new hg1).set_free (am hg2)).set_free (am (am hq)),rfl⟩
    · intro g1 hg10 hg1 g2 hg20 hg2 q hq0 hq
      have hv := set_get (H := (H.set g1 (.full g.L.length)).set g2 (.full g.L.length)) (k := q) (o := lgP ad g g2 g1)
      rw [lgP,hlen] at hv
      exact ⟨q,g2,g1,hq0,hg20,hg10,am (am hq),by rw [lgP,hlen]; exact hv,((Sub.set_new hg1).set_free (am hg2)).set_free (am (am hq)),rfl⟩
  · rintro σ F ⟨q,k2,kd2,a1,a2,a3,a4,a5,a6,s2⟩
    simp (disch := omega) only [↓aI,↓zP,aD,zD,aS,simprocAttr,Try.facts,zA,s2]
    exact ⟨_,rfl,_,Abs.Sub.refl _,q,k2,kd2,rfl,a1,a2,a3,a4,a5,a6⟩
end Go.Proofs.Ytjlnpngaiphnmaa
end
