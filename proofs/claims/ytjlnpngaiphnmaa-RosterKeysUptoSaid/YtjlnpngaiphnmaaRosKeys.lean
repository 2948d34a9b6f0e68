/-
  Rosters: the key that anybody finds in any entry is the document's.
  Conditions: none. Lemmas only.
-/
import Derived.Test.YtjlnpngaiphnmaaRtG7
set_option linter.all false
set_option linter.unusedSimpArgs false
set_option linter.unusedVariables false
set_option maxRecDepth 20000
set_option maxHeartbeats 16000000
namespace Go.Proofs.Ytjlnpngaiphnmaa
open Go Go.Abs Go.Proofs
theorem keys_walk (l : List DoM) (at_ : Int) (change : UInt8) (id : Int) (by_ : UInt8) (hl : l.length ≤ 2000000) (he : ∀ t ∈ l, t.ends.length ≤ 2000000) :
    APure Try.prog 6 [dosV l,.sc (.int .i64 at_),.sc (.int .u8 change.toNat),.sc (.int .i64 id),.sc (.int .u8 by_.toNat)] (.sc (.bool true)) := by
  have hs := small_pure l hl he
  have haw := rawake_pure
  cases hsm : smallM l
  · rw [hsm] at hs
    refine az (c := ⟨Try.prog,92,[(8,[0,0,0,0,0,0,0,0,0,0,0,0,0,2,2,2]),(10,[0,0,0,0,0,2,0,2,2,0,0,0,0,0]),(1000003,[11]),(1000008,[13]),(1000011,[17]),(4000012,[10]),(4000011,[15,16,18,19]),(4000010,[3,11,13,14,15,16]),(4000009,[3,11,13,14]),(4000008,[3,4,11,13]),(4000003,[1,2,3,4,11,12])],[63],[(8,(.op 0 0 (.op 1 0 (.op 2 0 (.op 3 0 (.op 4 0 (.op 5 0 (.op 6 0 (.op 7 0 (.op 8 0 (.op 9 0 (.op 10 0 (.op 11 0 (.op 12 0 (.or (.op 13 2 (.op 14 3 (.op 15 2 .nil))) (.op 14 3 (.op 13 2 (.op 15 2 .nil)))))))))))))))))),(10,(.op 0 0 (.op 1 0 (.op 2 0 (.op 3 0 (.op 4 0 (.op 6 0 (.op 5 3 (.op 7 3 (.op 8 2 (.op 9 0 (.op 10 0 (.op 11 0 (.op 12 0 (.op 13 0 .nil)))))))))))))))]⟩) (rs := [ResultVar.tmp 10]) Try.mixed Try.func6 rfl rfl rfl (Nat.le_of_ble_eq_true rfl) (by kernel_rfl) fun H => ?_
    simp (disch := omega) only [↓aI,↓zP,aD,zD,aS,simprocAttr,Try.facts,zA]
    first | refine CallK.p (hs) ?_ | refine CallP.i (hs) ?_
    simp (disch := omega) only [↓aI,↓zP,aD,zD,aS,simprocAttr,Try.facts,zA]
    first | refine CallK.p (haw) ?_ | refine CallP.i (haw) ?_
    simp (disch := omega) only [↓aI,↓zP,aD,zD,aS,simprocAttr,Try.facts,zA]
    exact Abs.Sub.refl _
  · rw [hsm] at hs
    have h12 := small_len hsm
    have hpl := fun G => played_live G l (by omega) (fun t h => by have := small_ends hsm t h; omega)
    have hok := play_ok (c := begM 5) (ad := ad5) l begB_ok (by omega)
    change OkB _ (playB l) at hok
    rw [Nat.zero_add] at hok
    have hc := beg_ok
    generalize playB l = B at *
    generalize ad5 = ad at *
    generalize begM 5 = c at *
    have hg := hok.g
    have hml := hok.ml
    obtain ⟨ts,d,g,made⟩ := B
    simp only [] at *
    by_cases hm : made = []
    · subst hm
      refine az (c := ⟨Try.prog,92,[(8,[0,0,0,0,0,0,0,0,0,0,0,0,0,2,2,2]),(10,[0,0,0,0,0,2,0,2,2,0,0,0,0,0]),(1000003,[11]),(1000008,[13]),(1000011,[17]),(4000012,[10]),(4000011,[15,16,18,19]),(4000010,[3,11,13,14,15,16]),(4000009,[3,11,13,14]),(4000008,[3,4,11,13]),(4000003,[1,2,3,4,11,12])],[63],[(8,(.op 0 0 (.op 1 0 (.op 2 0 (.op 3 0 (.op 4 0 (.op 5 0 (.op 6 0 (.op 7 0 (.op 8 0 (.op 9 0 (.op 10 0 (.op 11 0 (.op 12 0 (.or (.op 13 2 (.op 14 3 (.op 15 2 .nil))) (.op 14 3 (.op 13 2 (.op 15 2 .nil)))))))))))))))))),(10,(.op 0 0 (.op 1 0 (.op 2 0 (.op 3 0 (.op 4 0 (.op 6 0 (.op 5 3 (.op 7 3 (.op 8 2 (.op 9 0 (.op 10 0 (.op 11 0 (.op 12 0 (.op 13 0 .nil)))))))))))))))]⟩) (rs := [ResultVar.tmp 10]) Try.mixed Try.func6 rfl rfl rfl (Nat.le_of_ble_eq_true rfl) (by kernel_rfl) fun H => ?_
      simp (disch := omega) only [↓aI,↓zP,aD,zD,aS,simprocAttr,Try.facts,zA]
      first | refine CallK.p (hs) ?_ | refine CallP.i (hs) ?_
      simp (disch := omega) only [↓aI,↓zP,aD,zD,aS,simprocAttr,Try.facts,zA]
      refine CallK.i (hpl _) ?_
      rintro v E ⟨h,m,r,k,kd,rfl,hr0,hk,hkd,hr,s⟩
      have hsb := (Sub.set_new (o := lgP ad g k kd) hr).trans s.sub
      try simp (disch := omega) only [↓aI,↓zP,aD,zD,aS,simprocAttr,Try.facts,zA]
      intro b1 hb10 hb1
      try simp (disch := omega) only [↓aI,↓zP,aD,zD,aS,simprocAttr,Try.facts,zA,ah,aj hb1]
      first | refine CallK.p (haw) ?_ | refine CallP.i (haw) ?_
      simp (disch := omega) only [↓aI,↓zP,aD,zD,aS,simprocAttr,Try.facts,zA]
      exact hsb
    · obtain ⟨hpk,hrt⟩ := hok.pick ⟨0,false,false,[],0,false,at_,change⟩ hm
      have hrt : rightE (made.getD (idxM at_ made.length) zeroE) = true := hrt
      have hl : 0 < made.length := List.length_pos_iff.2 hm
      have hi := idxM_lt (a := at_) hl
      have hix := idx_eq at_ made.length hl (by omega)
      have hu0 : ¬ IntKind.u64.wrap (made.length : Int) = 0 := by rw [wcastU (by omega)]; omega
      have hld := ent_load hi
      have hmc : (made.flatMap entC).length = made.length * 7 := flat_len entC_len _
      have he0 : made.getD (idxM at_ made.length) zeroE = made[idxM at_ made.length] := by simp only [List.getD,List.getElem?_eq_getElem hi,Option.getD_some]
      have hrp := right_parts hrt
      have hch := changed_pure (made.getD (idxM at_ made.length) zeroE) change (right_ok hrt) (by omega)
      have hc7 : idxM at_ made.length * 7 + 7 ≤ made.length * 7 := by omega
      have hgt := hok.gt
      have hkp := rkey_pure (d := d) hpk hgt (by omega) id (c.S.getD (by_.toNat % 5) [])
      have h50 : by_.toNat % 5 < 5 := Nat.mod_lt _ (by omega)
      have hS5 := hc.sl
      have hsl : (c.S.getD (by_.toNat % 5) []).length = 32 := by
        simp only [List.getD,List.getElem?_eq_getElem (show by_.toNat % 5 < c.S.length by omega),Option.getD_some]
        exact hc.s32 _ (List.getElem_mem _)
      have hkl := fun (D E : AH) (h m : Nat) (s : SS D E h m d ts) => key_live hpk hgt (by omega) s id (c.S.getD (by_.toNat % 5) []) (by omega)
      have hs5 : (c.S.map bytesV)[by_.toNat % 5]? = some (bytesV (c.S.getD (by_.toNat % 5) [])) := by
        simp [List.getD,List.getElem?_eq_getElem (show by_.toNat % 5 < c.S.length by omega)]
      have hSl : (c.S.map bytesV).length = 5 := by rw [List.length_map]; exact hS5
      have hw5 : (IntKind.i64.wrap (by_.toNat : Int)).tmod 5 = ((by_.toNat % 5 : Nat) : Int) := by
        have := by_.toNat_lt
        rw [wrapI (by omega)]
        exact tmodN _ 5
      unfold pickE at *
      simp only [] at *
      rw [he0] at *
      generalize c.S.getD (by_.toNat % 5) [] = sec at *
      generalize idxM at_ made.length = i at *
      generalize keyM ts (chE made[i] change) id sec = R at *
      generalize chE made[i] change = e1 at *
      generalize made[i] = e0 at *
      clear he0 hrp hrt hpk
      obtain ⟨n1,pr1,ms1,ns1,on1,bs1,sg1⟩ := e1
      simp only [entC] at *
      refine az (c := ⟨Try.prog,92,[(8,[0,0,0,0,0,0,0,0,0,0,0,0,0,2,2,2]),(10,[0,0,0,0,0,2,0,2,2,0,0,0,0,0]),(1000003,[11]),(1000008,[13]),(1000011,[17]),(4000012,[10]),(4000011,[15,16,18,19]),(4000010,[3,11,13,14,15,16]),(4000009,[3,11,13,14]),(4000008,[3,4,11,13]),(4000003,[1,2,3,4,11,12])],[63],[(8,(.op 0 0 (.op 1 0 (.op 2 0 (.op 3 0 (.op 4 0 (.op 5 0 (.op 6 0 (.op 7 0 (.op 8 0 (.op 9 0 (.op 10 0 (.op 11 0 (.op 12 0 (.or (.op 13 2 (.op 14 3 (.op 15 2 .nil))) (.op 14 3 (.op 13 2 (.op 15 2 .nil)))))))))))))))))),(10,(.op 0 0 (.op 1 0 (.op 2 0 (.op 3 0 (.op 4 0 (.op 6 0 (.op 5 3 (.op 7 3 (.op 8 2 (.op 9 0 (.op 10 0 (.op 11 0 (.op 12 0 (.op 13 0 .nil)))))))))))))))]⟩) (rs := [ResultVar.tmp 10]) Try.mixed Try.func6 rfl rfl rfl (Nat.le_of_ble_eq_true rfl) (by kernel_rfl) fun H => ?_
      simp (disch := omega) only [↓aI,↓zP,aD,zD,aS,simprocAttr,Try.facts,zA]
      first | refine CallK.p (hs) ?_ | refine CallP.i (hs) ?_
      simp (disch := omega) only [↓aI,↓zP,aD,zD,aS,simprocAttr,Try.facts,zA]
      refine CallK.i (hpl _) ?_
      rintro v E ⟨h,m,r,k,kd,rfl,hr0,hk,hkd,hr,s⟩
      have hsb := (Sub.set_new (o := lgP ad g k kd) hr).trans s.sub
      try simp (disch := omega) only [↓aI,↓zP,aD,zD,aS,simprocAttr,Try.facts,zA]
      intro b1 hb10 hb1
      try simp (disch := omega) only [↓aI,↓zP,aD,zD,aS,simprocAttr,Try.facts,zA,ah,aj hb1,hl,hmc]
      refine eI (fun σ F => ∃ b13,F = E.set b13 (.cells [.sc (.int .i64 n1),bytesV pr1,memsV ms1,ndsV ns1,bytesV on1,rowsV bs1,bytesV sg1] 59 7) ∧ E b13 = none ∧ σ 13 = .ptr b13 0 ∧ σ 11 = .ip (bothC h r ts d ad g c.S c.G c.M made) 0 ∧ σ 3 = .sc (.int .i64 id) ∧ σ 4 = .sc (.int .u8 by_.toNat)) ?_ ?_
      · simp (disch := omega) only [↓aI,↓zP,aD,zD,aS,simprocAttr,Try.facts,zA,hl,hmc,hix,hld,hc7,hu0,ah]
        refine And.intro ?_ ?_
        · skip
          first | refine CallK.p (hch) ?_ | refine CallP.i (hch) ?_
          simp (disch := omega) only [↓aI,↓zP,aD,zD,aS,simprocAttr,Try.facts,zA,hl,hmc,hix,hld,hc7,hu0,ah]
          intro b6 hb60 hb6
          try simp (disch := omega) only [↓aI,↓zP,aD,zD,aS,simprocAttr,Try.facts,zA,hl,hmc,hix,hld,hc7,hu0,set_twice,ah]
          exact ⟨b6,rfl,hb6,rfl⟩
        · intro b6 hb60 hb6
          try simp (disch := omega) only [↓aI,↓zP,aD,zD,aS,simprocAttr,Try.facts,zA,hl,hmc,hix,hld,hc7,hu0,set_twice,ah]
          first | refine CallK.p (hch) ?_ | refine CallP.i (hch) ?_
          simp (disch := omega) only [↓aI,↓zP,aD,zD,aS,simprocAttr,Try.facts,zA,hl,hmc,hix,hld,hc7,hu0,ah,set_twice]
          exact ⟨b6,rfl,hb6,rfl⟩
      · rintro σ F ⟨b13,rfl,hb13,s13,s11,s3,s4⟩
        simp (disch := omega) only [↓aI,↓zP,aD,zD,aS,simprocAttr,Try.facts,zA,s13,s11,s3,s4,aj hb13,hw5,hSl,hS5,h50,hs5]
        refine draw_one ?_
        simp (disch := omega) only [↓aI,↓zP,aD,zD,aS,simprocAttr,Try.facts,zA,s13,s11,s3,s4,aj hb13,hw5,hSl,hS5,h50,hs5]
        intro t1 ht10 ht1
        try simp (disch := omega) only [↓aI,↓zP,aD,zD,aS,simprocAttr,Try.facts,zA,s13,s11,s3,s4,aj ht1,hw5,hSl,hS5,h50,hs5]
        intro k1 o1 hk10 hk1 ho1
        have hk1' := am hk1
        have s2 := s.up (Sub.set_new (o := o1) hk1')
        try simp (disch := omega) only [↓aI,↓zP,aD,zD,aS,simprocAttr,Try.facts,zA,s13,s11,s3,s4,aj ht1,hw5,hSl,hS5,h50,hs5]
        refine CallK.i (hkl _ _ _ _ s2) ?_
        rintro v E2 ⟨rfl,s3'⟩
        have hsb := (Sub.set_new (o := lgP ad g k kd) hr).trans s3'.sub
        try simp (disch := omega) only [↓aI,↓zP,aD,zD,aS,simprocAttr,Try.facts,zA,s13,s11,s3,s4]
        first | refine CallK.p (hkp) ?_ | refine CallP.i (hkp) ?_
        simp (disch := omega) only [↓aI,↓zP,aD,zD,aS,simprocAttr,Try.facts,zA,s13,s11,s3,s4]
        intro b17 hb170 hb17
        try simp (disch := omega) only [↓aI,↓zP,aD,zD,aS,simprocAttr,Try.facts,zA,s13,s11,s3,s4,aj hb17,ah]
        first | refine CallK.p (haw) ?_ | refine CallP.i (haw) ?_
        simp (disch := omega) only [↓aI,↓zP,aD,zD,aS,simprocAttr,Try.facts,zA]
        exact hsb
end Go.Proofs.Ytjlnpngaiphnmaa
