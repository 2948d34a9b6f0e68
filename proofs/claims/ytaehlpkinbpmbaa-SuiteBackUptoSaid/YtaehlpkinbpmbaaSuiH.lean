/-
  The walks of the suite layer: whose name some bytes are.
  Conditions: none. Lemmas only.
-/
import Derived.Test.YtaehlpkinbpmbaaSuiG
set_option linter.all false
set_option linter.unusedSimpArgs false
set_option linter.unusedVariables false
set_option maxRecDepth 20000
namespace Go.Proofs.Ytaehlpkinbpmbaa
open Go Go.Abs Go.Proofs

def numB (b : List UInt8) : Nat := cU ((b.drop 1).take 8)
def findT (ts : List Term) (b : List UInt8) (kd : UInt8) : Term × Bool :=
  if b.length < 9 ∨ b.headD 0 ≠ kd then (⟨0,[]⟩,false)
  else if numB b < 1 ∨ ts.length < numB b then (⟨0,[]⟩,false)
  else (ts.getD (numB b - 1) ⟨0,[]⟩,decide ((ts.getD (numB b - 1) ⟨0,[]⟩).kind = kd ∧ b = nameT (ts.getD (numB b - 1) ⟨0,[]⟩) (numB b)))

theorem find_live (H : AH) (h m k d : Nat) (ts : List Term) (b : List UInt8) (kd : UInt8) (hbl : b.length ≤ 140737488355328) (hts : ∀ x ∈ ts, okT x) (hl : ts.length ≤ 1000000) (g : IsI H h m k d ts) :
    ACalls Try.prog 115 [.ptr h 0,bytesV b,.sc (.int .u8 kd.toNat)] H fun v H' => v = .tup [termV (findT ts b kd).1,.sc (.bool (findT ts b kd).2)] ∧ H' = H := by
  obtain ⟨k0,hi,hm,o,hk,ho⟩ := id g
  have hTl := termsC_length ts
  refine ao (c := ⟨Try.prog,71,[(12,[1,0,1,0,0,0,0,1,0,0,0,0,0,2,0]),(1000011,[10]),(4000012,[6,7]),(4000011,[1,2,6,8,10]),(4000009,[0,1,2,6,8,48]),(4000007,[0,1,2,6,8,22]),(4000001,[0,1,2,6,20])],[],[]⟩) (rs := [ResultVar.cell 6 113,ResultVar.tmp 7]) Try.mixed Try.func115 rfl rfl rfl (Nat.le_of_ble_eq_true rfl) (by kernel_rfl) ?_
  by_cases h9 : b.length < 9
  · have hf : findT ts b kd = (⟨0,[]⟩,false) := by rw [findT,if_pos (.inl h9)]
    rw [hf]
    have hb1 : decide ((b.length : Int) < 9) = true := by simp; omega
    simp (disch := omega) only [↓aI,↓zP,aD,zD,aS,simprocAttr,Try.facts,hb1,ah]
    exact fun b0 hb0 hb => ⟨_,rfl,H,Abs.Sub.set_new hb,rfl,rfl⟩
  · have hb1 : decide ((b.length : Int) < 9) = false := by simp; omega
    have g0 := getB (l := b) (i := 0) (by omega)
    have hhd : b.headD 0 = b[0] := by cases b with | nil => simp at h9 | cons x r => rfl
    by_cases hk0 : b[0] = kd
    · have hb2 : ((b[0].toNat : Int) != (kd.toNat : Int)) = false := by rw [hk0]; simp
      simp (disch := omega) only [↓aI,↓zP,aD,zD,aS,simprocAttr,Try.facts]
      intro b0 hb00 hb0
      simp (disch := omega) only [↓aI,↓zP,aD,zD,aS,simprocAttr,Try.facts,hb1,hb2,g0,ah]
      refine br (c := ⟨Try.prog,71,[(12,[1,0,1,0,0,0,0,1,0,0,0,0,0,2,0]),(1000011,[10]),(4000012,[6,7]),(4000011,[1,2,6,8,10]),(4000009,[0,1,2,6,8,48]),(4000007,[0,1,2,6,8,22]),(4000001,[0,1,2,6,20])],[],[]⟩) Try.mixed (by kernel_rfl) (fun mm σ H' => H' = H.set b0 (.cells [.sc (.int .u8 0),.sc (.slice none 0 0)] 113 2) ∧ ∃ i,i + mm = 8 ∧ σ 0 = .ptr h 0 ∧ σ 1 = bytesV b ∧ σ 2 = .sc (.int .u8 kd.toNat) ∧ σ 6 = .ptr b0 0 ∧ σ 8 = .sc (.int .u64 (cU ((b.drop 1).take i))) ∧ σ 22 = .sc (.int .i64 i)) 8 ?_ ?_
      · refine ⟨rfl,0,by omega,?_⟩
        simp (disch := omega) only [↓aI,↓zP,aD,zD,aS,simprocAttr,Try.facts]
        try rfl
      · rintro mm σ H' ⟨rfl,i,him,h0,h1,h2,h6,h8,h22⟩
        have hw := worthL_lt ((b.drop 1).take i)
        have htl : ((b.drop 1).take i).length = i := by simp; omega
        rw [htl] at hw
        by_cases hlt : i < 8
        · have hb3 : decide ((i : Int) < 8) = true := by simp; omega
          have hi1 : 1 + i < b.length := by omega
          have g1 := getB hi1
          have hdi : i < (b.drop 1).length := by simp; omega
          have hgd : (b.drop 1)[i] = b[1 + i] := by rw [List.getElem_drop]
          have hs : cU ((b.drop 1).take (i + 1)) = cU ((b.drop 1).take i) ||| b[1 + i].toNat * 2 ^ (8 * i) := by
            rw [or_add _ _ _ hw,List.take_succ_eq_append_getElem hdi,worthL_snoc,htl,hgd]
          have hp : 2 ^ (8 * i) ≤ 2 ^ 56 := Nat.pow_le_pow_right (by omega) (by omega)
          have hp2 : 256 ^ i ≤ 256 ^ 7 := Nat.pow_le_pow_right (by omega) (by omega)
          have hbb := b[1 + i].toNat_lt
          have hmul : b[1 + i].toNat * 2 ^ (8 * i) < 2 ^ 64 := Nat.lt_of_le_of_lt (Nat.mul_le_mul (Nat.le_of_lt_succ hbb) hp) (by omega)
          generalize cU ((b.drop 1).take i) = x at *
          have e1 : (1 + (i : Int)).toNat = 1 + i := by omega
          simp (disch := omega) only [↓aI,↓zP,aD,zD,aS,simprocAttr,Try.facts,h0,h1,h2,h6,h8,h22,hb3,g1,e1]
          refine ⟨mm - 1,by omega,i + 1,by omega,?_,rfl⟩
          have hc : ((b[1 + i].toNat : Nat) : Int) * 2 ^ (8 * i) = ((b[1 + i].toNat * 2 ^ (8 * i) : Nat) : Int) := by rw [Int.natCast_mul,Int.natCast_pow]; rfl
          rw [hs,wcastU (by omega),Nat.min_eq_left (by omega),hc,wcastU hmul,bits_orU (by omega) hmul]
        · have hb3 : decide ((i : Int) < 8) = false := by simp; omega
          obtain rfl : i = 8 := by omega
          have hH : (H.set b0 (.cells [.sc (.int .u8 0),.sc (.slice none 0 0)] 113 2)) h = H h := aP (bA hi hb0)
          rw [hi] at hH
          have hnb : cU ((b.drop 1).take 8) = numB b := rfl
          rw [hnb] at h8 hw
          have hfT : ∀ r,(if numB b < 1 ∨ ts.length < numB b then ((⟨0,[]⟩ : Term),false) else (ts.getD (numB b - 1) ⟨0,[]⟩,decide ((ts.getD (numB b - 1) ⟨0,[]⟩).kind = kd ∧ b = nameT (ts.getD (numB b - 1) ⟨0,[]⟩) (numB b)))) = r → findT ts b kd = r := fun r e => by
            rw [findT,if_neg (by rw [hhd]; exact fun h => h.elim h9 (fun h => h hk0)),e]
          generalize numB b = n at *
          by_cases hn1 : n < 1
          · have b1 : decide ((n : Int) < 1) = true := by simp; omega
            simp (disch := omega) only [↓aI,↓zP,aD,zD,aS,simprocAttr,Try.facts,h0,h1,h2,h6,h8,h22,hb3,hH,b1,ah]
            rw [hfT _ (if_pos (.inl hn1))]
            exact ⟨_,rfl,H,Abs.Sub.set_new hb0,rfl,rfl⟩
          · have b1 : decide ((n : Int) < 1) = false := by simp; omega
            by_cases hn2 : ts.length < n
            · have b2 : decide ((ts.length : Int) < (n : Int)) = true := by simp; omega
              simp (disch := omega) only [↓aI,↓zP,aD,zD,aS,simprocAttr,Try.facts,h0,h1,h2,h6,h8,h22,hb3,hH,b1,b2,ah,↓wcastU]
              rw [hfT _ (if_pos (.inr hn2))]
              exact ⟨_,rfl,H,Abs.Sub.set_new hb0,rfl,rfl⟩
            · have b2 : decide ((ts.length : Int) < (n : Int)) = false := by simp; omega
              have hj : n - 1 < ts.length := by omega
              have hjj : IntKind.u64.wrap ((n : Int) - 1) = ((n - 1 : Nat) : Int) := by rw [show (n : Int) - 1 = ((n - 1 : Nat) : Int) by omega,wcastU (by omega)]
              have hld := termsC_load hj
              have hle : (n - 1) * 2 + 2 ≤ ts.length * 2 := by omega
              have hgT : ts.getD (n - 1) ⟨0,[]⟩ = ts[n - 1] := by simp [List.getD,hj]
              have hok : okT ts[n - 1] := hts _ (List.getElem_mem hj)
              rw [hfT _ (by rw [if_neg (by omega),hgT])]
              have hc := called_pure ts[n - 1] n hok (by omega)
              have hbe := beq_pure b (nameT ts[n - 1] n)
              generalize ts[n - 1] = x at *
              simp (disch := omega) only [↓aI,↓zP,aD,zD,aS,simprocAttr,Try.facts,h0,h1,h2,h6,h8,h22,hb3,hH,b1,b2,ah,↓wcastU,hjj,hTl,hld,hle]
              intro ka hka0 hka
              by_cases hkx : x.kind = kd
              · have hbk : (x.kind == kd) = true := by simpa using hkx
                simp (disch := omega) only [↓aI,↓zP,aD,zD,aS,simprocAttr,Try.facts,h0,h1,h2,h6,h8,h22,hbk]
                first | refine CallK.p (hc) ?_ | refine CallP.i (hc) ?_
                simp (disch := omega) only [↓aI,↓zP,aD,zD,aS,simprocAttr,Try.facts,h0,h1,h2,h6,h8,h22,hbk]
                first | refine CallK.p (hbe) ?_ | refine CallP.i (hbe) ?_
                simp (disch := omega) only [↓aI,↓zP,aD,zD,aS,simprocAttr,Try.facts,h0,h1,h2,h6,h8,h22,hbk,aj hka,hb0,ah]
                refine ⟨_,rfl,H,?_,?_,rfl⟩
                · exact Abs.Sub.set_new hb0
                · have e : decide (x.kind = kd ∧ b = nameT x n) = (b == nameT x n) := by rw [Bool.eq_iff_iff]; simp [hkx]
                  rw [e]
              · have hbk : (x.kind == kd) = false := by simpa using hkx
                simp (disch := omega) only [↓aI,↓zP,aD,zD,aS,simprocAttr,Try.facts,h0,h1,h2,h6,h8,h22,hbk,aj hka,hb0,ah]
                refine ⟨_,rfl,H,?_,?_,rfl⟩
                · exact Abs.Sub.set_new hb0
                · have e : decide (x.kind = kd ∧ b = nameT x n) = false := by simp [hkx]
                  rw [e]
    · have hb2 : ((b[0].toNat : Int) != (kd.toNat : Int)) = true := by
        simp only [bne_iff_ne,ne_eq]; exact fun e => hk0 (UInt8.toNat_inj.1 (by omega))
      have hf : findT ts b kd = (⟨0,[]⟩,false) := by rw [findT,if_pos (.inr (by rw [hhd]; exact hk0))]
      rw [hf]
      simp (disch := omega) only [↓aI,↓zP,aD,zD,aS,simprocAttr,Try.facts,hb1,hb2,g0,ah]
      exact fun b0 hb0 hb => ⟨_,rfl,H,Abs.Sub.set_new hb,rfl,rfl⟩
end Go.Proofs.Ytaehlpkinbpmbaa
