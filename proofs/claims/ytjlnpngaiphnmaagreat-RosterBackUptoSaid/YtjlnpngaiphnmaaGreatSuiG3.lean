/-
  Several texts in one: each says what it proves.
  Conditions: none. Lemmas only.
-/
import Derived.Test.YtjlnpngaiphnmaaGreatSuiG2
import Derived.Test.YtjlnpngaiphnmaaGreatAbsX
set_option linter.all false
section
set_option linter.unusedSimpArgs false
set_option linter.unusedVariables false
set_option maxRecDepth 20000
namespace Go.Proofs.YtjlnpngaiphnmaaGreat
open Go Go.Abs Go.Proofs

def jh (b : List UInt8) : Nat := cU ((b.drop 1).take 8)
def fN (ts : List Term) (b : List UInt8) (kd : UInt8) : Term × Bool :=
  if b.length < 9 ∨ b.headD 0 ≠ kd then (⟨0,[]⟩,false)
  else if jh b < 1 ∨ ts.length < jh b then (⟨0,[]⟩,false)
  else (ts.getD (jh b - 1) ⟨0,[]⟩,decide ((ts.getD (jh b - 1) ⟨0,[]⟩).kind = kd ∧ b = fW (ts.getD (jh b - 1) ⟨0,[]⟩) (jh b)))

theorem find_live (H : AH) (h m k d : Nat) (ts : List Term) (b : List UInt8) (kd : UInt8) (hbl : b.length ≤ 140737488355328) (hts : ∀ x ∈ ts, okT x) (hl : ts.length ≤ 1000000) (g : IsI H h m k d ts) :
    ACalls Tryz.prog 132 [.ptr h 0,eu b,.sc (.int .u8 kd.toNat)] H fun v H' => v = .tup [jo (fN ts b kd).1,.sc (.bool (fN ts b kd).2)] ∧ H' = H := by
  obtain ⟨k0,hi,hm,o,hk,ho⟩ := id g
  have hTl := jJ ts
  refine ao (c := ⟨Tryz.prog,71,[(12,[1,0,1,0,0,0,0,1,0,0,0,0,0,2,0]),(1000011,[10]),(4000012,[6,7]),(4000011,[1,2,6,8,10]),(4000009,[0,1,2,6,8,48]),(4000007,[0,1,2,6,8,22]),(4000001,[0,1,2,6,20])],[],[]⟩) (rs := [ResultVar.cell 6 136,ResultVar.tmp 7]) Tryz.mixed Tryz.func132 rfl rfl rfl (Nat.le_of_ble_eq_true rfl) (by kernel_rfl) ?_
  by_cases h9 : b.length < 9
  · have hf : fN ts b kd = (⟨0,[]⟩,false) := by rw [fN,if_pos (.inl h9)]
    rw [hf]
    have hb1 : decide ((b.length : Int) < 9) = true := by simp; omega
    simp (disch := omega) only [↓aI,↓zP,aD,zD,aS,simprocAttr,Tryz.facts,hb1,ah]
    exact fun b0 hb0 hb => ⟨_,rfl,H,Abs.Sub.set_new hb,rfl,rfl⟩
  · have hb1 : decide ((b.length : Int) < 9) = false := by simp; omega
    have g0 := getB (l := b) (i := 0) (by omega)
    have hhd : b.headD 0 = b[0] := by cases b with | nil => simp at h9 | cons x r => rfl
    by_cases hk0 : b[0] = kd
    · have hb2 : ((b[0].toNat : Int) != (kd.toNat : Int)) = false := by rw [hk0]; simp
      simp (disch := omega) only [↓aI,↓zP,aD,zD,aS,simprocAttr,Tryz.facts]
      intro b0 hb00 hb0
      simp (disch := omega) only [↓aI,↓zP,aD,zD,aS,simprocAttr,Tryz.facts,hb1,hb2,g0,ah]
      refine br (c := ⟨Tryz.prog,71,[(12,[1,0,1,0,0,0,0,1,0,0,0,0,0,2,0]),(1000011,[10]),(4000012,[6,7]),(4000011,[1,2,6,8,10]),(4000009,[0,1,2,6,8,48]),(4000007,[0,1,2,6,8,22]),(4000001,[0,1,2,6,20])],[],[]⟩) Tryz.mixed (by kernel_rfl) (fun mm σ H' => H' = H.set b0 (.cells [.sc (.int .u8 0),.sc (.slice none 0 0)] 136 2) ∧ ∃ i,i + mm = 8 ∧ σ 0 = .ptr h 0 ∧ σ 1 = eu b ∧ σ 2 = .sc (.int .u8 kd.toNat) ∧ σ 6 = .ptr b0 0 ∧ σ 8 = .sc (.int .u64 (cU ((b.drop 1).take i))) ∧ σ 22 = .sc (.int .i64 i)) 8 ?_ ?_
      · refine ⟨rfl,0,by omega,?_⟩
        simp (disch := omega) only [↓aI,↓zP,aD,zD,aS,simprocAttr,Tryz.facts]
        try rfl
      · rintro mm σ H' ⟨rfl,i,him,h0,h1,h2,h6,h8,h22⟩
        have hw := worthL_lt ((b.drop 1).take i)
        have htl : ((b.drop 1).take i).length = i := by simp; omega
        rw [htl] at hw
        by_cases hlt : i < 8
        · have hb3 : decide ((i : Int) < 8) = true := by simp; omega
          have hi1 : 1 + i < b.length := by omega
          have g1 := getB hi1
          have hdi : i < (b.drop 1).length := by simp; omega
          have hgd : (b.drop 1)[i] = b[1 + i] := by rw [List.getElem_drop]
          have hs : cU ((b.drop 1).take (i + 1)) = cU ((b.drop 1).take i) ||| b[1 + i].toNat * 2 ^ (8 * i) := by
            rw [or_add _ _ _ hw,List.take_succ_eq_append_getElem hdi,worthL_snoc,htl,hgd]
          have hp : 2 ^ (8 * i) ≤ 2 ^ 56 := Nat.pow_le_pow_right (by omega) (by omega)
          have hp2 : 256 ^ i ≤ 256 ^ 7 := Nat.pow_le_pow_right (by omega) (by omega)
          have hbb := b[1 + i].toNat_lt
          have hmul : b[1 + i].toNat * 2 ^ (8 * i) < 2 ^ 64 := Nat.lt_of_le_of_lt (Nat.mul_le_mul (Nat.le_of_lt_succ hbb) hp) (by omega)
          generalize cU ((b.drop 1).take i) = x at *
          have e1 : (1 + (i : Int)).toNat = 1 + i := by omega
          simp (disch := omega) only [↓aI,↓zP,aD,zD,aS,simprocAttr,Tryz.facts,h0,h1,h2,h6,h8,h22,hb3,g1,e1]
          refine ⟨mm - 1,by omega,i + 1,by omega,?_,rfl⟩
          have hc : ((b[1 + i].toNat : Nat) : Int) * 2 ^ (8 * i) = ((b[1 + i].toNat * 2 ^ (8 * i) : Nat) : Int) := by rw [Int.natCast_mul,Int.natCast_pow]; rfl
          rw [hs,jw (by omega),Nat.min_eq_left (by omega),hc,jw hmul,bits_orU (by omega) hmul]
        · have hb3 : decide ((i : Int) < 8) = false := by simp; omega
          obtain rfl : i = 8 := by omega
          have hH : (H.set b0 (.cells [.sc (.int .u8 0),.sc (.slice none 0 0)] 136 2)) h = H h := aP (bA hi hb0)
          rw [hi] at hH
          have hnb : cU ((b.drop 1).take 8) = jh b := rfl
          rw [hnb] at h8 hw
          have hfT : ∀ r,(if jh b < 1 ∨ ts.length < jh b then ((⟨0,[]⟩ : Term),false) else (ts.getD (jh b - 1) ⟨0,[]⟩,decide ((ts.getD (jh b - 1) ⟨0,[]⟩).kind = kd ∧ b = fW (ts.getD (jh b - 1) ⟨0,[]⟩) (jh b)))) = r → fN ts b kd = r := fun r e => by
            rw [fN,if_neg (by rw [hhd]; exact fun h => h.elim h9 (fun h => h hk0)),e]
          generalize jh b = n at *
          by_cases hn1 : n < 1
          · have b1 : decide ((n : Int) < 1) = true := by simp; omega
            simp (disch := omega) only [↓aI,↓zP,aD,zD,aS,simprocAttr,Tryz.facts,h0,h1,h2,h6,h8,h22,hb3,hH,b1,ah]
            rw [hfT _ (if_pos (.inl hn1))]
            exact ⟨_,rfl,H,Abs.Sub.set_new hb0,rfl,rfl⟩
          · have b1 : decide ((n : Int) < 1) = false := by simp; omega
            by_cases hn2 : ts.length < n
            · have b2 : decide ((ts.length : Int) < (n : Int)) = true := by simp; omega
              simp (disch := omega) only [↓aI,↓zP,aD,zD,aS,simprocAttr,Tryz.facts,h0,h1,h2,h6,h8,h22,hb3,hH,b1,b2,ah,↓jw]
              rw [hfT _ (if_pos (.inr hn2))]
              exact ⟨_,rfl,H,Abs.Sub.set_new hb0,rfl,rfl⟩
            · have b2 : decide ((ts.length : Int) < (n : Int)) = false := by simp; omega
              have hj : n - 1 < ts.length := by omega
              have hjj : IntKind.u64.wrap ((n : Int) - 1) = ((n - 1 : Nat) : Int) := by rw [show (n : Int) - 1 = ((n - 1 : Nat) : Int) by omega,jw (by omega)]
              have hld := termsC_load hj
              have hle : (n - 1) * 2 + 2 ≤ ts.length * 2 := by omega
              have hgT : ts.getD (n - 1) ⟨0,[]⟩ = ts[n - 1] := by simp [List.getD,hj]
              have hok : okT ts[n - 1] := hts _ (List.getElem_mem hj)
              rw [hfT _ (by rw [if_neg (by omega),hgT])]
              have hc := called_pure ts[n - 1] n hok (by omega)
              have hbe := iX b (fW ts[n - 1] n)
              generalize ts[n - 1] = x at *
              simp (disch := omega) only [↓aI,↓zP,aD,zD,aS,simprocAttr,Tryz.facts,h0,h1,h2,h6,h8,h22,hb3,hH,b1,b2,ah,↓jw,hjj,hTl,hld,hle]
              intro ka hka0 hka
              by_cases hkx : x.kind = kd
              · have hbk : (x.kind == kd) = true := by simpa using hkx
                simp (disch := omega) only [↓aI,↓zP,aD,zD,aS,simprocAttr,Tryz.facts,h0,h1,h2,h6,h8,h22,hbk]
                first | refine CallK.p (hc) ?_ | refine CallP.i (hc) ?_
                simp (disch := omega) only [↓aI,↓zP,aD,zD,aS,simprocAttr,Tryz.facts,h0,h1,h2,h6,h8,h22,hbk]
                first | refine CallK.p (hbe) ?_ | refine CallP.i (hbe) ?_
                simp (disch := omega) only [↓aI,↓zP,aD,zD,aS,simprocAttr,Tryz.facts,h0,h1,h2,h6,h8,h22,hbk,aj hka,hb0,ah]
                refine ⟨_,rfl,H,?_,?_,rfl⟩
                · exact Abs.Sub.set_new hb0
                · have e : decide (x.kind = kd ∧ b = fW x n) = (b == fW x n) := by rw [Bool.eq_iff_iff]; simp [hkx]
                  rw [e]
              · have hbk : (x.kind == kd) = false := by simpa using hkx
                simp (disch := omega) only [↓aI,↓zP,aD,zD,aS,simprocAttr,Tryz.facts,h0,h1,h2,h6,h8,h22,hbk,aj hka,hb0,ah]
                refine ⟨_,rfl,H,?_,?_,rfl⟩
                · exact Abs.Sub.set_new hb0
                · have e : decide (x.kind = kd ∧ b = fW x n) = false := by simp [hkx]
                  rw [e]
    · have hb2 : ((b[0].toNat : Int) != (kd.toNat : Int)) = true := by
        simp only [bne_iff_ne,ne_eq]; exact fun e => hk0 (UInt8.toNat_inj.1 (by omega))
      have hf : fN ts b kd = (⟨0,[]⟩,false) := by rw [fN,if_pos (.inr (by rw [hhd]; exact hk0))]
      rw [hf]
      simp (disch := omega) only [↓aI,↓zP,aD,zD,aS,simprocAttr,Tryz.facts,hb1,hb2,g0,ah]
      exact fun b0 hb0 hb => ⟨_,rfl,H,Abs.Sub.set_new hb,rfl,rfl⟩
end Go.Proofs.YtjlnpngaiphnmaaGreat
end
section
set_option linter.unusedSimpArgs false
set_option linter.unusedVariables false
set_option maxRecDepth 20000
namespace Go.Proofs.YtjlnpngaiphnmaaGreat
open Go Go.Abs Go.Proofs

def wfT (t : Term) : Prop := okT t ∧ (t.kind = 103 → 2 ≤ t.parts.length) ∧ (t.kind = 118 → 1 ≤ t.parts.length) ∧ (t.kind = 112 → 1 ≤ t.parts.length)
theorem gP {ts : List Term} {b : List UInt8} {kd : UInt8} (h : (fN ts b kd).2 = true) : (fN ts b kd).1 ∈ ts ∧ (fN ts b kd).1.kind = kd := by
  unfold fN at h ⊢
  split at h
  · cases h
  · rename_i h1
    rw [if_neg h1]
    split at h
    · cases h
    · rename_i h2
      rw [if_neg h2]
      have hj : jh b - 1 < ts.length := by omega
      simp only [decide_eq_true_eq] at h
      refine ⟨?_,h.1⟩
      simp only [List.getD,List.getElem?_eq_getElem hj,Option.getD_some]
      exact List.getElem_mem hj
def fv (t : Term) (j : Nat) : List UInt8 := t.parts.getD j []
theorem jg {t : Term} {j : Nat} (h : j < t.parts.length) : (t.parts.map eu)[j]? = some (.imm 0 (bw (fv t j)) (fv t j).length) := by
  rw [getR h]
  have : fv t j = t.parts[j] := by simp [fv,List.getD,h]
  rw [this]
def verT (ts : List Term) (key b sig : List UInt8) : Bool :=
  (fN ts sig 103).2 && (fN ts key 118).2 && (fv (fN ts sig 103).1 0 == fv (fN ts key 118).1 0) && (fv (fN ts sig 103).1 1 == b)

theorem verify_live (H : AH) (h m k d : Nat) (ts : List Term) (key b sig : List UInt8) (h1 : key.length ≤ 140737488355328) (h2 : sig.length ≤ 140737488355328) (hts : ∀ x ∈ ts, wfT x) (hl : ts.length ≤ 1000000) (g : IsI H h m k d ts) :
    ACalls Tryz.prog 131 [.ptr h 0,eu key,eu b,eu sig] H fun v H' => v = .sc (.bool (verT ts key b sig)) ∧ H' = H := by
  have hm := jY H h m k d ts g
  have f1 := find_live H h m k d ts sig 103 h2 (fun x hx => (hts x hx).1) hl g
  have f2 := fun H g => find_live H h m k d ts key 118 h1 (fun x hx => (hts x hx).1) hl g
  have e1 : (fN ts sig 103).2 = true → 2 ≤ (fN ts sig 103).1.parts.length := fun h => ((hts _ (gP h).1).2.1 (gP h).2)
  have e2 : (fN ts key 118).2 = true → 1 ≤ (fN ts key 118).1.parts.length := fun h => ((hts _ (gP h).1).2.2.1 (gP h).2)
  have hb1 := iX (fv (fN ts sig 103).1 0) (fv (fN ts key 118).1 0)
  have hb2 := iX (fv (fN ts sig 103).1 1) b
  have k103 : ((103 : UInt8).toNat : Int) = 103 := rfl
  have k118 : ((118 : UInt8).toNat : Int) = 118 := rfl
  simp only [verT]
  have pg1 := fun j (h : j < (fN ts sig 103).1.parts.length) => jg h
  have pg2 := fun j (h : j < (fN ts key 118).1.parts.length) => jg h
  rw [k103] at f1
  simp only [k118] at f2
  generalize fN ts sig 103 = x at *
  generalize fN ts key 118 = y at *
  obtain ⟨x,okx⟩ := x
  obtain ⟨y,oky⟩ := y
  simp only [] at *
  obtain ⟨k0,hi,hmm,o,hk,ho⟩ := id g
  refine ao (c := ⟨Tryz.prog,55,[(5,[0,0,0,0,0,0,1,0,1,0,1,0,1,0,0,0,0,1,0,1,0,0,0,0]),(1000003,[9]),(1000004,[11])],[],[]⟩) (rs := [ResultVar.tmp 8]) Tryz.mixed Tryz.func131 rfl rfl rfl (Nat.le_of_ble_eq_true rfl) (by kernel_rfl) ?_
  simp (disch := omega) only [↓aI,↓zP,aD,zD,aS,simprocAttr,Tryz.facts]
  refine CallK.i hm ?_
  rintro v H1 ⟨rfl,rfl⟩
  simp (disch := omega) only [↓aI,↓zP,aD,zD,aS,simprocAttr,Tryz.facts]
  refine CallK.i f1 ?_
  rintro v H2 ⟨rfl,rfl⟩
  simp (disch := omega) only [↓aI,↓zP,aD,zD,aS,simprocAttr,Tryz.facts]
  intro b1 hb10 hb1f
  simp (disch := omega) only [↓aI,↓zP,aD,zD,aS,simprocAttr,Tryz.facts,ah,aj hb1f]
  refine CallK.i (f2 _ g) ?_
  rintro v H3 ⟨rfl,rfl⟩
  simp (disch := omega) only [↓aI,↓zP,aD,zD,aS,simprocAttr,Tryz.facts]
  intro b2 hb20 hb2f
  cases okx with
  | false =>
    simp (disch := omega) only [↓aI,↓zP,aD,zD,aS,simprocAttr,Tryz.facts,ah,aj hb2f]
    exact ⟨_,rfl,_,Abs.Sub.refl _,by simp,rfl⟩
  | true =>
    cases oky with
    | false =>
      simp (disch := omega) only [↓aI,↓zP,aD,zD,aS,simprocAttr,Tryz.facts,ah,aj hb2f]
      exact ⟨_,rfl,_,Abs.Sub.refl _,by simp,rfl⟩
    | true =>
      have l1 := e1 rfl
      have l2 := e2 rfl
      have p1 := pg1 0 (by omega)
      have p2 := pg1 1 (by omega)
      have p3 := pg2 0 (by omega)
      simp (disch := omega) only [↓aI,↓zP,aD,zD,aS,simprocAttr,Tryz.facts,ah,aj hb2f,p1,p2,p3]
      first | refine CallK.p (hb1) ?_ | refine CallP.i (hb1) ?_
      simp (disch := omega) only [↓aI,↓zP,aD,zD,aS,simprocAttr,Tryz.facts,ah,aj hb2f,p1,p2,p3]
      cases hq : fv x 0 == fv y 0 with
      | false =>
        simp (disch := omega) only [↓aI,↓zP,aD,zD,aS,simprocAttr,Tryz.facts,ah,aj hb2f,p1,p2,p3]
        exact ⟨_,rfl,_,Abs.Sub.refl _,by simp,rfl⟩
      | true =>
        simp (disch := omega) only [↓aI,↓zP,aD,zD,aS,simprocAttr,Tryz.facts,ah,aj hb2f,p1,p2,p3]
        first | refine CallK.p (hb2) ?_ | refine CallP.i (hb2) ?_
        simp (disch := omega) only [↓aI,↓zP,aD,zD,aS,simprocAttr,Tryz.facts,ah,aj hb2f,p1,p2,p3]
        exact ⟨_,rfl,_,Abs.Sub.refl _,by simp,rfl⟩
end Go.Proofs.YtjlnpngaiphnmaaGreat
end
section
set_option linter.unusedSimpArgs false
set_option linter.unusedVariables false
set_option maxRecDepth 20000
namespace Go.Proofs.YtjlnpngaiphnmaaGreat
open Go Go.Abs Go.Proofs

def opT (ts : List Term) (key : List UInt8) (n : Nat) (o b : List UInt8) : Bool :=
  (fN ts b 98).2 && (fv (fN ts b 98).1 0 == key) && (fv (fN ts b 98).1 1 == fh 8 n) && (fv (fN ts b 98).1 2 == o)
def OpenR (H : AH) (ts : List Term) (key : List UInt8) (n : Nat) (o b : List UInt8) (v : AV) (H' : AH) : Prop :=
  (opT ts key n o b = false ∧ v = .tup [.imm 0 [] 0,.sc (.int .i64 9)] ∧ H' = H) ∨
  (opT ts key n o b = true ∧ ∃ r,OwnB (fv (fN ts b 98).1 3) H r H' ∧ v = .tup [r,.sc (.int .i64 0)])
theorem open_live (H : AH) (h m k d : Nat) (ts : List Term) (key : List UInt8) (n : Nat) (o b : List UInt8) (h32 : key.length = 32) (hn : n < 9223372036854775808) (h1 : b.length ≤ 140737488355328) (hts : ∀ x ∈ ts, wfT x) (hl : ts.length ≤ 1000000) (g : IsI H h m k d ts) :
    ACalls Tryz.prog 127 [.ptr h 0,eu key,.sc (.int .i64 n),eu o,eu b] H (OpenR H ts key n o b) := by
  have hm := jY H h m k d ts g
  have f1 := find_live H h m k d ts b 98 h1 (fun x hx => (hts x hx).1) hl g
  have e1 : (fN ts b 98).2 = true → 4 ≤ (fN ts b 98).1.parts.length := fun h => (hts _ (gP h).1).1.1 (gP h).2
  have e2 : (fN ts b 98).2 = true → (fv (fN ts b 98).1 3).length ≤ 1000000000000 := fun h => by
    have h4 := e1 h
    have := (hts _ (gP h).1).1.2.2
    have e : fv (fN ts b 98).1 3 = (fN ts b 98).1.parts[3] := by simp [fv,List.getD,show 3 < (fN ts b 98).1.parts.length by omega]
    have := kN (List.getElem_mem (show 3 < (fN ts b 98).1.parts.length by omega))
    rw [e]; omega
  have hb1 := iX (fv (fN ts b 98).1 0) key
  have hb2 := iX (fv (fN ts b 98).1 1) (fh 8 n)
  have hb3 := iX (fv (fN ts b 98).1 2) o
  have he := jj n hn
  have k98 : ((98 : UInt8).toNat : Int) = 98 := rfl
  have hneg : decide ((n : Int) < 0) = false := by simp
  have hb : ((key.length : Int) != 32) = false := by simp [h32]
  have hB : opT ts key n o b = ((fN ts b 98).2 && (fv (fN ts b 98).1 0 == key) && (fv (fN ts b 98).1 1 == fh 8 n) && (fv (fN ts b 98).1 2 == o)) := rfl
  unfold OpenR
  generalize opT ts key n o b = B at *
  have pg1 := fun j (h : j < (fN ts b 98).1.parts.length) => jg h
  rw [k98] at f1
  generalize fN ts b 98 = x at *
  generalize fh 8 n = E at *
  obtain ⟨x,okx⟩ := x
  simp only [] at *
  obtain ⟨k0,hi,hmm,ot,hk,ho⟩ := id g
  refine ao (c := ⟨Tryz.prog,70,[(4,[0,0,0,0,1,0,1,0,0,0,0,0,0,1,0,1,0,0,0,0,0,0,0,1,0,1,0,0,0,0]),(1000003,[12]),(4000006,[10,11]),(4000004,[12,63]),(4000003,[1,2,3,12,13]),(4000001,[0,1,2,3,4,25])],[1000064,1000069],[]⟩) (rs := [ResultVar.tmp 10,ResultVar.tmp 11]) Tryz.mixed Tryz.func127 rfl rfl rfl (Nat.le_of_ble_eq_true rfl) (by kernel_rfl) ?_
  simp (disch := omega) only [↓aI,↓zP,aD,zD,aS,simprocAttr,Tryz.facts]
  refine CallK.i hm ?_
  rintro v H1 ⟨rfl,rfl⟩
  simp (disch := omega) only [↓aI,↓zP,aD,zD,aS,simprocAttr,Tryz.facts,hb,hneg]
  refine CallK.i f1 ?_
  rintro v H2 ⟨rfl,rfl⟩
  simp (disch := omega) only [↓aI,↓zP,aD,zD,aS,simprocAttr,Tryz.facts]
  intro b1 hb10 hb1f
  cases okx with
  | false =>
    simp (disch := omega) only [↓aI,↓zP,aD,zD,aS,simprocAttr,Tryz.facts,ah,aj hb1f]
    exact ⟨_,rfl,_,Abs.Sub.refl _,.inl ⟨by rw [hB]; simp_all,rfl,rfl⟩⟩
  | true =>
    have l1 := e1 rfl
    have l2 := e2 rfl
    have p0 := pg1 0 (by omega)
    have p1 := pg1 1 (by omega)
    have p2 := pg1 2 (by omega)
    have p3 := pg1 3 (by omega)
    simp (disch := omega) only [↓aI,↓zP,aD,zD,aS,simprocAttr,Tryz.facts,ah,aj hb1f,p0]
    first | refine CallK.p (hb1) ?_ | refine CallP.i (hb1) ?_
    simp (disch := omega) only [↓aI,↓zP,aD,zD,aS,simprocAttr,Tryz.facts,ah,aj hb1f,p0,p1]
    cases hq : fv x 0 == key with
    | false =>
      simp (disch := omega) only [↓aI,↓zP,aD,zD,aS,simprocAttr,Tryz.facts,ah,aj hb1f]
      exact ⟨_,rfl,_,Abs.Sub.refl _,.inl ⟨by rw [hB]; simp_all,rfl,rfl⟩⟩
    | true =>
      simp (disch := omega) only [↓aI,↓zP,aD,zD,aS,simprocAttr,Tryz.facts,ah,aj hb1f,p1]
      first | refine CallK.p (he) ?_ | refine CallP.i (he) ?_
      simp (disch := omega) only [↓aI,↓zP,aD,zD,aS,simprocAttr,Tryz.facts,ah,aj hb1f]
      first | refine CallK.p (hb2) ?_ | refine CallP.i (hb2) ?_
      simp (disch := omega) only [↓aI,↓zP,aD,zD,aS,simprocAttr,Tryz.facts,ah,aj hb1f]
      cases hq2 : fv x 1 == E with
      | false =>
        simp (disch := omega) only [↓aI,↓zP,aD,zD,aS,simprocAttr,Tryz.facts,ah,aj hb1f]
        exact ⟨_,rfl,_,Abs.Sub.refl _,.inl ⟨by rw [hB]; simp_all,rfl,rfl⟩⟩
      | true =>
        simp (disch := omega) only [↓aI,↓zP,aD,zD,aS,simprocAttr,Tryz.facts,ah,aj hb1f,p2]
        first | refine CallK.p (hb3) ?_ | refine CallP.i (hb3) ?_
        simp (disch := omega) only [↓aI,↓zP,aD,zD,aS,simprocAttr,Tryz.facts,ah,aj hb1f]
        cases hq3 : fv x 2 == o with
        | false =>
          simp (disch := omega) only [↓aI,↓zP,aD,zD,aS,simprocAttr,Tryz.facts,ah,aj hb1f]
          exact ⟨_,rfl,_,Abs.Sub.refl _,.inl ⟨by rw [hB]; simp_all,rfl,rfl⟩⟩
        | true =>
          simp (disch := omega) only [↓aI,↓zP,aD,zD,aS,simprocAttr,Tryz.facts,ah,aj hb1f,p3]
          intro k1 hk10 hk1 k2 hk2
          obtain ⟨hk20,hk2⟩ := iW hk10 hk1 hk2
          refine ⟨_,rfl,_,Abs.Sub.refl _,.inr ⟨by rw [hB]; simp_all,_,⟨k2,hk20,hk2,rfl,?_⟩,rfl⟩⟩
          exact set_new_set hk1

def shT (s p : List UInt8) : Term := ⟨100,if 0 < Lib.compareBytes s p then [p,s] else [s,p]⟩
theorem cmp_pure (a b : List UInt8) : APure Tryz.prog 133 [eu a,eu b] (.sc (.int .i64 (Lib.compareBytes a b))) := by
  have he := ext_compare (P := Tryz.prog) (f := 134) Tryz.func134 (by kernel_rfl) (by kernel_rfl) (by kernel_rfl) (by kernel_rfl) a b
  refine az (c := ⟨Tryz.prog,8,[],[],[]⟩) (rs := [ResultVar.tmp 4]) Tryz.mixed Tryz.func133 rfl rfl rfl (Nat.le_of_ble_eq_true rfl) (by kernel_rfl) fun H => ?_
  simp (disch := omega) only [↓aI,↓zP,aD,zD,aS,simprocAttr,Tryz.facts]
  first | refine CallK.p (he) ?_ | refine CallP.i (he) ?_
  simp (disch := omega) only [↓aI,↓zP,aD,zD,aS,simprocAttr,Tryz.facts]
  exact Abs.Sub.refl _
def ShR (H : AH) (h m k d : Nat) (ts : List Term) (s p : List UInt8) (v : AV) (H' : AH) : Prop :=
  (s.length ≠ 32 ∧ v = .tup [.imm 0 [] 0,.sc (.int .i64 1)] ∧ H' = H) ∨
  (s.length = 32 ∧ (fN ts p 112).2 = false ∧ v = .tup [.imm 0 [] 0,.sc (.int .i64 8)] ∧ H' = H) ∨
  (s.length = 32 ∧ (fN ts p 112).2 = true ∧ ∃ r,NameR H h m k d ts (shT s (fv (fN ts p 112).1 0)) r H' ∧ v = .tup [r,.sc (.int .i64 0)])
theorem shared_live (H : AH) (h m k d : Nat) (ts : List Term) (s p : List UInt8) (h1 : p.length ≤ 140737488355328) (hp : ∀ x ∈ ts, x.kind = 112 → (fv x 0).length ≤ 1000000) (hts : ∀ x ∈ ts, wfT x) (hl : ts.length ≤ 1000000) (g : IsI H h m k d ts) :
    ACalls Tryz.prog 129 [.ptr h 0,eu s,eu p] H (ShR H h m k d ts s p) := by
  have hm := jY H h m k d ts g
  have f1 := find_live H h m k d ts p 112 h1 (fun x hx => (hts x hx).1) hl g
  have e1 : (fN ts p 112).2 = true → 1 ≤ (fN ts p 112).1.parts.length := fun h => (hts _ (gP h).1).2.2.2 (gP h).2
  have e2 : (fN ts p 112).2 = true → (fv (fN ts p 112).1 0).length ≤ 1000000 := fun h => hp _ (gP h).1 (gP h).2
  have hc := cmp_pure s (fv (fN ts p 112).1 0)
  have hn : ∀ t,okT t → ∀ H,IsI H h m k d ts → _ := fun t ht H g => name_live H h m k d ts t ht (fun x hx => (hts x hx).1) hl g
  have pg1 := fun j (h : j < (fN ts p 112).1.parts.length) => jg h
  have k112 : ((112 : UInt8).toNat : Int) = 112 := rfl
  have k100 : ((100 : UInt8).toNat : Int) = 100 := rfl
  obtain ⟨R,hRd⟩ : ∃ R,R = ShR H h m k d ts s p := ⟨_,rfl⟩
  rw [← hRd]
  have hR : ∀ v H',R v H' = ShR H h m k d ts s p v H' := fun v H' => by rw [hRd]
  clear hRd
  simp only [ShR] at hR
  rw [k112] at f1
  generalize fN ts p 112 = x at *
  obtain ⟨x,okx⟩ := x
  simp only [] at e1 e2 hc pg1 f1 hR ⊢
  generalize hP : fv x 0 = P at *
  generalize hC : Lib.compareBytes s P = C at *
  obtain ⟨k0,hi,hmm,ot,hk,ho⟩ := id g
  refine ao (c := ⟨Tryz.prog,46,[(6,[0,0,1,0,1,0,0]),(1000003,[8])],[],[]⟩) (rs := [ResultVar.tmp 6,ResultVar.tmp 7]) Tryz.mixed Tryz.func129 rfl rfl rfl (Nat.le_of_ble_eq_true rfl) (by kernel_rfl) ?_
  simp (disch := omega) only [↓aI,↓zP,aD,zD,aS,simprocAttr,Tryz.facts]
  refine CallK.i hm ?_
  rintro v H1 ⟨rfl,rfl⟩
  by_cases h32 : s.length = 32
  · have hb : ((s.length : Int) != 32) = false := by simp [h32]
    simp (disch := omega) only [↓aI,↓zP,aD,zD,aS,simprocAttr,Tryz.facts,hb]
    refine CallK.i f1 ?_
    rintro v H2 ⟨rfl,rfl⟩
    simp (disch := omega) only [↓aI,↓zP,aD,zD,aS,simprocAttr,Tryz.facts]
    intro b1 hb10 hb1f
    cases okx with
    | false =>
      simp (disch := omega) only [↓aI,↓zP,aD,zD,aS,simprocAttr,Tryz.facts,ah,aj hb1f]
      exact ⟨_,rfl,_,Abs.Sub.refl _,by rw [hR]; exact .inr (.inl ⟨h32,rfl,rfl,rfl⟩)⟩
    | true =>
      have l1 := e1 rfl
      have l2 := e2 rfl
      have p0 := pg1 0 (by omega)
      rw [hP] at p0
      simp (disch := omega) only [↓aI,↓zP,aD,zD,aS,simprocAttr,Tryz.facts,ah,aj hb1f,p0]
      first | refine CallK.p (hc) ?_ | refine CallP.i (hc) ?_
      simp (disch := omega) only [↓aI,↓zP,aD,zD,aS,simprocAttr,Tryz.facts,ah,aj hb1f,p0]
      by_cases hgt : 0 < C
      · have hd : decide (0 < C) = true := by simpa using hgt
        have hsh : shT s P = ⟨100,[P,s]⟩ := by rw [shT,hC,if_pos hgt]
        have hN := hn ⟨100,[P,s]⟩ ⟨fun h => absurd h (by simp),by simp,by simp; omega⟩ H2 g
        simp (disch := omega) only [↓aI,↓zP,aD,zD,aS,simprocAttr,Tryz.facts,hd,ah,aj hb1f]
        refine CallK.i hN ?_
        rintro v H3 ⟨H4,hs,kk,hkk0,hkk,rfl,rfl⟩
        simp (disch := omega) only [↓aI,↓zP,aD,zD,aS,simprocAttr,Tryz.facts]
        exact ⟨_,rfl,_,Abs.Sub.refl _,by rw [hR]; exact .inr (.inr ⟨h32,rfl,_,by rw [hsh]; exact ⟨H4,hs,kk,hkk0,hkk,rfl,rfl⟩,rfl⟩)⟩
      · have hd : decide (0 < C) = false := by simpa using hgt
        have hsh : shT s P = ⟨100,[s,P]⟩ := by rw [shT,hC,if_neg hgt]
        have hN := hn ⟨100,[s,P]⟩ ⟨fun h => absurd h (by simp),by simp,by simp; omega⟩ H2 g
        simp (disch := omega) only [↓aI,↓zP,aD,zD,aS,simprocAttr,Tryz.facts,hd,ah,aj hb1f]
        refine CallK.i hN ?_
        rintro v H3 ⟨H4,hs,kk,hkk0,hkk,rfl,rfl⟩
        simp (disch := omega) only [↓aI,↓zP,aD,zD,aS,simprocAttr,Tryz.facts]
        exact ⟨_,rfl,_,Abs.Sub.refl _,by rw [hR]; exact .inr (.inr ⟨h32,rfl,_,by rw [hsh]; exact ⟨H4,hs,kk,hkk0,hkk,rfl,rfl⟩,rfl⟩)⟩
  · have hb : ((s.length : Int) != 32) = true := by simp; omega
    simp (disch := omega) only [↓aI,↓zP,aD,zD,aS,simprocAttr,Tryz.facts,hb]
    exact ⟨_,rfl,_,Abs.Sub.refl _,by rw [hR]; exact .inl ⟨h32,rfl,rfl⟩⟩

end Go.Proofs.YtjlnpngaiphnmaaGreat
end
