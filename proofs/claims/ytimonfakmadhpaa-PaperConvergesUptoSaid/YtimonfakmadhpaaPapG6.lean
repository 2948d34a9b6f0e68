/-
  Several texts in one: each says what it proves.
  Conditions: none. Lemmas only.
-/
import Derived.Test.YtimonfakmadhpaaPapG5
set_option linter.all false
section
set_option linter.unusedSimpArgs false
set_option linter.unusedVariables false
set_option maxRecDepth 8000
set_option maxHeartbeats 4000000
namespace Go.Proofs.Ytimonfakmadhpaa
open Go Go.Abs Go.Proofs Go.Fug
def vr : Nat → Nat → Nat → List UInt8 → Nat × Nat × Int
  | 0,_,_,_ => (0,0,5)
  | _ + 1,_,_,[] => (0,0,3)
  | f + 1,k,acc,c :: l =>
    if 128 ≤ c.toNat then vr f (k + 1) (acc + c.toNat % 128 * 128 ^ k) l
    else if 0 < k ∧ c.toNat = 0 then (0,0,5)
    else if 1099511627776 < acc + c.toNat % 128 * 128 ^ k then (0,0,6)
    else (acc + c.toNat % 128 * 128 ^ k,k + 1,0)
def rdB (k : Nat) (bs : List UInt8) (p : Nat) (e : Int) : AObj := .cells [.imm k (bw bs) bs.length,.sc (.int .i64 (p : Nat)),.sc (.bool true),.sc (.int .i64 e)] 129 4
end Go.Proofs.Ytimonfakmadhpaa
end
section
set_option linter.unusedSimpArgs false
set_option linter.unusedVariables false
set_option maxRecDepth 8000
set_option maxHeartbeats 4000000
namespace Go.Proofs.Ytimonfakmadhpaa
open Go Go.Abs Go.Proofs Go.Fug
abbrev RS := List UInt8 × Int
def RdS (B H : AH) (r k : Nat) (bs : List UInt8) (s : RS) : Prop :=
  (∃ p,p ≤ bs.length ∧ bs.drop p = s.1 ∧ H r = some (rdB k bs p s.2)) ∧ Abs.Sub B H ∧ B r = none ∧ bs.length ≤ 2000000
theorem RdS.mono {B H H' : AH} {r k : Nat} {bs : List UInt8} {s : RS} (p : RdS B H r k bs s) (h : Abs.Sub H H') : RdS B H' r k bs s := by
  obtain ⟨⟨q,h1,h2,h3⟩,h4,h5⟩ := p
  exact ⟨⟨q,h1,h2,h _ _ h3⟩,h4.trans h,h5⟩
theorem RdS.all {B H : AH} {r k : Nat} {bs : List UInt8} {s : RS} (p : RdS B H r k bs s) : RdS (H.kill r) H r k bs s :=
  ⟨p.1,fun y o h => by
    by_cases e : y = r
    · subst e; rw [kill_same] at h; cases h
    · rwa [bZ e] at h,kill_same,p.2.2.2⟩
theorem RdS.back {B H H' : AH} {r k : Nat} {bs : List UInt8} {s s' : RS} (p : RdS B H r k bs s) (q : RdS (H.kill r) H' r k bs s') : RdS B H' r k bs s' :=
  ⟨q.1,fun y o h => q.2.1 y o (by
    have e : y ≠ r := fun e => by subst e; rw [p.2.2.1] at h; cases h
    rw [bZ e]; exact p.2.1 y o h),p.2.2⟩
theorem RdS.keep {B H H' : AH} {r k b : Nat} {bs : List UInt8} {s s' : RS} {o : AObj} (p : RdS B H r k bs s) (q : RdS (H.kill r) H' r k bs s') (hb : H b = some o) (hn : b ≠ r) : H' b = some o := q.2.1 b o (by rw [bZ hn]; exact hb)
theorem RdS.ne {B H : AH} {r k b : Nat} {bs : List UInt8} {s : RS} (p : RdS B H r k bs s) (hb : H b = none) : ¬ b = r := fun e => by
  obtain ⟨⟨q,-,-,h3⟩,-⟩ := p
  subst e; rw [hb] at h3; cases h3
theorem RdS.free {B H : AH} {r k b : Nat} {bs : List UInt8} {s : RS} (p : RdS B H r k bs s) (hb : H b = none) : B b = none := p.2.1.free hb
theorem RdS.put {B H : AH} {r k b : Nat} {bs : List UInt8} {s : RS} {o : AObj} (p : RdS B H r k bs s) (hb : B b = none) (hn : ¬ b = r) : RdS B (H.set b o) r k bs s := by
  obtain ⟨⟨q,h1,h2,h3⟩,h4,h5⟩ := p
  exact ⟨⟨q,h1,h2,by rw [aP (fun e => hn e.symm)]; exact h3⟩,h4.set_free hb,h5⟩
theorem RdS.kill {B H : AH} {r k b : Nat} {bs : List UInt8} {s : RS} (p : RdS B H r k bs s) (hb : B b = none) (hn : ¬ b = r) : RdS B (H.kill b) r k bs s := by
  obtain ⟨⟨q,h1,h2,h3⟩,h4,h5⟩ := p
  exact ⟨⟨q,h1,h2,by rw [bZ (fun e => hn e.symm)]; exact h3⟩,h4.kill_free hb,h5⟩
end Go.Proofs.Ytimonfakmadhpaa
end
section
set_option linter.unusedSimpArgs false
set_option linter.unusedVariables false
set_option maxRecDepth 8000
set_option maxHeartbeats 4000000
namespace Go.Proofs.Ytimonfakmadhpaa
open Go Go.Abs Go.Proofs Go.Fug
theorem RdS.step {B H H' : AH} {r k b : Nat} {bs : List UInt8} {s s' : RS} {o : AObj} (p : RdS B H r k bs s) (f : B b = none) (n : ¬ b = r) (q : RdS ((H.set b o).kill r) H' r k bs s') : RdS B H' r k bs s' ∧ H' b = some o ∧ ∀ y x,¬ y = r → ¬ y = b → H y = some x → H' y = some x := by
  have p1 := p.put (o := o) f n
  exact ⟨p1.back q,p1.keep q set_get n,fun y x h1 h2 h3 => p1.keep q (by rw [aP h2]; exact h3) h1⟩
end Go.Proofs.Ytimonfakmadhpaa
end
section
set_option linter.unusedSimpArgs false
set_option linter.unusedVariables false
set_option maxRecDepth 8000
set_option maxHeartbeats 4000000
namespace Go.Proofs.Ytimonfakmadhpaa
open Go Go.Abs Go.Proofs Go.Fug
structure Sh (s t : RS) : Prop where
  le : t.1.length ≤ s.1.length
  lt : t.2 = 0 → s.2 = 0 ∧ t.1.length < s.1.length
structure Sw (s t : RS) : Prop where
  le : t.1.length ≤ s.1.length
  ok : t.2 = 0 → s.2 = 0
theorem Sh.w {s t : RS} (h : Sh s t) : Sw s t := ⟨h.le,fun e => (h.lt e).1⟩
theorem Sh.trans {s t u : RS} (h : Sh s t) (g : Sw t u) : Sh s u := ⟨Nat.le_trans g.le h.le,fun e => ⟨(h.lt (g.ok e)).1,Nat.lt_of_le_of_lt g.le (h.lt (g.ok e)).2⟩⟩
theorem Sw.trans {s t u : RS} (h : Sw s t) (g : Sw t u) : Sw s u := ⟨Nat.le_trans g.le h.le,fun e => h.ok (g.ok e)⟩
end Go.Proofs.Ytimonfakmadhpaa
end
