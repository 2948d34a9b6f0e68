/-
  Several texts in one: each says what it proves.
  Conditions: none. Lemmas only.
-/
import Derived.Test.YtejncnmdjkhiaaaDoorShaY
set_option linter.all false
section
set_option linter.unusedSimpArgs false
set_option linter.unusedVariables false
set_option maxRecDepth 20000
set_option maxHeartbeats 4000000
namespace Go.Proofs.YtejncnmdjkhiaaaDoor
open Go Go.Abs Go.Proofs Go.Sha
def w32A (l : List Nat) : List AV := l.map fun x : Nat => AV.sc (.int .u32 x)
theorem w32A_length (l : List Nat) : (w32A l).length = l.length := by simp [w32A]
theorem w32A_at {l : List Nat} {i : Nat} (h : i < l.length) : (w32A l)[i]? = some (.sc (.int .u32 (l.getD i 0 : Nat))) := by simp [w32A,List.getD,h]
theorem w32A_put {l : List Nat} {i x : Nat} (h : i < l.length) : bG (w32A l) i [.sc (.int .u32 x)] = w32A (l.set i x) := by
  rw [ah,List.set_eq_take_append_cons_drop,if_pos h]
  simp [w32A]
theorem map_range_get (f : Nat → Nat) (n : Nat) {i : Nat} (h : i < n) : ((List.range n).map f).getD i 0 = f i := by
  simp [List.getD,h]
theorem list_ext {l m : List Nat} (hl : l.length = m.length) (h : ∀ i,i < l.length → l.getD i 0 = m.getD i 0) : l = m := by
  apply List.ext_getElem hl
  intro i h1 h2
  have := h i h1
  simpa [List.getD,h1,h2] using this
def wiM (b : List UInt8) (n : Nat) : List Nat := (List.range 16).map fun j => wpM b j (min 4 (n - j * 4))
theorem wiM_len (b : List UInt8) (n : Nat) : (wiM b n).length = 16 := by simp [wiM]
theorem rep_zero (n i : Nat) : (List.replicate n 0).getD i 0 = 0 := by
  simp only [List.getD,List.getElem?_replicate]
  split <;> rfl
theorem wiM_zero (b : List UInt8) : wiM b 0 = List.replicate 16 0 := by
  apply list_ext (by simp [wiM_len])
  intro i hi
  have hi' : i < 16 := by simpa [wiM_len] using hi
  unfold wiM
  rw [map_range_get _ _ hi',show min 4 (0 - i * 4) = 0 by omega]
  rw [rep_zero]
  rfl
theorem wiM_get (b : List UInt8) (n : Nat) (h : n < 64) : (wiM b n).getD (n / 4) 0 = wpM b (n / 4) (n % 4) := by
  unfold wiM
  rw [map_range_get _ _ (by omega),show min 4 (n - n / 4 * 4) = n % 4 by omega]
theorem wiM_set (b : List UInt8) (n : Nat) (h : n < 64) : (wiM b n).set (n / 4) (wpM b (n / 4) (n % 4) * 256 + (b.getD n 0).toNat) = wiM b (n + 1) := by
  apply list_ext (by simp [wiM_len])
  intro i hi
  have hi' : i < 16 := by simpa [wiM_len] using hi
  unfold wiM
  by_cases e : n / 4 = i
  · subst e
    rw [getD_set_eq (by simpa using hi'),map_range_get _ _ hi',show min 4 (n + 1 - n / 4 * 4) = n % 4 + 1 by omega,wpM,show n / 4 * 4 + n % 4 = n by omega]
  · rw [getD_set_ne e,map_range_get _ _ hi',map_range_get _ _ hi']
    congr 1
    omega
theorem or_byte {a x : Nat} (h : x < 256) : (a * 256) ||| x = a * 256 + x := by
  have := Nat.two_pow_add_eq_or_of_lt (i := 8) h a
  rw [Nat.mul_comm]
  exact this.symm
def rgM (b : List UInt8) (T : Nat) : List Nat := (List.range 16).map fun j => wM b (T - 1 - (T - 1 - j) % 16)
theorem rgM_len (b : List UInt8) (T : Nat) : (rgM b T).length = 16 := by simp [rgM]
theorem wiM_full (b : List UInt8) : wiM b 64 = rgM b 16 := by
  apply list_ext (by rw [wiM_len,rgM_len])
  intro i hi
  have hi' : i < 16 := by simpa [wiM_len] using hi
  unfold wiM rgM
  rw [map_range_get _ _ hi',map_range_get _ _ hi',show min 4 (64 - i * 4) = 4 by omega,wpM_four,show 16 - 1 - (16 - 1 - i) % 16 = i by omega,wM_first b hi']
theorem rgM_get (b : List UInt8) {T j k : Nat} (hj : j < 16) (hT : 16 ≤ T) (hk : k < T) (hk2 : T ≤ k + 16) (e : k % 16 = j) : (rgM b T).getD j 0 = wM b k := by
  unfold rgM
  rw [map_range_get _ _ hj]
  congr 1
  omega
theorem rgM_set (b : List UInt8) {t : Nat} (ht : 16 ≤ t) : (rgM b t).set (t % 16) (wM b t) = rgM b (t + 1) := by
  apply list_ext (by simp [rgM_len])
  intro i hi
  have hi' : i < 16 := by simpa [rgM_len] using hi
  by_cases e : t % 16 = i
  · subst e
    rw [getD_set_eq (by simpa [rgM_len] using hi'),rgM_get b (k := t) hi' (by omega) (by omega) (by omega) rfl]
  · rw [getD_set_ne e]
    unfold rgM
    rw [map_range_get _ _ hi',map_range_get _ _ hi']
    congr 1
    omega
def adM (v s : St) (i : Nat) : List Nat := (stL (addS v s)).take i ++ (stL v).drop i
theorem adM_zero (v s : St) : adM v s 0 = stL v := rfl
theorem adM_full (v s : St) : adM v s 8 = stL (addS v s) := rfl
theorem adM_len (v s : St) {i : Nat} (h : i ≤ 8) : (adM v s i).length = 8 := by
  simp [adM,stL]; omega
theorem adM_get (v s : St) {i : Nat} (h : i < 8) : (adM v s i).getD i 0 = (stL v).getD i 0 := by
  match i,h with
  | 0,_ | 1,_ | 2,_ | 3,_ | 4,_ | 5,_ | 6,_ | 7,_ => rfl
theorem adM_set (v s : St) {i : Nat} (h : i < 8) : (adM v s i).set i (((stL v).getD i 0 + (stL s).getD i 0) % 4294967296) = adM v s (i + 1) := by
  match i,h with
  | 0,_ | 1,_ | 2,_ | 3,_ | 4,_ | 5,_ | 6,_ | 7,_ => rfl
def F4 (H : AH) (a r w s : Nat) (ca cr cw cs : AObj) : AH := (((H.set a ca).set r cr).set w cw).set s cs
def F3 (H : AH) (a r w : Nat) (ca cr cw : AObj) : AH := ((H.set a ca).set r cr).set w cw
structure D4 (H : AH) (a r w s : Nat) : Prop where
  na : H a = none
  nr : H r = none
  nw : H w = none
  ns : H s = none
  e1 : a ≠ r
  e2 : a ≠ w
  e3 : a ≠ s
  e4 : r ≠ w
  e5 : r ≠ s
  e6 : w ≠ s
theorem set_comm {H : AH} {a b : Nat} {x y : AObj} (h : a ≠ b) : (H.set a x).set b y = (H.set b y).set a x := by
  funext z
  simp only [AH.set]
  by_cases e1 : z = a <;> by_cases e2 : z = b <;> simp [e1,e2,h,Ne.symm h]
variable {H : AH} {a r w s : Nat}
theorem D4.getA (d : D4 H a r w s) (ca cr cw cs : AObj) : F4 H a r w s ca cr cw cs a = some ca := by simp [F4,AH.set,d.e1,d.e2,d.e3]
theorem D4.getR (d : D4 H a r w s) (ca cr cw cs : AObj) : F4 H a r w s ca cr cw cs r = some cr := by simp [F4,AH.set,d.e4,d.e5]
theorem D4.getW (d : D4 H a r w s) (ca cr cw cs : AObj) : F4 H a r w s ca cr cw cs w = some cw := by simp [F4,AH.set,d.e6]
theorem D4.getS (ca cr cw cs : AObj) : F4 H a r w s ca cr cw cs s = some cs := by simp [F4,AH.set]
theorem D4.setA (d : D4 H a r w s) (ca cr cw cs x : AObj) : (F4 H a r w s ca cr cw cs).set a x = F4 H a r w s x cr cw cs := by
  unfold F4
  rw [set_comm d.e3.symm,set_comm d.e2.symm,set_comm d.e1.symm,set_set]
theorem D4.setR (d : D4 H a r w s) (ca cr cw cs x : AObj) : (F4 H a r w s ca cr cw cs).set r x = F4 H a r w s ca x cw cs := by
  unfold F4
  rw [set_comm d.e5.symm,set_comm d.e4.symm,set_set]
theorem D4.setW (d : D4 H a r w s) (ca cr cw cs x : AObj) : (F4 H a r w s ca cr cw cs).set w x = F4 H a r w s ca cr x cs := by
  unfold F4
  rw [set_comm d.e6.symm,set_set]
theorem D4.setS (ca cr cw cs x : AObj) : (F4 H a r w s ca cr cw cs).set s x = F4 H a r w s ca cr cw x := by
  unfold F4
  rw [set_set]
theorem D4.sub (d : D4 H a r w s) (ca cr cw cs : AObj) : Abs.Sub H (F4 H a r w s ca cr cw cs) := by
  intro x o hx
  have h1 : x ≠ a := fun e => by rw [e,d.na] at hx; cases hx
  have h2 : x ≠ r := fun e => by rw [e,d.nr] at hx; cases hx
  have h3 : x ≠ w := fun e => by rw [e,d.nw] at hx; cases hx
  have h4 : x ≠ s := fun e => by rw [e,d.ns] at hx; cases hx
  simp [F4,AH.set,h1,h2,h3,h4,hx]
theorem F3_getA (h1 : a ≠ r) (h2 : a ≠ w) (ca cr cw : AObj) : F3 H a r w ca cr cw a = some ca := by simp [F3,AH.set,h1,h2]
theorem F3_getW (ca cr cw : AObj) : F3 H a r w ca cr cw w = some cw := by simp [F3,AH.set]
theorem F3_setW (ca cr cw x : AObj) : (F3 H a r w ca cr cw).set w x = F3 H a r w ca cr x := by unfold F3; rw [set_set]
theorem F3_setS (ca cr cw x : AObj) : (F3 H a r w ca cr cw).set s x = F4 H a r w s ca cr cw x := rfl
theorem D4.of {x y z : AObj} (h1 : H a = none) (h2 : H r = none) (h3 : H w = none) (n1 : ¬ a = r) (n2 : ¬ a = w) (n3 : ¬ r = w) (h : F3 H a r w x y z s = none) : D4 H a r w s := by
  unfold F3 at h
  have e3 := bK h
  have h' := am h
  have e2 := bK h'
  have h'' := am h'
  exact ⟨h1,h2,h3,am h'',n1,n2,bK h'',n3,e2,e3⟩
end Go.Proofs.YtejncnmdjkhiaaaDoor
end
section
set_option linter.unusedSimpArgs false
set_option linter.unusedVariables false
set_option maxRecDepth 20000
set_option maxHeartbeats 4000000
namespace Go.Proofs.YtejncnmdjkhiaaaDoor
open Go Go.Abs Go.Proofs Go.Sha
theorem told_pure (S : St) (hS : OkS S) : APure Tryd.prog 45 [.agg (w32A (stL S)),.sc (.int .i64 32)] (eu (toldM S)) := by
  have hgs : ∀ i,i < 8 → (w32A (stL S))[i]? = some (.sc (.int .u32 ((stL S).getD i 0 : Nat))) := fun i hi => w32A_at hi
  have hsl : (w32A (stL S)).length = 8 := rfl
  have hlt := stL_lt hS
  have hta := fun i j hi hj => told_at S (i := i) (j := j) hi hj
  have htl : ∀ n,n ≤ 32 → (bw ((toldM S).take n)).length = n := fun n hn => by rw [gz,List.length_take,told_len]; omega
  have htf : (toldM S).take 32 = toldM S := List.take_of_length_le (Nat.le_refl _)
  have hml := told_len S
  have hst8 : (w32A (stL S)).map AV.strip0 = w32A (stL S) := by simp [w32A,AV.strip0]
  have ht8 : (w32A (stL S)).take 8 = w32A (stL S) := rfl
  unfold eu
  generalize hsr : w32A (stL S) = sr at *
  generalize toldM S = T at *
  refine az (c := ⟨Tryd.prog,28,[(1000000,[2])],[],[]⟩) (rs := [ResultVar.tmp 4]) Tryd.mixed Tryd.func45 rfl rfl rfl (Nat.le_of_ble_eq_true rfl) (by kernel_rfl) fun H => ?_
  simp (disch := omega) only [↓aI,↓zP,aD,zD,aS,Nat.reduceBEq,Nat.reduceLT,reduceCtorEq,↓reduceIte,Nat.reduceMul,Nat.reduceAdd,Nat.reduceLeDiff,Nat.reduceEqDiff,Int.reduceToNat,Nat.reduceSub,Nat.reduceMod,Nat.reduceDiv,Int.reducePow,Int.reduceLE,Int.reduceNeg,Int.reduceLT,Int.reduceBEq,Int.reduceBNe,Int.reduceEq,Tryd.facts,hsl,ht8,hml]
  intro k hk0 hk
  refine jn 5 (by simp (disch := omega) only [↓aI,↓zP,aD,zD,aS,Nat.reduceBEq,Nat.reduceLT,reduceCtorEq,↓reduceIte,Nat.reduceMul,Nat.reduceAdd,Nat.reduceLeDiff,Nat.reduceEqDiff,Int.reduceToNat,Nat.reduceSub,Nat.reduceMod,Nat.reduceDiv,Int.reducePow,Int.reduceLE,Int.reduceNeg,Int.reduceLT,Int.reduceBEq,Int.reduceBNe,Int.reduceEq,Tryd.facts]) fun kt hkt0 hkt => ?_
  rw [ef hk] at hkt
  refine br (c := ⟨Tryd.prog,28,[(1000000,[2])],[],[]⟩) Tryd.mixed (by kernel_rfl) (fun m5 σ5 H5 => ∃ i : Nat,i + m5 = 8 ∧ σ5 1 = .sc (.int .i64 32) ∧ σ5 9 = .agg sr ∧ σ5 10 = .sc (.int .i64 i) ∧ ∃ kt ot,kt ≠ 0 ∧ H kt = none ∧ H5 = H.set kt ot ∧ cy 5 1 ot (4 * i) ∧ σ5 5 = .imm kt (bw (T.take (4 * i))) (4 * i)) 8 ?_ ?_
  · refine ⟨0,by omega,?_⟩
    simp (disch := omega) only [↓aI,↓zP,aD,zD,aS,Nat.reduceBEq,Nat.reduceLT,reduceCtorEq,↓reduceIte,Nat.reduceMul,Nat.reduceAdd,Nat.reduceLeDiff,Nat.reduceEqDiff,Int.reduceToNat,Nat.reduceSub,Nat.reduceMod,Nat.reduceDiv,Int.reducePow,Int.reduceLE,Int.reduceNeg,Int.reduceLT,Int.reduceBEq,Int.reduceBNe,Int.reduceEq,Tryd.facts,hst8,aj hk]
    exact ⟨kt,_,hkt0,hkt,rfl,.inr ⟨rfl,rfl⟩,rfl⟩
  · clear hkt hkt0
    clear kt
    rintro m5 σ5 H5 ⟨i5,hi5,s1,s9,s10,kt,ot,hkt0,hkt,rfl,hot,s5⟩
    by_cases hil5 : i5 < 8
    · have hb5 : decide ((i5 : Int) < 8) = true := by simp; omega
      have h88 : IntKind.i64.wrap (32 - 8) = 24 := by decide
      have a1 := hgs i5 hil5
      have b1 := hlt i5
      have d1 := fun j hj => hta i5 j hil5 hj
      generalize (stL S).getD i5 0 = x at *
      have hgd : sr.getD i5 AV.any = .sc (.int .u32 (x : Nat)) := by simp [List.getD,a1]
      simp (disch := omega) only [↓aI,↓zP,aD,zD,aS,Nat.reduceBEq,Nat.reduceLT,reduceCtorEq,↓reduceIte,Nat.reduceMul,Nat.reduceAdd,Nat.reduceLeDiff,Nat.reduceEqDiff,Int.reduceToNat,Nat.reduceSub,Nat.reduceMod,Nat.reduceDiv,Int.reducePow,Int.reduceLE,Int.reduceNeg,Int.reduceLT,Int.reduceBEq,Int.reduceBNe,Int.reduceEq,Tryd.facts,s1,s9,s10,s5,hb5,h88,a1,hsl,hgd]
      refine br (c := ⟨Tryd.prog,28,[(1000000,[2])],[],[]⟩) Tryd.mixed (by kernel_rfl) (fun m6 σ6 H6 => ∃ (j : Nat) (z : Int),j + m6 = 4 ∧ z = 24 - 8 * (j : Int) ∧ σ6 1 = .sc (.int .i64 32) ∧ σ6 9 = .agg sr ∧ σ6 10 = .sc (.int .i64 i5) ∧ σ6 7 = .sc (.int .u32 x) ∧ σ6 8 = .sc (.int .i64 z) ∧ ∃ kt ot,kt ≠ 0 ∧ H kt = none ∧ H6 = H.set kt ot ∧ cy 5 1 ot (4 * i5 + j) ∧ σ6 5 = .imm kt (bw (T.take (4 * i5 + j))) (4 * i5 + j)) 4 ?_ ?_
      · refine ⟨0,24,by omega,by omega,?_⟩
        simp (disch := omega) only [↓aI,↓zP,aD,zD,aS,Nat.reduceBEq,Nat.reduceLT,reduceCtorEq,↓reduceIte,Nat.reduceMul,Nat.reduceAdd,Nat.reduceLeDiff,Nat.reduceEqDiff,Int.reduceToNat,Nat.reduceSub,Nat.reduceMod,Nat.reduceDiv,Int.reducePow,Int.reduceLE,Int.reduceNeg,Int.reduceLT,Int.reduceBEq,Int.reduceBNe,Int.reduceEq,Tryd.facts,s1,s9,s10,s5,hgd]
        exact ⟨kt,ot,hkt0,hkt,rfl,hot,rfl⟩
      · clear hkt hkt0 s5 hot
        clear kt ot
        rintro m6 σ6 H6 ⟨j,z,hj,hz,s1,s9,s10,s7,s8,kt,ot,hkt0,hkt,rfl,hot,s5⟩
        by_cases hjl : j < 4
        · obtain ⟨r,hr⟩ : ∃ r : Nat,r = 24 - 8 * j := ⟨_,rfl⟩
          obtain rfl : z = (r : Int) := by omega
          have hb6 : decide ((0 : Int) ≤ (r : Int)) = true := by simp
          have htk := d1 j hjl
          rw [show 24 - 8 * j = r by omega] at htk
          have hle := htl (4 * i5 + j) (by omega)
          have w1 : IntKind.i64.wrap ((r : Int) - 8) = (r : Int) - 8 := iw (by omega)
          have hsx : (x : Int).fdiv (2 ^ min r 32) = ((x / 2 ^ r : Nat) : Int) := by rw [minL (by omega),shrN]
          generalize x / 2 ^ r = sx at *
          generalize hT2 : T.take (4 * i5 + j + 1) = T2 at *
          generalize T.take (4 * i5 + j) = T1 at *
          simp (disch := omega) only [↓aI,↓zP,aD,zD,aS,Nat.reduceBEq,Nat.reduceLT,reduceCtorEq,↓reduceIte,Nat.reduceMul,Nat.reduceAdd,Nat.reduceLeDiff,Nat.reduceEqDiff,Int.reduceToNat,Nat.reduceSub,Nat.reduceMod,Nat.reduceDiv,Int.reducePow,Int.reduceLE,Int.reduceNeg,Int.reduceLT,Int.reduceBEq,Int.reduceBNe,Int.reduceEq,Tryd.facts,s1,s9,s10,s7,s8,s5,hb6,bits_u32,hsx,jC,hkt0,hot,hle,w1]
          intro k' o' hk0' hk' ho'
          have hl1 : T1.length = 4 * i5 + j := by rw [gz] at hle; exact hle
          rw [hl1] at ho'
          exact ⟨m6 - 1,by omega,j + 1,(r : Int) - 8,by omega,by omega,rfl,k',o',hk0',am hk',rfl,ho',by rw [← Nat.add_assoc,hT2,htk]⟩
        · obtain rfl : j = 4 := by omega
          obtain rfl : z = -8 := by omega
          have hb6 : decide ((0 : Int) ≤ -8) = false := by decide
          simp (disch := omega) only [↓aI,↓zP,aD,zD,aS,Nat.reduceBEq,Nat.reduceLT,reduceCtorEq,↓reduceIte,Nat.reduceMul,Nat.reduceAdd,Nat.reduceLeDiff,Nat.reduceEqDiff,Int.reduceToNat,Nat.reduceSub,Nat.reduceMod,Nat.reduceDiv,Int.reducePow,Int.reduceLE,Int.reduceNeg,Int.reduceLT,Int.reduceBEq,Int.reduceBNe,Int.reduceEq,Tryd.facts,s1,s9,s10,s7,s8,s5,hb6]
          exact ⟨m5 - 1,by omega,i5 + 1,by omega,rfl,kt,ot,hkt0,hkt,rfl,hot,rfl⟩
    · obtain rfl : i5 = 8 := by omega
      have hb5 : decide (((8 : Nat) : Int) < 8) = false := by decide
      rw [show 4 * 8 = 32 from rfl,htf] at s5
      simp (disch := omega) only [↓aI,↓zP,aD,zD,aS,Nat.reduceBEq,Nat.reduceLT,reduceCtorEq,↓reduceIte,Nat.reduceMul,Nat.reduceAdd,Nat.reduceLeDiff,Nat.reduceEqDiff,Int.reduceToNat,Nat.reduceSub,Nat.reduceMod,Nat.reduceDiv,Int.reducePow,Int.reduceLE,Int.reduceNeg,Int.reduceLT,Int.reduceBEq,Int.reduceBNe,Int.reduceEq,Tryd.facts,s1,s9,s10,s5,hb5,hml]
      exact Sub.set_new hkt
theorem padded_pure (r : List UInt8) (all : Nat) (hr : r.length ≤ 100000000) (ha : all ≤ 100000000) : APure Tryd.prog 44 [eu r,.sc (.int .i64 all),.sc (.int .i64 64)] (eu (padS r all)) := by
  unfold eu
  have hel := gz r
  refine az (c := ⟨Tryd.prog,49,[],[10],[]⟩) (rs := [ResultVar.tmp 6]) Tryd.mixed Tryd.func44 rfl rfl rfl (Nat.le_of_ble_eq_true rfl) (by kernel_rfl) fun H => ?_
  simp (disch := omega) only [↓aI,↓zP,aD,zD,aS,Nat.reduceBEq,Nat.reduceLT,reduceCtorEq,↓reduceIte,Nat.reduceMul,Nat.reduceAdd,Nat.reduceLeDiff,Nat.reduceEqDiff,Int.reduceToNat,Nat.reduceSub,Nat.reduceMod,Nat.reduceDiv,Int.reducePow,Int.reduceLE,Int.reduceNeg,Int.reduceLT,Int.reduceBEq,Int.reduceBNe,Int.reduceEq,Tryd.facts]
  intro k hk0 hk
  simp (disch := omega) only [↓aI,↓zP,aD,zD,aS,Nat.reduceBEq,Nat.reduceLT,reduceCtorEq,↓reduceIte,Nat.reduceMul,Nat.reduceAdd,Nat.reduceLeDiff,Nat.reduceEqDiff,Int.reduceToNat,Nat.reduceSub,Nat.reduceMod,Nat.reduceDiv,Int.reducePow,Int.reduceLE,Int.reduceNeg,Int.reduceLT,Int.reduceBEq,Int.reduceBNe,Int.reduceEq,Tryd.facts,hk0]
  intro k3 o3 hk30 hk3 ho3
  simp (disch := omega) only [↓aI,↓zP,aD,zD,aS,Nat.reduceBEq,Nat.reduceLT,reduceCtorEq,↓reduceIte,Nat.reduceMul,Nat.reduceAdd,Nat.reduceLeDiff,Nat.reduceEqDiff,Int.reduceToNat,Nat.reduceSub,Nat.reduceMod,Nat.reduceDiv,Int.reducePow,Int.reduceLE,Int.reduceNeg,Int.reduceLT,Int.reduceBEq,Int.reduceBNe,Int.reduceEq,Tryd.facts,hk30,ho3,encB_snoc]
  intro k4 o4 hk40 hk4 ho4
  have h56 : IntKind.i64.wrap (64 - IntKind.i64.wrap (Int.tdiv 64 8)) = 56 := by decide
  have h8 : IntKind.i64.wrap (Int.tdiv 64 8) = 8 := by decide
  refine br (c := ⟨Tryd.prog,49,[],[10],[]⟩) Tryd.mixed (by kernel_rfl) (fun m σ H' => ∃ j : Nat,j + m = zerosN r.length ∧ σ 1 = .sc (.int .i64 all) ∧ σ 2 = .sc (.int .i64 64) ∧ ∃ k o,k ≠ 0 ∧ H k = none ∧ H' = H.set k o ∧ cy 5 1 o (r.length + 1 + j) ∧ σ 7 = .imm k (bw (padZ r j)) (r.length + 1 + j)) (zerosN r.length) ?_ ?_
  · refine ⟨0,by omega,?_⟩
    simp (disch := omega) only [↓aI,↓zP,aD,zD,aS,Nat.reduceBEq,Nat.reduceLT,reduceCtorEq,↓reduceIte,Nat.reduceMul,Nat.reduceAdd,Nat.reduceLeDiff,Nat.reduceEqDiff,Int.reduceToNat,Nat.reduceSub,Nat.reduceMod,Nat.reduceDiv,Int.reducePow,Int.reduceLE,Int.reduceNeg,Int.reduceLT,Int.reduceBEq,Int.reduceBNe,Int.reduceEq,Tryd.facts]
    exact ⟨k4,o4,hk40,am hk4,by rw [ef (am hk3)],ho4,by rw [show padZ r 0 = r ++ [128] by simp [padZ],← encB_append]; rfl⟩
  · rintro m σ H' ⟨j,hj,g1,g2,k,o,hk0,hk,rfl,ho,g7⟩
    have hzl : (bw (padZ r j)).length = r.length + 1 + j := by rw [gz,padZ_len]
    have hzn : zerosN r.length < 64 := Nat.mod_lt _ (by decide)
    by_cases hlt : j < zerosN r.length
    · have hne : ((((r.length + 1 + j) % 64 : Nat) : Int) != (64 - 8)) = true := nT (by unfold zerosN at hlt; omega)
      simp (disch := omega) only [↓aI,↓zP,aD,zD,aS,Nat.reduceBEq,Nat.reduceLT,reduceCtorEq,↓reduceIte,Nat.reduceMul,Nat.reduceAdd,Nat.reduceLeDiff,Nat.reduceEqDiff,Int.reduceToNat,Nat.reduceSub,Nat.reduceMod,Nat.reduceDiv,Int.reducePow,Int.reduceLE,Int.reduceNeg,Int.reduceLT,Int.reduceBEq,Int.reduceBNe,Int.reduceEq,Tryd.facts,g1,g2,g7,h56,h8,jd,hne,hk0,ho,hzl]
      intro k' o' hk0' hk' ho'
      exact ⟨m - 1,by omega,j + 1,by omega,k',o',hk0',am hk',rfl,ho',by rw [padZ_snoc,← encB_append]; rfl⟩
    · obtain rfl : j = zerosN r.length := by omega
      have hne : ((((r.length + 1 + zerosN r.length) % 64 : Nat) : Int) != (64 - 8)) = false := nF (by unfold zerosN; omega)
      have hpe : padS r all = padZ r (zerosN r.length) ++ lenB all := rfl
      have hpl := padZ_len r (zerosN r.length)
      generalize padZ r (zerosN r.length) = P1 at *
      generalize hN1 : r.length + 1 + zerosN r.length = N1 at *
      have hN1l : N1 ≤ 100000100 := by omega
      have h80 : IntKind.i64.wrap (IntKind.i64.wrap (Int.tdiv 64 8) - 8) = 0 := by decide
      have w2 : IntKind.u64.wrap (all : Int) = (all : Int) := jw (by omega)
      have w3 : IntKind.u64.wrap ((all : Int) * 8) = ((all * 8 : Nat) : Int) := umul64n (n := 8) (by show all * 8 < _; omega)
      simp (disch := omega) only [↓aI,↓zP,aD,zD,aS,Nat.reduceBEq,Nat.reduceLT,reduceCtorEq,↓reduceIte,Nat.reduceMul,Nat.reduceAdd,Nat.reduceLeDiff,Nat.reduceEqDiff,Int.reduceToNat,Nat.reduceSub,Nat.reduceMod,Nat.reduceDiv,Int.reducePow,Int.reduceLE,Int.reduceNeg,Int.reduceLT,Int.reduceBEq,Int.reduceBNe,Int.reduceEq,Tryd.facts,g1,g2,g7,h56,h8,h80,jd,hne,hk0,ho,hzl,w2,w3]
      intro k5 o5 hk50 hk5 ho5
      refine br (c := ⟨Tryd.prog,49,[],[10],[]⟩) Tryd.mixed (by kernel_rfl) (fun m2 σ2 H2 => ∃ i : Nat,i + m2 = 8 ∧ σ2 8 = .sc (.int .u64 (all * 8 : Nat)) ∧ σ2 35 = .sc (.int .i64 i) ∧ ∃ k o,k ≠ 0 ∧ H k = none ∧ H2 = H.set k o ∧ cy 5 1 o (N1 + i) ∧ σ2 7 = .imm k (bw (P1 ++ (lenB all).take i)) (N1 + i)) 8 ?_ ?_
      · refine ⟨0,by omega,?_⟩
        simp (disch := omega) only [↓aI,↓zP,aD,zD,aS,Nat.reduceBEq,Nat.reduceLT,reduceCtorEq,↓reduceIte,Nat.reduceMul,Nat.reduceAdd,Nat.reduceLeDiff,Nat.reduceEqDiff,Int.reduceToNat,Nat.reduceSub,Nat.reduceMod,Nat.reduceDiv,Int.reducePow,Int.reduceLE,Int.reduceNeg,Int.reduceLT,Int.reduceBEq,Int.reduceBNe,Int.reduceEq,Tryd.facts,g1,g2]
        exact ⟨k5,o5,hk50,am hk5,rfl,ho5,by show AV.imm k5 (bw P1 ++ []) N1 = _; rw [List.append_nil]⟩
      · rintro m2 σ2 H2 ⟨i,hi,g8,g35,k,o,hk0,hk,rfl,ho,g7⟩
        have hil : (bw (P1 ++ (lenB all).take i)).length = N1 + i := by rw [gz,List.length_append,List.length_take,hpl]; show _ + min i 8 = _; omega
        by_cases hlt : i < 8
        · have hb2 : decide ((i : Int) < 8) = true := by simp; omega
          have htk := lenB_take all hlt
          have w4 : IntKind.i64.wrap (8 * (i : Int)) = ((8 * i : Nat) : Int) := by rw [iw (by omega)]; omega
          have w5 : IntKind.i64.wrap (56 - ((8 * i : Nat) : Int)) = ((56 - 8 * i : Nat) : Int) := by rw [iw (by omega)]; omega
          have hsx : ((all * 8 : Nat) : Int).fdiv (2 ^ min (56 - 8 * i) 64) = ((all * 8 / 2 ^ (56 - 8 * i) : Nat) : Int) := by rw [minL (by omega),shrN]
          have hbu : IntKind.u64.bits = 64 := rfl
          generalize all * 8 / 2 ^ (56 - 8 * i) = sx at *
          generalize hlb : (lenB all).take (i + 1) = l2 at *
          generalize (lenB all).take i = l1 at *
          simp (disch := omega) only [↓aI,↓zP,aD,zD,aS,Nat.reduceBEq,Nat.reduceLT,reduceCtorEq,↓reduceIte,Nat.reduceMul,Nat.reduceAdd,Nat.reduceLeDiff,Nat.reduceEqDiff,Int.reduceToNat,Nat.reduceSub,Nat.reduceMod,Nat.reduceDiv,Int.reducePow,Int.reduceLE,Int.reduceNeg,Int.reduceLT,Int.reduceBEq,Int.reduceBNe,Int.reduceEq,Tryd.facts,g8,g35,g7,hb2,w4,w5,hsx,hbu,jC,hk0,ho,hil]
          intro k' o' hk0' hk' ho'
          have hl1 : P1.length + l1.length = N1 + i := by rw [gz,List.length_append] at hil; exact hil
          rw [hl1] at ho'
          exact ⟨m2 - 1,by omega,i + 1,by omega,rfl,k',o',hk0',am hk',rfl,ho',by rw [hlb,htk,← List.append_assoc]; rfl⟩
        · obtain rfl : i = 8 := by omega
          have hb2 : decide (((8 : Nat) : Int) < 8) = false := by decide
          rw [show (lenB all).take 8 = lenB all from rfl,← hpe] at g7 hil
          rw [gz] at hil
          simp (disch := omega) only [↓aI,↓zP,aD,zD,aS,Nat.reduceBEq,Nat.reduceLT,reduceCtorEq,↓reduceIte,Nat.reduceMul,Nat.reduceAdd,Nat.reduceLeDiff,Nat.reduceEqDiff,Int.reduceToNat,Nat.reduceSub,Nat.reduceMod,Nat.reduceDiv,Int.reducePow,Int.reduceLE,Int.reduceNeg,Int.reduceLT,Int.reduceBEq,Int.reduceBNe,Int.reduceEq,Tryd.facts,g8,g35,g7,hb2,hil]
          first | exact Sub.set_new hk | trace_state
end Go.Proofs.YtejncnmdjkhiaaaDoor
end
