/-
  Rosters: the document's log makes an entry.
  Conditions: none. Lemmas only.
-/
import Derived.Test.YtjlnpngaiphnmaaGreatRosG8
set_option linter.all false
set_option linter.unusedSimpArgs false
set_option linter.unusedVariables false
set_option maxRecDepth 20000
set_option maxHeartbeats 16000000
namespace Go.Proofs.YtjlnpngaiphnmaaGreat
open Go Go.Abs Go.Proofs
variable {d N : Nat} {ts : List Term} {ad secret once key : List UInt8} {g : LogM} {ms : List Mem} {ns : List Nd}
abbrev jD (ts : List Term) (d : Nat) : AObj := .cells [.imm 0 (dC ts) ts.length,.sc (.int .i64 (d : Nat))] 51 2
abbrev v0Obj : AObj := .cells [.sc (.slice none 0 0),.sc (.int .i64 0)] 51 2
theorem rmake_pure (hg : OkG g) (gt : GT N ts) (hN : N ≤ 999900) (hms : ms.length ≤ 100000) (hns : ns.length ≤ 100000) :
    APure Tryz.prog 80 [.agg (lgM ad g),fw ts d,eu secret,eu once,eu key,fE ms,fY ns] (.tup [fw (gq ts ad g secret once key ms ns).1 d,.agg (fX (gq ts ad g secret once key ms ns).2.1),.sc (.int .i64 (gq ts ad g secret once key ms ns).2.2)]) := by
  have hlen := hg.len
  have hfew := hg.few
  have hR : gq ts ad g secret once key ms ns = if ¬ secret.length = 32 ∨ ¬ once.length = 32 ∨ ¬ key.length = 32 then (ts, i9, 1) else if ¬ fP ts ⟨118, [secret]⟩ = ad then ((fC ts ⟨118, [secret]⟩).1, i9, 23)
      else if g.L.length = 65536 then ((fC ts ⟨118,[secret]⟩).1,i9,14)
      else if (gV ms ns && kM g ms ns) = false then ((fC (fC ts ⟨118,[secret]⟩).1 ⟨112,[once]⟩).1,i9,19)
      else if ¬ (iE (gS (fC ts ⟨118,[secret]⟩).1 g once ms ns) once key (fC (fC ts ⟨118,[secret]⟩).1 ⟨112,[once]⟩).1 ms []).2.2 = 0 then
        ((iE (gS (fC ts ⟨118,[secret]⟩).1 g once ms ns) once key (fC (fC ts ⟨118,[secret]⟩).1 ⟨112,[once]⟩).1 ms []).1,i9,(iE (gS (fC ts ⟨118,[secret]⟩).1 g once ms ns) once key (fC (fC ts ⟨118,[secret]⟩).1 ⟨112,[once]⟩).1 ms []).2.2)
      else sgnM (iE (gS (fC ts ⟨118,[secret]⟩).1 g once ms ns) once key (fC (fC ts ⟨118,[secret]⟩).1 ⟨112,[once]⟩).1 ms []).1 secret { gS (fC ts ⟨118,[secret]⟩).1 g once ms ns with boxes := (iE (gS (fC ts ⟨118,[secret]⟩).1 g once ms ns) once key (fC (fC ts ⟨118,[secret]⟩).1 ⟨112,[once]⟩).1 ms []).2.1 } := rfl
  have hen : ∀ t,(gS t g once ms ns) = ⟨((g.L.length + 1 : Nat) : Int),iZ g.D g.L.length,ms,ns,fP t ⟨112,[once]⟩,[],[]⟩ := fun _ => rfl
  simp only [hen] at hR
  clear hen
  have hdgl := digM_le hg (g.L.length : Nat)
  have hon : (fP (fC ts ⟨118,[secret]⟩).1 ⟨112,[once]⟩).length ≤ 32 := Nat.le_of_eq (gW _ _)
  generalize gq ts ad g secret once key ms ns = R at hR ⊢
  have hdl := rdig_pure (ad := ad) hg (g.L.length : Nat) (by omega)
  generalize iZ g.D (g.L.length : Nat) = dg at hR hdgl hdl
  have hpp := rparts_pure ms ns (by omega) (by omega)
  have hme : ∀ x ∈ g.L,x.members.length ≤ 1000000 := fun x hx => by
    have := (gH (fy (hg.ent x hx)).2.2.2.1).1
    omega
  have hfo := rfollows_pure (eu ad) g.L (.imm 0 (g.D.map eu) g.D.length) ms ns (by omega) hme (by omega) (by omega)
  rw [show folD (iK g.L) ms (j6 (List.map Ent.members g.L)) [0,1,2,3,4] ns = kM g ms ns from rfl] at hfo
  have hLc : (g.L.flatMap fX).length = g.L.length * 7 := fF i7 _
  have hDc : (g.D.map eu).length = g.D.length := List.length_map _
  refine az (c := ⟨Tryz.prog,146,[(16,[0,0,0,0,0,0,0,0,0,0,0,0,0,0,0,0,0,0,0,2,2,0,0]),(19,[1,0,1,0,0,0,0,0,0,2,0]),(22,[1,0,1,0,0,0,0,0,2,0,2]),(23,[1,0,2,2,0]),(1000000,[7]),(4000023,[14,15,16]),(4000022,[8,14,15,19]),(4000021,[2,3,4,5,8,14,15,19,20]),(4000019,[2,3,4,5,8,14,15,19,20,21,24]),(4000018,[14,15,16]),(4000016,[2,3,4,5,8,14,15,19,20,21,22,23]),(4000012,[14,15,16]),(4000011,[2,3,4,5,8,14,15,19,86]),(4000010,[2,3,4,5,6,7,8,14,15,19]),(4000009,[2,3,4,5,6,7,8,14,15,19]),(4000008,[14,15,16]),(4000005,[14,15,16]),(4000004,[2,3,4,5,6,7,8,14,15,51]),(4000003,[2,3,4,5,6,7,8,14,15,17]),(4000002,[14,15,16]),(4000001,[2,3,4,5,6,7,8,14,15,37]),(4000000,[2,3,4,5,6,7,8,14,15])],[],[(16,(.op 1 0 (.op 3 0 (.op 4 0 (.op 5 0 (.op 6 0 (.op 7 0 (.op 8 0 (.op 9 0 (.op 10 0 (.op 11 0 (.op 12 0 (.op 13 0 (.op 0 4 (.op 2 4 (.op 14 0 (.op 15 0 (.op 16 0 (.op 17 0 (.op 18 0 (.op 19 3 (.op 20 2 (.op 21 0 (.op 22 0 .nil)))))))))))))))))))))))),(23,(.op 0 4 (.or (.op 1 3 (.op 2 2 (.op 3 2 (.op 4 0 .nil)))) (.op 2 2 (.op 1 3 (.op 3 2 (.op 4 0 .nil)))))))]⟩) (rs := [ResultVar.cell 14 51,ResultVar.cell 15 27,ResultVar.tmp 16]) Tryz.mixed Tryz.func80 rfl rfl rfl (Nat.le_of_ble_eq_true rfl) (by kernel_rfl) fun H => ?_
  simp (disch := omega) only [↓aI,↓zP,aD,zD,aS,simprocAttr,Tryz.facts,zA]
  intro b7 hb70 hb7 b8 hb80 hb8 b14 hb140 hb14 b15 hb150 hb15
  have n78 := bK hb8
  have n814 := bK hb14
  have n714 := bK (am hb14)
  have n1415 := bK hb15
  have n815 := bK (am hb15)
  have n715 := bK (am (am hb15))
  have n148 : ¬ b14 = b8 := fun e => n814 e.symm
  have n158 : ¬ b15 = b8 := fun e => n815 e.symm
  have n1514 : ¬ b15 = b14 := fun e => n1415 e.symm
  have f8 := am hb8
  have f14 := am (am hb14)
  have f15 := am (am (am hb15))
  clear hb8 hb14 hb15
  simp (disch := omega) only [↓aI,↓zP,aD,zD,aS,simprocAttr,Tryz.facts,zA,aP,n78,n714,n715,n814,n148,n815,n158,n1415,n1514,gU,gj,gI hb7]
  have hs0 : Abs.Sub H (((H.set b8 (jD ts d)).set b14 v0Obj).set b15 ii) := ((Sub.set_new f8).set_free f14).set_free f15
  have v8 : (((H.set b8 (jD ts d)).set b14 v0Obj).set b15 ii) b8 = some (jD ts d) := by rw [aP n815,aP n814,set_get]
  have v14 : (((H.set b8 (jD ts d)).set b14 v0Obj).set b15 ii) b14 = some v0Obj := by rw [aP n1415,set_get]
  have v15 : (((H.set b8 (jD ts d)).set b14 v0Obj).set b15 ii) b15 = some ii := set_get
  generalize ((H.set b8 _).set b14 _).set b15 _ = E at hs0 v8 v14 v15 ⊢
  have ex : ∀ x y z : AObj,Abs.Sub H (((E.set b8 x).set b14 y).set b15 z) := fun x y z => ((hs0.set_free f8).set_free f14).set_free f15
  have ex2 : ∀ y z : AObj,Abs.Sub H ((E.set b14 y).set b15 z) := fun y z => (hs0.set_free f14).set_free f15
  by_cases hbad : ¬ secret.length = 32 ∨ ¬ once.length = 32 ∨ ¬ key.length = 32
  · rw [if_pos hbad] at hR
    subst hR
    rw [iu]
    have hc : ¬ secret.length = 32 ∨ (secret.length = 32 ∧ ¬ once.length = 32) ∨ (secret.length = 32 ∧ once.length = 32 ∧ ¬ key.length = 32) := by omega
    rcases hc with h1 | ⟨h1,h2⟩ | ⟨h1,h2,h3⟩
    all_goals
      simp (disch := omega) only [↓aI,↓zP,aD,zD,aS,simprocAttr,Tryz.facts,zA,v8,v14,v15,aP,n814,n148,n815,n158,n1415,n1514,ah]
      exact ex2 _ _
  rw [if_neg hbad] at hR
  have h1 : secret.length = 32 := by omega
  have h2 : once.length = 32 := by omega
  have h3 : key.length = 32 := by omega
  have hsi := vsigner_pure ts d secret (wf1 (k := 118) (a := secret) (by decide) (by omega)).1 gt.ok (by have := gt.len; omega)
  rw [if_pos h1] at hsi
  rw [show fW ⟨118,[secret]⟩ (fC ts ⟨118,[secret]⟩).2 = fP ts ⟨118,[secret]⟩ from rfl] at hsi
  have g1 := gt.num (wf1 (k := 118) (a := secret) (by decide) (by omega)) fun e => absurd (show (118 : UInt8) = 112 from e) (by decide)
  generalize fP ts ⟨118,[secret]⟩ = y at hsi hR
  generalize (fC ts ⟨118,[secret]⟩).1 = ts1 at hsi g1 hR hon
  simp (disch := omega) only [↓aI,↓zP,aD,zD,aS,simprocAttr,Tryz.facts,zA,v8,v14,v15]
  first | refine CallK.p (hsi) ?_ | refine CallP.i (hsi) ?_
  simp (disch := omega) only [↓aI,↓zP,aD,zD,aS,simprocAttr,Tryz.facts,zA,v8,v14,v15,aP,n814,n148,n815,n158,n1415,n1514,ah,bO]
  by_cases hgood : y = ad
  rotate_left
  · rw [if_pos hgood] at hR
    subst hR
    rw [iu]
    have cb : (y == ad) = false := by simpa using hgood
    try simp (disch := omega) only [↓aI,↓zP,aD,zD,aS,simprocAttr,Tryz.facts,zA,v8,v14,v15,aP,n814,n148,n815,n158,n1415,n1514,ah,bO,cb]
    exact ex _ _ _
  rw [if_neg (by simpa using hgood)] at hR
  have cb : (y == ad) = true := by simpa using hgood
  by_cases hfull : g.L.length = 65536
  · rw [if_pos hfull] at hR
    subst hR
    rw [iu]
    try simp (disch := omega) only [↓aI,↓zP,aD,zD,aS,simprocAttr,Tryz.facts,zA,v8,v14,v15,aP,n814,n148,n815,n158,n1415,n1514,ah,bO,cb]
    exact ex _ _ _
  rw [if_neg hfull] at hR
  try simp (disch := omega) only [↓aI,↓zP,aD,zD,aS,simprocAttr,Tryz.facts,zA,v8,v14,v15,aP,n814,n148,n815,n158,n1415,n1514,ah,bO,cb]
  first | refine CallK.p (hdl) ?_ | refine CallP.i (hdl) ?_
  simp (disch := omega) only [↓aI,↓zP,aD,zD,aS,simprocAttr,Tryz.facts,zA,v8,v14,v15,aP,n814,n148,n815,n158,n1415,n1514,ah]
  intro b19 hb190 hb19
  have n819 := bK hb19
  have fE19 := am hb19
  have n1419 := bA v14 fE19
  have n1519 := bA v15 fE19
  have f19 := hs0.free fE19
  have n198 : ¬ b19 = b8 := fun e => n819 e.symm
  have n1914 : ¬ b19 = b14 := fun e => n1419 e.symm
  have n1915 : ¬ b19 = b15 := fun e => n1519 e.symm
  have hpu := vpublic_pure ts1 d once (wf1 (k := 112) (a := once) (by decide) (by omega)).1 g1.ok (by have := g1.len; omega)
  rw [if_pos h2] at hpu
  rw [show fW ⟨112,[once]⟩ (fC ts1 ⟨112,[once]⟩).2 = fP ts1 ⟨112,[once]⟩ from rfl] at hpu
  have g2 := g1.num (wf1 (k := 112) (a := once) (by decide) (by omega)) fun e => by simp [fv]; omega
  generalize fP ts1 ⟨112,[once]⟩ = ob at hpu hR hon
  generalize (fC ts1 ⟨112,[once]⟩).1 = ts2 at hpu hR g2
  have hs2 : Abs.Sub H ((E.set b8 (jD ts1 d)).set b19 (jV ((g.L.length + 1 : Nat) : Int) dg (fE ms) (fY ns) (.sc (.slice none 0 0)) (.sc (.slice none 0 0)))) := (hs0.set_free f8).set_free f19
  have u8 : ((E.set b8 (jD ts1 d)).set b19 (jV ((g.L.length + 1 : Nat) : Int) dg (fE ms) (fY ns) (.sc (.slice none 0 0)) (.sc (.slice none 0 0)))) b8 = some (jD ts1 d) := by rw [aP n819,set_get]
  have u14 : ((E.set b8 (jD ts1 d)).set b19 (jV ((g.L.length + 1 : Nat) : Int) dg (fE ms) (fY ns) (.sc (.slice none 0 0)) (.sc (.slice none 0 0)))) b14 = some v0Obj := by rw [aP n1419,aP n148]; exact v14
  have u15 : ((E.set b8 (jD ts1 d)).set b19 (jV ((g.L.length + 1 : Nat) : Int) dg (fE ms) (fY ns) (.sc (.slice none 0 0)) (.sc (.slice none 0 0)))) b15 = some ii := by rw [aP n1519,aP n158]; exact v15
  have u19 : ((E.set b8 (jD ts1 d)).set b19 (jV ((g.L.length + 1 : Nat) : Int) dg (fE ms) (fY ns) (.sc (.slice none 0 0)) (.sc (.slice none 0 0)))) b19 = some (jV ((g.L.length + 1 : Nat) : Int) dg (fE ms) (fY ns) (.sc (.slice none 0 0)) (.sc (.slice none 0 0))) := set_get
  generalize (E.set b8 _).set b19 _ = E2 at hs2 u8 u14 u15 u19 ⊢
  clear ex ex2 v8 v14 v15 hs0 fE19 hb19
  try simp (disch := omega) only [↓aI,↓zP,aD,zD,aS,simprocAttr,Tryz.facts,zA,u8,u14,u15,u19,aP,n814,n148,n815,n158,n1415,n1514,n819,n198,n1419,n1914,n1519,n1915,ah]
  first | refine CallK.p (hpu) ?_ | refine CallP.i (hpu) ?_
  simp (disch := omega) only [↓aI,↓zP,aD,zD,aS,simprocAttr,Tryz.facts,zA,u8,u14,u15,u19,aP,n814,n148,n815,n158,n1415,n1514,n819,n198,n1419,n1914,n1519,n1915,ah]
  have hs3 : Abs.Sub H ((E2.set b8 (jD ts2 d)).set b19 (jV ((g.L.length + 1 : Nat) : Int) dg (fE ms) (fY ns) (eu ob) (.sc (.slice none 0 0)))) := (hs2.set_free f8).set_free f19
  have w8 : ((E2.set b8 (jD ts2 d)).set b19 (jV ((g.L.length + 1 : Nat) : Int) dg (fE ms) (fY ns) (eu ob) (.sc (.slice none 0 0)))) b8 = some (jD ts2 d) := by rw [aP n819,set_get]
  have w14 : ((E2.set b8 (jD ts2 d)).set b19 (jV ((g.L.length + 1 : Nat) : Int) dg (fE ms) (fY ns) (eu ob) (.sc (.slice none 0 0)))) b14 = some v0Obj := by rw [aP n1419,aP n148]; exact u14
  have w15 : ((E2.set b8 (jD ts2 d)).set b19 (jV ((g.L.length + 1 : Nat) : Int) dg (fE ms) (fY ns) (eu ob) (.sc (.slice none 0 0)))) b15 = some ii := by rw [aP n1519,aP n158]; exact u15
  have w19 : ((E2.set b8 (jD ts2 d)).set b19 (jV ((g.L.length + 1 : Nat) : Int) dg (fE ms) (fY ns) (eu ob) (.sc (.slice none 0 0)))) b19 = some (jV ((g.L.length + 1 : Nat) : Int) dg (fE ms) (fY ns) (eu ob) (.sc (.slice none 0 0))) := set_get
  generalize (E2.set b8 _).set b19 _ = E3 at hs3 w8 w14 w15 w19 ⊢
  clear hs2 u8 u14 u15 u19 hpu hsi hdl
  have ex2 : ∀ y z : AObj,Abs.Sub H ((E3.set b14 y).set b15 z) := fun y z => (hs3.set_free f14).set_free f15
  first | refine CallK.p (hpp) ?_ | refine CallP.i (hpp) ?_
  simp (disch := omega) only [↓aI,↓zP,aD,zD,aS,simprocAttr,Tryz.facts,zA,w8,w14,w15,w19,aP,n814,n148,n815,n158,n1415,n1514,n819,n198,n1419,n1914,n1519,n1915,ah]
  by_cases hp : gV ms ns = true
  rotate_left
  · have hp' : gV ms ns = false := by simpa using hp
    rw [hp',Bool.false_and,if_pos rfl] at hR
    subst hR
    rw [iu,hp']
    try simp (disch := omega) only [↓aI,↓zP,aD,zD,aS,simprocAttr,Tryz.facts,zA,w8,w14,w15,aP,n814,n148,n815,n158,n1415,n1514,n819,n198,n1419,n1914,n1519,n1915,ah]
    exact ex2 _ _
  rw [hp,Bool.true_and] at hR
  rw [hp]
  try simp (disch := omega) only [↓aI,↓zP,aD,zD,aS,simprocAttr,Tryz.facts,zA,w8,w14,w15,aP,n814,n148,n815,n158,n1415,n1514,n819,n198,n1419,n1914,n1519,n1915,ah]
  first | refine CallK.p (hfo) ?_ | refine CallP.i (hfo) ?_
  simp (disch := omega) only [↓aI,↓zP,aD,zD,aS,simprocAttr,Tryz.facts,zA,w8,w14,w15,w19,aP,n814,n148,n815,n158,n1415,n1514,n819,n198,n1419,n1914,n1519,n1915,ah]
  by_cases hf : kM g ms ns = true
  rotate_left
  · have hf' : kM g ms ns = false := by simpa using hf
    rw [hf',if_pos rfl] at hR
    subst hR
    rw [iu,hf']
    try simp (disch := omega) only [↓aI,↓zP,aD,zD,aS,simprocAttr,Tryz.facts,zA,w8,w14,w15,aP,n814,n148,n815,n158,n1415,n1514,n819,n198,n1419,n1914,n1519,n1915,ah]
    exact ex2 _ _
  rw [hf,if_neg (by simp)] at hR
  rw [hf]
  try simp (disch := omega) only [↓aI,↓zP,aD,zD,aS,simprocAttr,Tryz.facts,zA,w8,w14,w15,w19,aP,n814,n148,n815,n158,n1415,n1514,n819,n198,n1419,n1914,n1519,n1915]
  have hmd := fun i (hi : i < ms.length) => iJ hi
  have hml : (ms.flatMap fL).length = ms.length * 3 := fF fU ms
  obtain ⟨q1,q2,p3,p4,p5,p6⟩ := gH hp
  have hel : ns.length ≤ 1000 := by omega
  have okE : ∀ acc : List (List UInt8),acc.length ≤ 5 → (∀ b ∈ acc,b.length = 48) → OkE ⟨((g.L.length + 1 : Nat) : Int),dg,ms,ns,ob,acc,[]⟩ := fun acc ha hb => ⟨by show dg.length ≤ 5000; omega,by show ms.length ≤ 100; omega,fun m hm => by have := p5 m hm; omega,hel,by show ob.length ≤ 5000; omega,by show acc.length ≤ 100; omega,fun b hb' => by have := hb b hb'; omega,by simp⟩
  have hcl := iz (okE [] (by simp) (by simp))
  have hco := fun acc ha hb => core_at (rcore_pure [] ⟨((g.L.length + 1 : Nat) : Int),dg,ms,ns,ob,acc,[]⟩ (by simp) (okE acc ha hb))
  have hwh := fun acc ha hb => rwhole_pure [] ⟨((g.L.length + 1 : Nat) : Int),dg,ms,ns,ob,acc,[]⟩ (by simp) (okE acc ha hb)
  have hwl := fun acc ha hb => iM (okE acc ha hb)
  simp only [List.nil_append] at hwh
  generalize hNN : ((g.L.length + 1 : Nat) : Int) = nn at hR okE hcl hco hwh hwl hs3 w8 w14 w15 w19 ⊢
  generalize hcc : gE ⟨nn,dg,ms,ns,ob,[],[]⟩ = CC at hcl hco
  clear okE hfo hpp hme hLc hDc
  refine tok_c b19 5 w19 rfl fun kt hkt0 hkt => ?_
  have fkt := hs3.free hkt
  have mt19 := bA w19 hkt
  have mt8 := bA w8 hkt
  have mt14 := bA w14 hkt
  have mt15 := bA w15 hkt
  obtain ⟨RB,hRB⟩ : ∃ RB,iE ⟨nn,dg,ms,ns,ob,[],[]⟩ once key ts2 ms [] = RB := ⟨_,rfl⟩
  rw [hRB] at hR
  refine br (c := ⟨Tryz.prog,146,[(16,[0,0,0,0,0,0,0,0,0,0,0,0,0,0,0,0,0,0,0,2,2,0,0]),(19,[1,0,1,0,0,0,0,0,0,2,0]),(22,[1,0,1,0,0,0,0,0,2,0,2]),(23,[1,0,2,2,0]),(1000000,[7]),(4000023,[14,15,16]),(4000022,[8,14,15,19]),(4000021,[2,3,4,5,8,14,15,19,20]),(4000019,[2,3,4,5,8,14,15,19,20,21,24]),(4000018,[14,15,16]),(4000016,[2,3,4,5,8,14,15,19,20,21,22,23]),(4000012,[14,15,16]),(4000011,[2,3,4,5,8,14,15,19,86]),(4000010,[2,3,4,5,6,7,8,14,15,19]),(4000009,[2,3,4,5,6,7,8,14,15,19]),(4000008,[14,15,16]),(4000005,[14,15,16]),(4000004,[2,3,4,5,6,7,8,14,15,51]),(4000003,[2,3,4,5,6,7,8,14,15,17]),(4000002,[14,15,16]),(4000001,[2,3,4,5,6,7,8,14,15,37]),(4000000,[2,3,4,5,6,7,8,14,15])],[],[(16,(.op 1 0 (.op 3 0 (.op 4 0 (.op 5 0 (.op 6 0 (.op 7 0 (.op 8 0 (.op 9 0 (.op 10 0 (.op 11 0 (.op 12 0 (.op 13 0 (.op 0 4 (.op 2 4 (.op 14 0 (.op 15 0 (.op 16 0 (.op 17 0 (.op 18 0 (.op 19 3 (.op 20 2 (.op 21 0 (.op 22 0 .nil)))))))))))))))))))))))),(23,(.op 0 4 (.or (.op 1 3 (.op 2 2 (.op 3 2 (.op 4 0 .nil)))) (.op 2 2 (.op 1 3 (.op 3 2 (.op 4 0 .nil)))))))]⟩) Tryz.mixed (by kernel_rfl) (fun mm σ E => ∃ (i kt : Nat) (o : AObj) (t : List Term) (acc : List (List UInt8)),i + mm = ms.length ∧ acc.length = i ∧ (∀ b ∈ acc,b.length = 48) ∧ GT (N + 2 + 3 * i) t ∧ Abs.Sub H E ∧ E b8 = some (jD t d) ∧ E b14 = some v0Obj ∧ E b15 = some ii ∧ E b19 = some (jV nn dg (fE ms) (fY ns) (eu ob) (.imm kt (acc.map eu) acc.length)) ∧
    E kt = some o ∧ kt ≠ 0 ∧ H kt = none ∧ cy 22 1 o acc.length ∧ iE ⟨nn,dg,ms,ns,ob,[],[]⟩ once key t (ms.drop i) acc = RB ∧
    σ 2 = eu secret ∧ σ 3 = eu once ∧ σ 4 = eu key ∧ σ 5 = fE ms ∧ σ 8 = .ptr b8 0 ∧ σ 14 = .ptr b14 0 ∧ σ 15 = .ptr b15 0 ∧ σ 19 = .ptr b19 0 ∧ σ 20 = .sc (.int .i64 (i : Nat))) ms.length ?_ ?_
  · refine ⟨0,kt,.nilt,ts2,[],by omega,rfl,by simp,g2,((hs3.set_free fkt).set_free f19),?_,?_,?_,set_get,?_,hkt0,fkt,.inr ⟨rfl,rfl⟩,hRB,?_⟩
    · rw [aP n819,aP mt8]; exact w8
    · rw [aP n1419,aP mt14]; exact w14
    · rw [aP n1519,aP mt15]; exact w15
    · rw [aP (fun e => mt19 e.symm),set_get]
    · simp (disch := omega) only [↓aI,↓zP,aD,zD,aS,simprocAttr,Tryz.facts,zA]
  · clear w8 w14 w15 w19 mt8 mt14 mt15 mt19 fkt hkt hkt0 kt hs3 ex2
    rintro mm σ E ⟨i,kt,o,t,acc,him,hac,hab,gD,hs,v8,v14,v15,v19,tk,hk0,hHk,ho,hrb,s2,s3,s4,s5,s8,s14,s15,s19,s20⟩
    by_cases hlt : i < ms.length
    · have hd : ms.drop i = ms[i] :: ms.drop (i + 1) := List.drop_eq_getElem_cons hlt
      have hl := hmd i hlt
      have hc3 : i * 3 + 3 ≤ ms.length * 3 := by omega
      have hm5 := p5 _ (List.getElem_mem hlt)
      have hg0 : (ms.flatMap fL)[i * 3]? = some (.sc (.int .i64 (ms[i]).id)) := gu fU (j := 0) hlt (by decide)
      have hg1 : (ms.flatMap fL)[i * 3 + 1]? = some (eu (ms[i]).pub) := gu fU (j := 1) hlt (by decide)
      have hb1 := rbky_pure nn (ms[i]).id once (ms[i]).pub (by omega) gD d
      have hb2 := jl gD (n := nn) (id := (ms[i]).id) (s := once) (p := (ms[i]).pub)
      rw [hd] at hrb
      unfold iE at hrb
      simp only [] at hrb
      generalize gR t nn (ms[i]).id once (ms[i]).pub = BK at hb1 hb2 hrb
      generalize ms[i] = mb at hl hm5 hb1 hg0 hg1
      obtain ⟨mi,mp,mg⟩ := mb
      obtain ⟨t1,bk,be⟩ := BK
      simp only [] at hb1 hb2 hrb hl hg0 hg1
      obtain ⟨gB,pB,lB,eB⟩ := hb2
      simp (disch := omega) only [↓aI,↓zP,aD,zD,aS,simprocAttr,Tryz.facts,zA,s2,s3,s4,s5,s8,s14,s15,s19,s20,hml,hl,hc3]
      refine jk ?_
      simp (disch := omega) only [↓aI,↓zP,aD,zD,aS,simprocAttr,Tryz.facts,zA,s2,s3,s4,s5,s8,s14,s15,s19,s20,hml,hg0,hg1,hc3,v8,v19]
      first | refine CallK.p (hb1) ?_ | refine CallP.i (hb1) ?_
      simp (disch := omega) only [↓aI,↓zP,aD,zD,aS,simprocAttr,Tryz.facts,zA,s2,s3,s4,s5,s8,s14,s15,s19,s20,hml,hg0,hg1,hc3,v8,v19]
      intro b21 hb210 hb21
      have x8 := bA v8 hb21
      have x14 := bA v14 hb21
      have x15 := bA v15 hb21
      have x19 := bA v19 hb21
      have xk := bA tk hb21
      have f21 := hs.free hb21
      have x8' : ¬ b21 = b8 := fun e => x8 e.symm
      have x14' : ¬ b21 = b14 := fun e => x14 e.symm
      have x15' : ¬ b21 = b15 := fun e => x15 e.symm
      have x19' : ¬ b21 = b19 := fun e => x19 e.symm
      have xk' : ¬ b21 = kt := fun e => xk e.symm
      generalize hbz : (be != 0) = bz
      try simp (disch := omega) only [↓aI,↓zP,aD,zD,aS,simprocAttr,Tryz.facts,hbz,zA,s2,s3,s4,s5,s8,s14,s15,s19,s20,ah,ey]
      refine condT.both (fun hb => ?_) (fun hb => ?_)
      · have hz : ¬ be = 0 := by rw [hb] at hbz; simpa using hbz
        rw [if_pos hz] at hrb
        subst hrb
        rw [if_pos hz] at hR
        subst hR
        rw [iu]
        simp (disch := omega) only [↓aI,↓zP,aD,zD,aS,simprocAttr,Tryz.facts,zA,s2,s3,s4,s5,s8,s14,s15,s19,s20,v8,v14,v15,v19,aP,n814,n148,n815,n158,n1415,n1514,n819,n198,n1419,n1914,n1519,n1915,x8,x8',x14,x14',x15,x15',x19,x19',xk,xk',ah]
        exact ((hs.set_free f21).set_free f14).set_free f15
      · have hz : be = 0 := by rw [hb] at hbz; simpa using hbz
        rw [if_neg (by simp [hz])] at hrb
        have lk := lB hz
        have hs1 := vseal_pure t1 d bk 1 CC key (by omega) (wf4 (a := bk) (b := fh 8 1) (c := CC) (e := key) (k := 98) (by omega) (by rw [fe]; omega) (by omega) (by omega)).1 gB.ok (by have := gB.len; omega)
        rw [if_pos lk] at hs1
        have hbx : (fP t1 (il bk 1 CC key)).length = 48 := by rw [gW]; show key.length + 16 = 48; omega
        have g3 := gB.num (wf4 (a := bk) (b := fh 8 1) (c := CC) (e := key) (k := 98) (by omega) (by rw [fe]; omega) (by omega) (by omega)) fun e => absurd (show (98 : UInt8) = 112 from e) (by decide)
        rw [hcc] at hrb
        rw [show fW ⟨98,[bk,fh 8 1,CC,key]⟩ (fC t1 ⟨98,[bk,fh 8 1,CC,key]⟩).2 = fP t1 (il bk 1 CC key) from rfl] at hs1
        generalize fP t1 (il bk 1 CC key) = bx at hs1 hbx hrb
        rw [show (⟨98,[bk,fh 8 1,CC,key]⟩ : Term) = il bk 1 CC key from rfl] at hs1 g3
        generalize (fC t1 (il bk 1 CC key)).1 = t3 at hs1 g3 hrb
        have hco1 := hco acc (by omega) hab
        have nk19 : ¬ b19 = kt := by
          rintro rfl
          rw [v19] at tk
          cases tk
          rcases ho.cases3 with h | ⟨_,h⟩ | ⟨_,_,h⟩ <;> cases h
        have nk8 : ¬ b8 = kt := by
          rintro rfl
          rw [v8] at tk
          cases tk
          rcases ho.cases3 with h | ⟨_,h⟩ | ⟨_,_,h⟩ <;> cases h
        have nk14 : ¬ b14 = kt := by
          rintro rfl
          rw [v14] at tk
          cases tk
          rcases ho.cases3 with h | ⟨_,h⟩ | ⟨_,_,h⟩ <;> cases h
        have nk15 : ¬ b15 = kt := by
          rintro rfl
          rw [v15] at tk
          cases tk
          rcases ho.cases3 with h | ⟨_,h⟩ | ⟨_,_,h⟩ <;> cases h
        have nk8' : ¬ kt = b8 := fun e => nk8 e.symm
        have hal : (acc.map eu).length = acc.length := List.length_map _
        simp (disch := omega) only [↓aI,↓zP,aD,zD,aS,simprocAttr,Tryz.facts,zA,s2,s3,s4,s5,s8,s14,s15,s19,s20,v8,v14,v15,v19,aP,n814,n148,n815,n158,n1415,n1514,n819,n198,n1419,n1914,n1519,n1915,x8,x8',x14,x14',x15,x15',x19,x19',xk,xk',ah]
        first | refine CallK.p (hco1) ?_ | refine CallP.i (hco1) ?_
        simp (disch := omega) only [↓aI,↓zP,aD,zD,aS,simprocAttr,Tryz.facts,zA,s2,s3,s4,s5,s8,s14,s15,s19,s20,v8,v14,v15,v19,aP,n814,n148,n815,n158,n1415,n1514,n819,n198,n1419,n1914,n1519,n1915,x8,x8',x14,x14',x15,x15',x19,x19',xk,xk',ah]
        first | refine CallK.p (hs1) ?_ | refine CallP.i (hs1) ?_
        simp (disch := omega) only [↓aI,↓zP,aD,zD,aS,simprocAttr,Tryz.facts,zA,s2,s3,s4,s5,s8,s14,s15,s19,s20,v8,v14,v15,v19,aP,n814,n148,n815,n158,n1415,n1514,n819,n198,n1419,n1914,n1519,n1915,x8,x8',x14,x14',x15,x15',x19,x19',xk,xk',ah,ey,tk,ho,hal,nk8']
        intro k3 o3 hk30 hk3 ho3
        have fk3 := am (am hk3)
        have y8 := bA v8 fk3
        have y14 := bA v14 fk3
        have y15 := bA v15 fk3
        have y19 := bA v19 fk3
        have y19' : ¬ k3 = b19 := fun e => y19 e.symm
        have fk3' := hs.free fk3
        try simp (disch := omega) only [↓aI,↓zP,aD,zD,aS,simprocAttr,Tryz.facts,zA,s2,s3,s4,s5,s8,s14,s15,s19,s20,v8,v14,v15,v19,aP,n814,n148,n815,n158,n1415,n1514,n819,n198,n1419,n1914,n1519,n1915,x8,x8',x14,x14',x15,x15',x19,x19',xk,xk',ah,ey,y19,bZ,nk19]
        have hab' : ∀ b ∈ acc ++ [bx],b.length = 48 := fun b hb => by
          rcases List.mem_append.1 hb with hb | hb
          · exact hab b hb
          · rw [List.mem_singleton.1 hb]; exact hbx
        refine ⟨mm - 1,by omega,i + 1,k3,o3,t3,acc ++ [bx],by omega,by simp [hac],hab',g3.mono (by omega),((((hs.set_free f21).set_free f8).kill_free hHk).set_free fk3').set_free f19,rfl,?_⟩
        exact ⟨by simp,by rw [aP y19',set_get],hk30,fk3',by simpa using ho3,hrb,rfl⟩
    · obtain rfl : i = ms.length := by omega
      rw [List.drop_length] at hrb
      unfold iE at hrb
      subst hrb
      rw [if_neg (by simp)] at hR
      subst hR
      have hwh1 := hwh acc (by omega) hab
      have hwl1 := hwl acc (by omega) hab
      have hsg := vsign_pure t d secret (fV ⟨nn,dg,ms,ns,ob,acc,[]⟩) (wf2 (k := 103) (a := secret) (b := fV ⟨nn,dg,ms,ns,ob,acc,[]⟩) (by decide) (by omega) (by omega)).1 gD.ok (by have := gD.len; omega)
      rw [if_pos h1] at hsg
      rw [show fW ⟨103,[secret,fV ⟨nn,dg,ms,ns,ob,acc,[]⟩]⟩ (fC t ⟨103,[secret,fV ⟨nn,dg,ms,ns,ob,acc,[]⟩]⟩).2 = fP t ⟨103,[secret,fV ⟨nn,dg,ms,ns,ob,acc,[]⟩]⟩ from rfl] at hsg
      unfold sgnM
      generalize fP t ⟨103,[secret,fV ⟨nn,dg,ms,ns,ob,acc,[]⟩]⟩ = sg at hsg ⊢
      generalize (fC t ⟨103,[secret,fV ⟨nn,dg,ms,ns,ob,acc,[]⟩]⟩).1 = t5 at hsg ⊢
      generalize fV ⟨nn,dg,ms,ns,ob,acc,[]⟩ = W at hsg hwh1 hwl1 ⊢
      simp (disch := omega) only [↓aI,↓zP,aD,zD,aS,simprocAttr,Tryz.facts,zA,s2,s3,s4,s5,s8,s14,s15,s19,s20,v8,v14,v15,v19,aP,n814,n148,n815,n158,n1415,n1514,n819,n198,n1419,n1914,n1519,n1915]
      first | refine CallK.p (hwh1) ?_ | refine CallP.i (hwh1) ?_
      simp (disch := omega) only [↓aI,↓zP,aD,zD,aS,simprocAttr,Tryz.facts,zA,s2,s3,s4,s5,s8,s14,s15,s19,s20,v8,v14,v15,v19,aP,n814,n148,n815,n158,n1415,n1514,n819,n198,n1419,n1914,n1519,n1915]
      first | refine CallK.p (hsg) ?_ | refine CallP.i (hsg) ?_
      simp (disch := omega) only [↓aI,↓zP,aD,zD,aS,simprocAttr,Tryz.facts,zA,s2,s3,s4,s5,s8,s14,s15,s19,s20,v8,v14,v15,v19,aP,n814,n148,n815,n158,n1415,n1514,n819,n198,n1419,n1914,n1519,n1915,ah]
      have hF : ∃ F,F = (((E.set b8 (jD t5 d)).set b19 (.cells [.sc (.int .i64 nn),eu dg,fE ms,fY ns,eu ob,.imm kt (acc.map eu) acc.length,eu sg] 27 7)).set b14 (jD t5 d)).set b15 (.cells [.sc (.int .i64 nn),eu dg,fE ms,fY ns,eu ob,.imm kt (acc.map eu) acc.length,eu sg] 27 7) := ⟨_,rfl⟩
      obtain ⟨F0,hF⟩ := hF
      refine eI (fun σ F => F = F0 ∧ σ 14 = .ptr b14 0 ∧ σ 15 = .ptr b15 0 ∧ σ 16 = .sc (.int .i64 0)) ?_ ?_
      · simp (disch := omega) only [↓aI,↓zP,aD,zD,aS,simprocAttr,Tryz.facts,zA,s2,s3,s4,s5,s8,s14,s15,s19,s20,v8,v14,v15,v19,aP,n814,n148,n815,n158,n1415,n1514,n819,n198,n1419,n1914,n1519,n1915,ah]
        refine And.intro ?_ ?_
        · try simp (disch := omega) only [↓aI,↓zP,aD,zD,aS,simprocAttr,Tryz.facts,zA,s2,s3,s4,s5,s8,s14,s15,s19,s20,v8,v14,v15,v19,aP,n814,n148,n815,n158,n1415,n1514,n819,n198,n1419,n1914,n1519,n1915,ah]
          exact hF.symm
        · try simp (disch := omega) only [↓aI,↓zP,aD,zD,aS,simprocAttr,Tryz.facts,zA,s2,s3,s4,s5,s8,s14,s15,s19,s20,v8,v14,v15,v19,aP,n814,n148,n815,n158,n1415,n1514,n819,n198,n1419,n1914,n1519,n1915,ah]
          exact hF.symm
      · rintro σ F ⟨rfl,s14,s15,s16⟩
        have z14 : F b14 = some (jD t5 d) := by rw [hF,aP n1415,set_get]
        have z15 : F b15 = some (.cells [.sc (.int .i64 nn),eu dg,fE ms,fY ns,eu ob,.imm kt (acc.map eu) acc.length,eu sg] 27 7) := by rw [hF,set_get]
        have hsF : Abs.Sub H F := by rw [hF]; exact (((hs.set_free f8).set_free f19).set_free f14).set_free f15
        simp (disch := omega) only [↓aI,↓zP,aD,zD,aS,simprocAttr,Tryz.facts,zA,s14,s15,s16,z14,z15]
        exact ⟨rfl,hsF⟩
end Go.Proofs.YtjlnpngaiphnmaaGreat
