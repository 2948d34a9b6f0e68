/-
  Letters: the letter that the document fixes.
  Conditions: none. Lemmas only.
-/
import Derived.Test.YtaehlpkinbpmbaaLetG6
set_option linter.all false
set_option linter.unusedSimpArgs false
set_option linter.unusedVariables false
set_option maxRecDepth 20000
set_option maxHeartbeats 8000000
namespace Go.Proofs.Ytaehlpkinbpmbaa
open Go Go.Abs Go.Proofs
abbrev awkL : Ltr := ⟨3,0,1,1,[],[],[]⟩
theorem lawake_pure : APure Try.prog 14 [] (.sc (.bool true)) := by
  have hnm : namedL awkL = true := by decide
  have hpd : (padL []).2 = 0 := by decide
  have hpl : (padL []).1.length = 64 := by decide
  have hbx := pad_bx hpd
  refine az (c := ⟨Try.prog,44,[(6,[0,0,0,0,2,0,2,0,0,0,2,2,0]),(1000005,[3]),(1000006,[5])],[],[(6,(.op 0 0 (.op 1 0 (.op 2 0 (.op 3 0 (.op 5 0 (.or (.op 4 2 (.or (.op 6 2 (.op 7 0 (.op 8 0 (.op 9 0 (.op 10 2 (.op 11 2 (.op 12 0 .nil))))))) (.op 10 2 (.op 6 2 (.op 7 0 (.op 8 0 (.op 9 0 (.op 11 2 (.op 12 0 .nil))))))))) (.op 10 2 (.op 4 2 (.op 6 2 (.op 7 0 (.op 8 0 (.op 9 0 (.op 11 2 (.op 12 0 .nil)))))))))))))))]⟩) (rs := [ResultVar.tmp 0]) Try.mixed Try.func14 rfl rfl rfl (Nat.le_of_ble_eq_true rfl) (by kernel_rfl) fun H => ?_
  simp (disch := omega) only [↓aI,↓zP,aD,zD,aS,simprocAttr,Try.facts,zA]
  refine CallK.i (new_ss H) ?_
  rintro v H1 ⟨h,m,rfl,s1⟩
  simp (disch := omega) only [↓aI,↓zP,aD,zD,aS,simprocAttr,Try.facts,zA]
  refine CallK.i (draw_ans (N := 0) (by omega) (by omega) GT.nil s1) ?_
  rintro v H2 ⟨x,t1,rfl,s2,n1,p1,g1⟩
  simp (disch := omega) only [↓aI,↓zP,aD,zD,aS,simprocAttr,Try.facts,zA]
  refine CallK.i (draw_ans (by omega) (by omega) g1 s2) ?_
  rintro v H3 ⟨y,t2,rfl,s3,n2,p2,g2⟩
  have lx : x.length = 32 := n1.len
  have ly : y.length = 32 := n2.len
  simp (disch := omega) only [↓aI,↓zP,aD,zD,aS,simprocAttr,Try.facts,zA]
  refine CallK.i (make_good x y awkL [] (by simp) s3 g2 (by omega) lx ly hnm hpd) ?_
  rintro v H4 ⟨rfl,s4⟩
  have F := made_spec (l := awkL) (p := (padL []).1) g2 lx ly (by omega) (by simp)
  rw [hpl] at hbx
  have lb := F.lb
  rw [hpl] at lb
  generalize madeL t2 x y awkL (padL []).1 = M at *
  have hkk : ltrC (boxed awkL M.box M.sig) = [.sc (.int .i64 3),.sc (.int .i64 0),.sc (.int .i64 1),.sc (.int .i64 1),bytesV [],bytesV M.box,bytesV M.sig] := rfl
  rw [hkk]
  simp (disch := omega) only [↓aI,↓zP,aD,zD,aS,simprocAttr,Try.facts,zA]
  intro k3 hk30 hk3
  try simp (disch := omega) only [↓aI,↓zP,aD,zD,aS,simprocAttr,Try.facts,zA,aj hk3,ah]
  refine eI (fun σ F2 => ∃ (b : Nat) (cs : List AV),σ 5 = .ptr b 0 ∧ F2 b = some (.cells cs 38 5) ∧ H b = none ∧ Abs.Sub H F2 ∧ σ 3 = .ip [.sc (.int .i64 3),.sc (.int .i64 0),.sc (.int .i64 1),.sc (.int .i64 1),bytesV [],bytesV M.box,bytesV M.sig] 0 ∧ σ 4 = .sc (.int .i64 0) ∧ σ 6 = .sc (.int .i64 0)) ?_ ?_
  · have okl : okL (boxed awkL M.box M.sig) := ⟨by simp,by show M.box.length ≤ _; omega,by show M.sig.length ≤ _; rw [F.ls]; omega⟩
    have hch := fun (G E : AH) (t5 : List Term) (sgn : List UInt8) (hl : sgn.length ≤ 100000000) (g5 : GT (0 + 1 + 1 + 4 + 1) t5) (p5 : M.ts4 <+: t5) (k5 : Nm t5 ⟨118,[x]⟩ sgn) (s5 : SS G E h m (0 + 1 + 1) t5) => (check_live sgn (boxed awkL M.box M.sig) okl hl s5 g5 (by omega))
    have hcm := fun (t5 : List Term) (sgn : List UInt8) (g5 : GT (0 + 1 + 1 + 4 + 1) t5) (p5 : M.ts4 <+: t5) (k5 : Nm t5 ⟨118,[x]⟩ sgn) => check_made F p5 g5 (by omega) k5 hnm (by rw [hpl]; exact hbx)
    simp (disch := omega) only [↓aI,↓zP,aD,zD,aS,simprocAttr,Try.facts,zA]
    have hlk : lnkC ⟨awkL.author,awkL.number,awkL.epoch,awkL.prev,M.hash⟩ = [.sc (.int .i64 0),.sc (.int .i64 1),.sc (.int .i64 1),bytesV [],bytesV M.hash] := rfl
    have hsg := fun (G E : AH) (s : SS G E h m (0 + 1 + 1) M.ts4) => signer_ans x lx (by omega) F.g s
    refine ⟨?_,?_⟩
    · refine CallK.i (hsg _ _ s4) ?_
      rintro v E ⟨sgn,t5,rfl,q5,n5,p5,g5⟩
      have lsg : sgn.length = 32 := n5.len
      have hC := fun G E s => hch G E t5 sgn (by omega) g5 p5 n5 s
      rw [hcm t5 sgn g5 p5 n5,hkk,hlk] at hC
      try simp (disch := omega) only [↓aI,↓zP,aD,zD,aS,simprocAttr,Try.facts,zA]
      refine ⟨?_,?_⟩
      · try simp (disch := omega) only [↓aI,↓zP,aD,zD,aS,simprocAttr,Try.facts,zA]
        refine CallK.i (hC _ _ q5) ?_
        rintro v E2 ⟨rfl,q6⟩
        try simp (disch := omega) only [↓aI,↓zP,aD,zD,aS,simprocAttr,Try.facts,zA]
        intro b hb0 hb
        try simp (disch := omega) only [↓aI,↓zP,aD,zD,aS,simprocAttr,Try.facts,zA,ah]
        exact ⟨b,_,rfl,set_get,q6.sub.free hb,q6.sub.set_free (q6.sub.free hb)⟩
      · try simp (disch := omega) only [↓aI,↓zP,aD,zD,aS,simprocAttr,Try.facts,zA]
        intro b hb0 hb
        have q5b := q5.box (o := .cells [.sc (.int .i64 0),.sc (.int .i64 0),.sc (.int .i64 0),.sc (.slice none 0 0),.sc (.slice none 0 0)] 38 5) hb
        try simp (disch := omega) only [↓aI,↓zP,aD,zD,aS,simprocAttr,Try.facts,zA]
        refine CallK.i (hC _ _ q5b) ?_
        rintro v E2 ⟨rfl,q6⟩
        have vb := q6.sub _ _ (set_get (H := H))
        simp (disch := omega) only [↓aI,↓zP,aD,zD,aS,simprocAttr,Try.facts,zA,vb,ah]
        exact ⟨b,_,rfl,set_get,q5.sub.free hb,((Sub.set_new (q5.sub.free hb)).trans q6.sub).set_free (q5.sub.free hb)⟩
    · intro b hb0 hb
      have s4b := s4.box (o := .cells [.sc (.int .i64 0),.sc (.int .i64 0),.sc (.int .i64 0),.sc (.slice none 0 0),.sc (.slice none 0 0)] 38 5) hb
      try simp (disch := omega) only [↓aI,↓zP,aD,zD,aS,simprocAttr,Try.facts,zA]
      refine CallK.i (hsg _ _ s4b) ?_
      rintro v E ⟨sgn,t5,rfl,q5,n5,p5,g5⟩
      have lsg : sgn.length = 32 := n5.len
      have hC := fun G E s => hch G E t5 sgn (by omega) g5 p5 n5 s
      rw [hcm t5 sgn g5 p5 n5,hkk,hlk] at hC
      try simp (disch := omega) only [↓aI,↓zP,aD,zD,aS,simprocAttr,Try.facts,zA]
      refine CallK.i (hC _ _ q5) ?_
      rintro v E2 ⟨rfl,q6⟩
      have vb := q6.sub _ _ (set_get (H := H))
      simp (disch := omega) only [↓aI,↓zP,aD,zD,aS,simprocAttr,Try.facts,zA,vb,ah]
      exact ⟨b,_,rfl,set_get,s4.sub.free hb,((Sub.set_new (s4.sub.free hb)).trans q6.sub).set_free (s4.sub.free hb)⟩
  · rintro σ F2 ⟨b,cs,s5',vb,hb,hs,s3',s4',s6'⟩
    have eb : ((M.box.length : Int) == 80) = true := by simp [lb]
    simp (disch := omega) only [↓aI,↓zP,aD,zD,aS,simprocAttr,Try.facts,s3',s4',s5',vb,s6',zA,eb]
    exact hs.kill_free hb
end Go.Proofs.Ytaehlpkinbpmbaa
