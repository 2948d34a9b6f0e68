/-
  What the listed variables hold, out of the row's list.
  Conditions: none. Lemmas only.
-/
import Derived.Test.YtejncnmdjkhiaaaDoorRows
import Derived.Test.YtejncnmdjkhiaaaDoorFugTys
import Derived.Test.YtejncnmdjkhiaaaDoorAbsG6
import Derived.Lib.LaidTab
set_option linter.all false
set_option linter.unusedSimpArgs false
set_option linter.unusedVariables false
set_option maxRecDepth 20000
namespace Go.Proofs.YtejncnmdjkhiaaaDoor
open Go Go.Abs Go.Proofs
theorem laidVars_cell {P : Program} {w : World} {n : String} {cs : Array Value} {g : Nat} (hg : P.globalNamed n = some g) (h : w.var? P n = some cs) (i : Nat) : w.cell? ⟨g,i,none⟩ = cs[i]? := World.var?_cell hg h i
theorem small_cells {W : World} {fuel : Nat} {cs : List Value} {p : List MemPlace} (h : DataW.trod (H := Unit) (fun _ => ()) Tryd.prog W 0 (fun _ => true) false fuel 71 cs = some (Rows.laid_sealwax_sha_small, p)) :
    cs = [.int .i64 32,.int .i64 64,.int .i64 2,.int .i64 13,.int .i64 22,.int .i64 6,.int .i64 11,.int .i64 25,.int .i64 7,.int .i64 18,.int .i64 3,.int .i64 17,.int .i64 19,.int .i64 10] := by
  have c3 : Tryd.prog.cellsOf 3 = 1 := by kernel_rfl
  have c53 : Tryd.prog.cellsOf 53 = 3 := by kernel_rfl
  have c71 : Tryd.prog.cellsOf 71 = 14 := by kernel_rfl
  cases fuel with
  | zero => simp [DataW.trod] at h
  | succ fuel =>
    simp only [DataW.trod,Tryd.underlying71,c71] at h
    split at h
    · rename_i hl
      obtain ⟨xs,hm,hx⟩ := Option.map_eq_some_iff.1 h
      simp only [List.mapM_cons,List.mapM_nil,Option.bind_eq_bind,Option.bind_eq_some_iff,Option.pure_def,Option.some.injEq,c3,c53] at hm
      obtain ⟨a0,e0,l1,⟨a1,e1,l2,⟨a2,e2,l3,⟨a3,e3,l4,⟨a4,e4,l5,⟨a5,e5,l6,rfl,rfl⟩,rfl⟩,rfl⟩,rfl⟩,rfl⟩,rfl⟩ := hm
      simp only [Rows.laid_sealwax_sha_small,List.map_cons,List.map_nil,Prod.mk.injEq,DataW.agg.injEq,List.cons.injEq] at hx
      obtain ⟨⟨x0,x1,x2,x3,x4,x5,-⟩,-⟩ := hx
      obtain ⟨z0,f0,rfl,-⟩ := DataW.trod_int Tryd.underlying3 e0
      obtain ⟨z1,f1,rfl,-⟩ := DataW.trod_int Tryd.underlying3 e1
      simp only [DataW.lit.injEq,Lit.int.injEq,true_and] at x0 x1
      subst x0 x1
      obtain ⟨b2,q2⟩ := a2
      obtain ⟨b3,q3⟩ := a3
      obtain ⟨b4,q4⟩ := a4
      obtain ⟨b5,q5⟩ := a5
      simp only at x2 x3 x4 x5
      subst x2 x3 x4 x5
      have f2 := Lib.cells_of_tab (k := .i64) (zs := [2,13,22]) Tryd.underlying53 Tryd.underlying3 c3 c53 e2
      have f3 := Lib.cells_of_tab (k := .i64) (zs := [6,11,25]) Tryd.underlying53 Tryd.underlying3 c3 c53 e3
      have f4 := Lib.cells_of_tab (k := .i64) (zs := [7,18,3]) Tryd.underlying53 Tryd.underlying3 c3 c53 e4
      have f5 := Lib.cells_of_tab (k := .i64) (zs := [17,19,10]) Tryd.underlying53 Tryd.underlying3 c3 c53 e5
      match cs,hl with
      | [y0,y1,y2,y3,y4,y5,y6,y7,y8,y9,y10,y11,y12,y13],_ =>
        simp at f0 f1 f2 f3 f4 f5
        simp [f0,f1,f2,f3,f4,f5]
    · cases h
theorem glob_of {W : World} (h : laidMet Tryd.prog [("sealwax/sha.small",Rows.laid_sealwax_sha_small),("sealwax/sha.k256",Rows.laid_sealwax_sha_k256)] W) : GlobW W := by
  have n0 : Tryd.prog.globalNamed "sealwax/sha.small" = some 0 := by kernel_rfl
  have n1 : Tryd.prog.globalNamed "sealwax/sha.k256" = some 1 := by kernel_rfl
  have t0 : (Tryd.prog.globals[0]?).map (·.type) = some 71 := by kernel_rfl
  have t1 : (Tryd.prog.globals[1]?).map (·.type) = some 84 := by kernel_rfl
  have c64 : Tryd.prog.cellsOf 64 = 1 := by kernel_rfl
  have c84 : Tryd.prog.cellsOf 84 = 64 := by kernel_rfl
  obtain ⟨ps,⟨g,t,cs,fuel,p,q,hg,ht,hvar,hd,⟨g',t',cs',fuel',p',q',hg',ht',hvar',hd',_,_⟩,_⟩,_⟩ := h
  obtain rfl := Option.some.inj (n0.symm.trans hg)
  obtain rfl := Option.some.inj (n1.symm.trans hg')
  obtain rfl := Option.some.inj (t0.symm.trans ht)
  obtain rfl := Option.some.inj (t1.symm.trans ht')
  have s0 := small_cells hd
  have s1 := Lib.cells_of_tab (k := .u32) (zs := [1116352408,1899447441,3049323471,3921009573,961987163,1508970993,2453635748,2870763221,3624381080,310598401,607225278,1426881987,1925078388,2162078206,2614888103,3248222580,3835390401,4022224774,264347078,604807628,770255983,1249150122,1555081692,1996064986,2554220882,2821834349,2952996808,3210313671,3336571891,3584528711,113926993,338241895,666307205,773529912,1294757372,1396182291,1695183700,1986661051,2177026350,2456956037,2730485921,2820302411,3259730800,3345764771,3516065817,3600352804,4094571909,275423344,430227734,506948616,659060556,883997877,958139571,1322822218,1537002063,1747873779,1955562222,2024104815,2227730452,2361852424,2428436474,2756734187,3204031479,3329325298]) Tryd.underlying84 Tryd.underlying64 c64 c84 hd'
  have v0 := laidVars_cell n0 hvar
  have v1 := laidVars_cell n1 hvar'
  intro x l hx j hj
  match x,hx with
  | 0,hx =>
    obtain rfl := Option.some.inj hx
    refine ⟨?_,?_⟩
    · rw [v0 j,← Array.getElem?_toList,s0]
      exact List.getElem?_eq_getElem hj
    · match j,hj with
      | 0,_ | 1,_ | 2,_ | 3,_ | 4,_ | 5,_ | 6,_ | 7,_ | 8,_ | 9,_ | 10,_ | 11,_ | 12,_ | 13,_ => rfl
  | 1,hx =>
    obtain rfl := Option.some.inj hx
    refine ⟨?_,?_⟩
    · rw [v1 j,← Array.getElem?_toList,s1]
      exact List.getElem?_eq_getElem hj
    · have hall : ∀ v ∈ (([1116352408, 1899447441, 3049323471, 3921009573, 961987163, 1508970993, 2453635748, 2870763221, 3624381080, 310598401, 607225278, 1426881987, 1925078388, 2162078206, 2614888103, 3248222580, 3835390401, 4022224774, 264347078, 604807628, 770255983, 1249150122, 1555081692, 1996064986, 2554220882, 2821834349, 2952996808, 3210313671, 3336571891, 3584528711, 113926993, 338241895, 666307205, 773529912, 1294757372, 1396182291, 1695183700, 1986661051, 2177026350, 2456956037, 2730485921, 2820302411, 3259730800, 3345764771, 3516065817, 3600352804, 4094571909, 275423344, 430227734, 506948616, 659060556, 883997877, 958139571, 1322822218, 1537002063, 1747873779, 1955562222, 2024104815, 2227730452, 2361852424, 2428436474, 2756734187, 3204031479, 3329325298] : List Int).map fun z => Value.int .u32 z : List Value), v.oneCell' = true := by
        intro v hv
        obtain ⟨z,-,rfl⟩ := List.mem_map.1 hv
        rfl
      exact hall _ (List.getElem_mem hj)
  | x + 2,hx => cases hx
end Go.Proofs.YtejncnmdjkhiaaaDoor
