/-
  Functions without a body: the comparison of bytes.
  Conditions: none. Lemmas only.
-/
import Derived.Test.YtjlnpngaiphnmaaGreatAbsG5
import Derived.Lib.BytesEntry
import Derived.Lib.Bytealg
import Derived.Laws.Externs
set_option linter.all false
namespace Go.Abs
open Go Go.RowKit
theorem run_bytesOf {P : Program} {C : Ctx} {l : List UInt8} {v : Value} (h : VR C (eu l) v) : (Extern.Bytes.bytesOf v).run P C.w = .ok ⟨l.toArray⟩ C.w := by
  obtain ⟨A,cap,rfl,hn,hm,hk,b,o,ha,us,hc,hv⟩ := h.imm_inv
  by_cases hl : l = []
  · subst hl
    cases A with
    | none => rfl
    | some a => rfl
  · rw [ha (by simpa [bw] using hl)]
    have hbo : Lib.bytesOf (l.map fun x => (x.toNat : Int)) = l := by simp [Lib.bytesOf,Function.comp_def]
    have := Lib.run_loadBytesX (P := P) (w := C.w) (l.map fun x => (x.toNat : Int)) ⟨b,o,none⟩ .empty fun j x hx => by
      obtain ⟨hj,rfl⟩ := List.getElem?_eq_some_iff.1 hx
      have hj : j < l.length := by simpa using hj
      have hj' : j < (bw l).length := by rw [gz]; exact hj
      have h1 := (hc j hj').1
      have h2 := hv j hj'
      have e : (bw l)[j] = .sc (.int .u8 l[j].toNat) := by simp [bw]
      rw [e] at h2
      rw [bT,h1,bQ h2,List.getElem_map]
    show (Extern.Bytes.loadBytes ⟨b,o,none⟩ l.length .empty).run P C.w = _
    rw [List.length_map,hbo] at this
    rw [this]
    congr 1
    simp
theorem ext_compare {P : Program} {f : FuncId} {fn : Func} (hf : P.funcs[f]? = some fn) (hname : (fn.name == "runtime.NumGoroutine") = false)
    (hb : fn.body.isNone = true) (hn : Extern.findNext fn = none) (he : Extern.find fn = some Extern.BytealgCompare.compare) (a b : List UInt8) : APure P f [eu a,eu b] (.sc (.int .i64 (Lib.compareBytes a b))) := by
  intro H n i c w vs g hx
  obtain ⟨hl,hv⟩ := hx
  match vs,hl with
  | [x,y],_ =>
  have hx := hv 0 (by simp)
  have hy := hv 1 (by simp)
  simp only [List.getElem_cons_zero,List.getElem_cons_succ,List.getD,List.getElem?_cons_zero,List.getElem?_cons_succ,Option.getD_some] at hx hy
  rw [run_callFunc_extern hf hname hb hn he]
  have h1 := run_bytesOf (P := P) hx
  have h2 := run_bytesOf (P := P) hy
  have : (Extern.BytealgCompare.compare #[x,y]).run P w = .ok (.int .i64 (Lib.compareBytes a b)) w := by
    change Sem.run P (do pure (goInt (Extern.BytealgCompare.cmp (← Extern.Bytes.bytesOf x) (← Extern.Bytes.bytesOf y)))) w = _
    simp only [Sem.run_bind,h1,h2,Result.andThen,Sem.run_pure]
    rw [Lib.cmp_eq]
    simp [goInt]
  rw [show ([x,y] : List Value).toArray = #[x,y] from rfl,this]
  exact ⟨.sc _,H,n,i,c,⟨rfl,rfl⟩,g,Ext.refl _,.sc _⟩
end Go.Abs
