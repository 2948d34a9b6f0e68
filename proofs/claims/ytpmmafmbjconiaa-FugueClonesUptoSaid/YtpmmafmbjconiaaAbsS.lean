/-
  An abstract logic over the model's walks, part S: rules by which a body is run.
  Conditions: none. Lemmas only.
-/
import Derived.Test.YtpmmafmbjconiaaAbsR
set_option linter.all false
namespace Go.Abs
open Go Go.RowKit

/-! ### what is looked at first -/
section congr
variable {P : Program} {K : AV → Prop} {L : AV → AH → Prop} {X Y Z : Prop} {a a' b b' c c' : AV} {H H' : AH} {l l' : List AV} {q q' : List (Nat × AV)}
@[congr] theorem binK_congr {op : BinOp} {t : TypeId} (h : a = a') (g : b = b') : binK P op t a b K = binK P op t a' b' K := by rw [h, g]
@[congr] theorem unK_congr {op : UnOp} (h : a = a') : unK op a K = unK op a' K := by rw [h]
@[congr] theorem convK_congr {s d : TypeId} (h : a = a') : convK P s d a K = convK P s d a' K := by rw [h]
@[congr] theorem extrK_congr {i : Nat} (h : a = a') : extrK a i K = extrK a' i K := by rw [h]
@[congr] theorem fieldK_congr {t : TypeId} {f : Nat} (h : a = a') : fieldK P t a f K = fieldK P t a' f K := by rw [h]
@[congr] theorem indexK_congr {t : TypeId} (h : a = a') (g : b = b') : indexK P t a b K = indexK P t a' b' K := by rw [h, g]
@[congr] theorem indexAddrK_congr {t : TypeId} (h : a = a') (g : b = b') : indexAddrK P t a b K = indexAddrK P t a' b' K := by rw [h, g]
@[congr] theorem fieldAddrK_congr {t : TypeId} {f : Nat} (h : a = a') : fieldAddrK P t a f K = fieldAddrK P t a' f K := by rw [h]
@[congr] theorem loadK_congr {t : TypeId} (h : a = a') : loadK P t a K = loadK P t a' K := by rw [h]
@[congr] theorem loadE_congr {t : TypeId} (h : a = a') : loadE P t a H K = loadE P t a' H K := by rw [h]
@[congr] theorem storeK_congr {t : TypeId} (h : a = a') (g : b = b') : storeK P t a b H L = storeK P t a' b' H L := by rw [h, g]
@[congr] theorem sliceK_congr {t : TypeId} {lo lo' hi hi' mx mx' : Option AV} (h : a = a') (g1 : lo = lo') (g2 : hi = hi') (g3 : mx = mx') : sliceK P t a lo hi mx K = sliceK P t a' lo' hi' mx' K := by rw [h, g1, g2, g3]
@[congr] theorem lenK_congr {t : TypeId} (h : a = a') : lenK P t a K = lenK P t a' K := by rw [h]
@[congr] theorem len1K_congr {ts ts' : List TypeId} (h : l = l') (g : ts = ts') : len1K P l ts K = len1K P l' ts' K := by rw [h, g]
@[congr] theorem buildK_congr {t : TypeId} (h : q = q') : buildK P t q K = buildK P t q' K := by rw [h]
@[congr] theorem buildSliceK_congr {t : TypeId} {n : Nat} (h : q = q') : buildSliceK P t n q K = buildSliceK P t n q' K := by rw [h]
@[congr] theorem baseK_congr {t : TypeId} {n : Nat} (h : q = q') : baseK P t n q H L = baseK P t n q' H L := by rw [h]
@[congr] theorem RunD_congr {c : Cfg} {ops : Array Oper} {l l' : List Oper} {ks ks' : List Nat} {K : Sg → AH → Prop} {σ : Sg} (h : l = l') (g : ks = ks') : RunD c ops l ks K σ H = RunD c ops l' ks' K σ H := by rw [h, g]
@[congr] theorem DrawK_congr {c : Cfg} {t t' : STree} {id : Nat} {l : List Oper} {K : Sg → AH → Prop} {σ : Sg} (h : t = t') : DrawK c t id l K σ H = DrawK c t' id l K σ H := by rw [h]
@[congr] theorem app3K_congr {u u' : Option TypeDesc} {s x : AV} {t t' : TypeId} (h : u = u') : app3K P u s x t t' H L = app3K P u' s x t t' H L := by rw [h]
@[congr] theorem own3K_congr {u u' : Option TypeDesc} {s x : AV} {t t' : TypeId} (h : u = u') : own3K P u s x t t' H L = own3K P u' s x t t' H L := by rw [h]
@[congr] theorem append2K_congr {ts ts' : List TypeId} (h : l = l') (g : ts = ts') : append2K P l ts H L = append2K P l' ts' H L := by rw [h, g]
@[congr] theorem appendK_congr {t t' : TypeId} (h : a = a') (g : b = b') : appendK P t t' a b H L = appendK P t t' a' b' H L := by rw [h, g]
@[congr] theorem makeK_congr {t : TypeId} {s s' : Bool} (e : s = s') (h : a = a') (g : b = b') : makeK P t s a b H L = makeK P t s' a' b' H L := by rw [e, h, g]
@[congr] theorem callK_congr (h : a = a') (g : l = l') : callK P a l H L = callK P a' l' H L := by rw [h, g]
@[congr] theorem callPK_congr (h : a = a') (g : l = l') : callPK P a l K = callPK P a' l' K := by rw [h, g]
@[congr] theorem pickK_congr (h : a = a') : pickK a X Y = pickK a' X Y := by rw [h]
@[congr] theorem kindK_congr {k k' : Nat} (h : k = k') : kindK k X Y Z = kindK k' X Y Z := by rw [h]
@[congr] theorem condK_congr (h : a = a') : condK a X Y = condK a' X Y := by rw [h]
@[congr] theorem bsK_congr {x y : Bool} (h : x = y) : bsK x X Y = bsK y X Y := by rw [h]
@[congr] theorem ACalls_congr {f : FuncId} (h : l = l') (g : H = H') : ACalls P f l H L = ACalls P f l' H' L := by rw [h, g]
theorem APure.call {f : FuncId} {v : AV} (h : APure P f l v) (k : L v H) : ACalls P f l H L := (h H).mono fun v' H' ⟨e1, e2⟩ => by subst e1 e2; exact k
theorem pickK_true : pickK (.sc (.bool true)) X Y = X := veil rfl
theorem pickK_false : pickK (.sc (.bool false)) X Y = Y := veil rfl
theorem kindK_0 : kindK 0 X Y Z = X := veil rfl
theorem kindK_1 : kindK 1 X Y Z = Y := veil rfl
theorem kindK_2 : kindK 2 X Y Z = Z := veil rfl
theorem condK_true : condK (.sc (.bool true)) X Y = X := by simp [condK]
theorem condK_false : condK (.sc (.bool false)) X Y = Y := by simp [condK]
theorem bsK_true : bsK true X Y = X := veil rfl
theorem bsK_false : bsK false X Y = Y := veil rfl
/-- what is read of a live handle -/
def liveK (o : Option AObj) (K : AObj → Prop) : Prop := match o with
  | some x => K x
  | none => False
end congr

abbrev bytesV (l : List UInt8) : AV := .imm 0 (encB l) l.length

theorem Req_true {q : Prop} : Req True q = q := by simp [Req]
theorem put_some (σ : Sg) (d : Tmp) (v : AV) (t : Nat) : (σ.put (some d) v) t = bif t == d then v else σ t := by
  show (if t = d then v else σ t) = _
  by_cases h : t = d
  · simp [h]
  · have h2 : (t == d) = false := by simpa using h
    rw [if_neg h, h2]; rfl
theorem put_none (σ : Sg) (v : AV) : σ.put none v = σ := veil rfl
theorem ev_tmp (σ : Sg) (t : Tmp) : σ.ev (.tmp t) = σ t := veil rfl
theorem ev_const (σ : Sg) (v : Value) : σ.ev (.const v) = cst v := veil rfl
theorem ev_func (σ : Sg) (f : FuncId) : σ.ev (.func f) = .fn (.func f) [] [] := veil rfl
theorem cst_int (k : IntKind) (n : Int) : cst (.int k n) = .sc (.int k n) := veil rfl
theorem cst_bool (b : Bool) : cst (.bool b) = .sc (.bool b) := veil rfl
theorem cst_string (s : ByteArray) : cst (.string s) = .sc (.string s) := veil rfl
theorem cst_slice (a : Option Addr) (n c : Nat) : cst (.slice a n c) = .sc (.slice a n c) := veil rfl
theorem guard_none (ops : Array Oper) (σ : Sg) (d : Option Tmp) (op : Op) (ty : TypeId) (ps : String) (af : Array Edge) (X Y : Prop) : guardK ops σ ⟨d, op, ty, ps, af, none⟩ X Y = X := by
  simp [guardK, wantB]
/-- the slot that an operation writes -/
def dstAt : List Oper → Nat → Option Tmp
  | [], _ => none
  | o :: _, 0 => o.dst
  | _ :: l, n + 1 => dstAt l n
theorem dstAt_eq (l : List Oper) (n : Nat) : (l[n]?).bind (·.dst) = dstAt l n := by
  induction l generalizing n with
  | nil => rfl
  | cons o l ih => cases n <;> simp [dstAt, ih]
def guardV (d : Option AV) (want : Bool) (X Y : Prop) : Prop := match d with
  | some (.sc (.bool b)) => ((b == want) = true → X) ∧ ((b == want) = false → Y)
  | some (.tup []) => Y
  | _ => False
theorem guard_some (l : List Oper) (σ : Sg) (d : Option Tmp) (op : Op) (ty : TypeId) (ps : String) (af : Array Edge) (j : Nat) (want : Bool) (X Y : Prop) :
    guardK l.toArray σ ⟨d, op, ty, ps, af, some (j, want)⟩ X Y = guardV ((dstAt l j).map σ) want X Y := by
  simp only [guardK, wantB, List.getElem?_toArray, dstAt_eq, guardV]
  cases dstAt l j with
  | none => rfl
  | some t =>
    simp only [Option.map_some]
    split
    · rename_i b hb
      split at hb
      · rename_i hs; simp only [Option.some.injEq] at hb; subst hb; rw [hs]
      · rename_i hs; simp only [Option.some.injEq] at hb; subst hb; rw [hs]; simp
      · cases hb
    · rename_i hb
      split at hb
      · cases hb
      · cases hb
      · rename_i n1 n2
        split
        · rename_i hs; simp only [Option.some.injEq] at hs; exact (n1 _ hs).elim
        · rename_i hs; simp only [Option.some.injEq] at hs; exact (n2 hs).elim
        · rfl
theorem guardV_true (X Y : Prop) : guardV (some (.sc (.bool true))) true X Y = X := by simp [guardV]
theorem guardV_false (X Y : Prop) : guardV (some (.sc (.bool false))) true X Y = Y := by simp [guardV]
theorem guardV_true' (X Y : Prop) : guardV (some (.sc (.bool true))) false X Y = Y := by simp [guardV]
theorem guardV_false' (X Y : Prop) : guardV (some (.sc (.bool false))) false X Y = X := by simp [guardV]
theorem guardV_skip (w : Bool) (X Y : Prop) : guardV (some (.tup [])) w X Y = Y := by simp [guardV]
@[congr] theorem guardV_congr {d d' : Option AV} {w : Bool} {X Y : Prop} (h : d = d') : guardV d w X Y = guardV d' w X Y := by rw [h]
theorem strip_sc_int (k : IntKind) (n : Int) : AV.strip (.sc (.int k n)) = .sc (.int k n) := veil rfl
theorem strip_sc_bool (b : Bool) : AV.strip (.sc (.bool b)) = .sc (.bool b) := veil rfl
theorem strip_sc_string (s : ByteArray) : AV.strip (.sc (.string s)) = .sc (.string s) := veil rfl
theorem strip_nil : AV.strip (.sc (.slice none 0 0)) = .imm 0 [] 0 := veil rfl
theorem strip_imm (k : Nat) (cs : List AV) (n : Nat) : AV.strip (.imm k cs n) = .imm 0 cs n := veil rfl
theorem strip_agg (cs : List AV) : AV.strip (.agg cs) = .agg (cs.map AV.strip0) := veil rfl
theorem strip_ptr (h off : Nat) : AV.strip (.ptr h off) = .ptr h off := veil rfl
theorem strip0_sc_int (k : IntKind) (n : Int) : AV.strip0 (.sc (.int k n)) = .sc (.int k n) := veil rfl
theorem strip0_sc_bool (b : Bool) : AV.strip0 (.sc (.bool b)) = .sc (.bool b) := veil rfl
theorem strip0_sc_string (s : ByteArray) : AV.strip0 (.sc (.string s)) = .sc (.string s) := veil rfl
theorem strip0_nil : AV.strip0 (.sc (.slice none 0 0)) = .imm 0 [] 0 := veil rfl
theorem strip0_imm (k : Nat) (cs : List AV) (n : Nat) : AV.strip0 (.imm k cs n) = .imm 0 cs n := veil rfl
theorem strip0_ptr (h off : Nat) : AV.strip0 (.ptr h off) = .ptr h off := veil rfl
theorem strip0_own (h off n : Nat) : AV.strip0 (.own h off n) = .own h off n := veil rfl
theorem strip0_mp (h : Nat) : AV.strip0 (.mp h) = .mp h := veil rfl
theorem strip0_ip (cs : List AV) (off : Nat) : AV.strip0 (.ip cs off) = .ip cs off := veil rfl
theorem strip0_pn : AV.strip0 (.sc (.pointer none)) = .sc (.pointer none) := veil rfl
theorem strip0_mn : AV.strip0 (.sc (.map none)) = .sc (.map none) := veil rfl
theorem strip0_encB (l : List UInt8) : (encB l).map AV.strip0 = encB l := veil (by simp [encB, AV.strip0])
theorem encB_length (l : List UInt8) : (encB l).length = l.length := by simp [encB]
theorem encB_isU8 (l : List UInt8) : (encB l).all isU8 = true := by simp [encB, isU8]
theorem strOf_encB (l : List UInt8) : strOf (encB l) = ⟨l.toArray⟩ := by
  unfold strOf encB
  congr 2
  rw [List.map_map]
  conv => rhs; rw [← List.map_id l]
  apply List.map_congr_left
  intro b _
  simp [byteA]
theorem encB_drop (l : List UInt8) (n : Nat) : (encB l).drop n = encB (l.drop n) := by simp [encB]
theorem encB_take (l : List UInt8) (n : Nat) : (encB l).take n = encB (l.take n) := by simp [encB]
theorem encB_append (a b : List UInt8) : encB a ++ encB b = encB (a ++ b) := by simp [encB]
theorem encB_get {l : List UInt8} {i : Nat} (h : i < l.length) : (encB l)[i]? = some (.sc (.int .u8 (l.getD i 0).toNat)) := by
  simp [encB, List.getD, h]
theorem baToList (l : List UInt8) : (⟨l.toArray⟩ : ByteArray).toList = l := by
  have key : ∀ (bs : ByteArray) (n i : Nat) (r : List UInt8), bs.size - i = n → ByteArray.toList.loop bs i r = r.reverse ++ bs.data.toList.drop i := by
    intro bs n
    induction n with
    | zero =>
      intro i r hn
      unfold ByteArray.toList.loop
      have hge : bs.data.toList.length ≤ i := by
        have : bs.size = bs.data.size := rfl
        simp; omega
      rw [if_neg (by omega), List.drop_eq_nil_of_le hge, List.append_nil]
    | succ n ih =>
      intro i r hn
      have hlt : i < bs.size := by omega
      have hlt' : i < bs.data.toList.length := by
        have : bs.size = bs.data.size := rfl
        simp; omega
      unfold ByteArray.toList.loop
      rw [if_pos hlt, ih (i + 1) _ (by omega), List.drop_eq_getElem_cons hlt']
      have h2 : bs.get! i = bs.data.toList[i] := by
        have h3 : i < bs.data.size := by simpa using hlt'
        show bs.data[i]! = _
        rw [getElem!_pos bs.data i h3]
        simp
      simp [h2]
  have := key ⟨l.toArray⟩ _ 0 [] rfl
  simpa [ByteArray.toList] using this
theorem TokO_tail (e : TypeId) (s m : Nat) : TokO e s (.tail m e s) m = True := by simp [TokO]
theorem TokO_nil (e : TypeId) (s : Nat) : TokO e s .nilt 0 = True := by simp [TokO]
theorem encB_nil : encB [] = [] := veil rfl

/-! ### numbers -/
theorem maxLen_eq : maxLen = 9223372036854775807 := veil rfl
theorem wrapI {n : Int} (h : -9223372036854775808 ≤ n ∧ n < 9223372036854775808) : IntKind.i64.wrap n = n := by
  rw [IntKind.wrap_i64]; omega
theorem wrapU8 {n : Int} (h : 0 ≤ n ∧ n < 256) : IntKind.u8.wrap n = n := by
  rw [IntKind.wrap_u8]; omega
theorem n8lt (a : UInt8) : (a.toNat : Int) < 256 := by have := a.toNat_lt; omega
theorem n8ge (a : UInt8) : 0 ≤ (a.toNat : Int) := by omega
theorem ofInt8 (a : UInt8) : BitVec.ofInt 8 (a.toNat : Int) = a.toBitVec := by
  rw [BitVec.ofInt_natCast]
  apply BitVec.eq_of_toNat_eq
  have := a.toNat_lt
  simp
theorem n8xor (a b : UInt8) : bits .xor .u8 (a.toNat : Int) (b.toNat : Int) = ((a ^^^ b).toNat : Int) := by
  show IntKind.u8.wrap ((BitVec.ofInt 8 (a.toNat : Int) ^^^ BitVec.ofInt 8 (b.toNat : Int)).toNat : Int) = _
  rw [ofInt8, ofInt8, IntKind.wrap_u8]
  have h : (a.toBitVec ^^^ b.toBitVec).toNat = (a ^^^ b).toNat := by simp
  have := (a ^^^ b).toNat_lt
  rw [h]
  omega
theorem n8or (a b : UInt8) : bits .or .u8 (a.toNat : Int) (b.toNat : Int) = ((a ||| b).toNat : Int) := by
  show IntKind.u8.wrap ((BitVec.ofInt 8 (a.toNat : Int) ||| BitVec.ofInt 8 (b.toNat : Int)).toNat : Int) = _
  rw [ofInt8, ofInt8, IntKind.wrap_u8]
  have h : (a.toBitVec ||| b.toBitVec).toNat = (a ||| b).toNat := by simp
  have := (a ||| b).toNat_lt
  rw [h]
  omega
theorem n8and (a b : UInt8) : bits .and .u8 (a.toNat : Int) (b.toNat : Int) = ((a &&& b).toNat : Int) := by
  show IntKind.u8.wrap ((BitVec.ofInt 8 (a.toNat : Int) &&& BitVec.ofInt 8 (b.toNat : Int)).toNat : Int) = _
  rw [ofInt8, ofInt8, IntKind.wrap_u8]
  have h : (a.toBitVec &&& b.toBitVec).toNat = (a &&& b).toNat := by simp
  have := (a &&& b).toNat_lt
  rw [h]
  omega
theorem n8wadd (a b : UInt8) : IntKind.u8.wrap ((a.toNat : Int) + (b.toNat : Int)) = ((a + b).toNat : Int) := by
  rw [IntKind.wrap_u8, UInt8.toNat_add]; omega
theorem n8wsub (a b : UInt8) : IntKind.u8.wrap ((a.toNat : Int) - (b.toNat : Int)) = ((a - b).toNat : Int) := by
  rw [IntKind.wrap_u8, UInt8.toNat_sub]; have := a.toNat_lt; have := b.toNat_lt; omega
theorem n8wmul (a b : UInt8) : IntKind.u8.wrap ((a.toNat : Int) * (b.toNat : Int)) = ((a * b).toNat : Int) := by
  rw [IntKind.wrap_u8, UInt8.toNat_mul]
  have : ((a.toNat : Int) * (b.toNat : Int)) = ((a.toNat * b.toNat : Nat) : Int) := by simp
  rw [this]; omega
theorem n8eq (a b : UInt8) : ((a.toNat : Int) == (b.toNat : Int)) = (a == b) := by
  rw [Bool.eq_iff_iff]
  simp only [beq_iff_eq]
  exact ⟨fun h => UInt8.toNat_inj.1 (by omega), fun h => by rw [h]⟩
theorem n8eq0 (a : UInt8) : ((a.toNat : Int) == 0) = (a == 0) := n8eq a 0
/-- a byte's cell -/
theorem getB {l : List UInt8} {i : Nat} (h : i < l.length) : (encB l)[i]? = some (.sc (.int .u8 (l[i].toNat))) := by
  simp [encB, h]
theorem n8shr4 (a : UInt8) : ((a.toNat : Int)).fdiv 16 = ((a / 16).toNat : Int) := by
  rw [Int.fdiv_eq_ediv_of_nonneg _ (by omega), UInt8.toNat_div]; rfl
theorem n8div16 (a : UInt8) : IntKind.u8.wrap (((a.toNat : Int)).tdiv 16) = ((a / 16).toNat : Int) := by
  rw [Int.tdiv_eq_ediv_of_nonneg (by omega), IntKind.wrap_u8, UInt8.toNat_div]
  have := a.toNat_lt
  have h2 : (16 : UInt8).toNat = 16 := rfl
  rw [h2]; omega
theorem n8mod16 (a : UInt8) : ((a.toNat : Int)).tmod 16 = ((a % 16).toNat : Int) := by
  rw [Int.tmod_eq_emod_of_nonneg (by omega), UInt8.toNat_mod]; rfl
theorem n8and15 (a : UInt8) : bits .and .u8 (a.toNat : Int) 15 = ((a % 16).toNat : Int) := by
  have h := n8and a 15
  have e : a &&& 15 = a % 16 := by
    apply UInt8.toNat_inj.1
    rw [UInt8.toNat_and, UInt8.toNat_mod]
    exact Nat.and_two_pow_sub_one_eq_mod a.toNat 4
  rw [e] at h
  exact h
theorem encB_two (l : List UInt8) (a b : UInt8) : encB l ++ [.sc (.int .u8 a.toNat), .sc (.int .u8 b.toNat)] = encB (l ++ [a, b]) := by simp [encB]
theorem bits_u8 : IntKind.u8.bits = 8 := veil rfl
theorem bits_u64 : IntKind.u64.bits = 64 := veil rfl
theorem set_other {H : AH} {k k' : Nat} {o : AObj} (h : ¬ k' = k) : (H.set k o) k' = H k' := by simp [AH.set, h]
theorem set_kill_new {H : AH} {k1 k k' : Nat} {o1 o o' : AObj} (h : (H.set k1 o1) k = none) : (((H.set k1 o1).set k o).kill k).set k' o' = (H.set k1 o1).set k' o' := by rw [kill_set_new h]
theorem n8mod2 (a : UInt8) : ((a.toNat : Int)).tmod 2 = ((a % 2).toNat : Int) := by
  rw [Int.tmod_eq_emod_of_nonneg (by omega), UInt8.toNat_mod]; rfl
theorem n8div2 (a : UInt8) : IntKind.u8.wrap (((a.toNat : Int)).tdiv 2) = ((a / 2).toNat : Int) := by
  rw [Int.tdiv_eq_ediv_of_nonneg (by omega), IntKind.wrap_u8, UInt8.toNat_div]
  have := a.toNat_lt
  have h2 : (2 : UInt8).toNat = 2 := rfl
  rw [h2]; omega
theorem n8mul2 (a : UInt8) : IntKind.u8.wrap ((a.toNat : Int) * 2) = ((a * 2).toNat : Int) := n8wmul a 2
theorem oneCell_int (k : IntKind) (n : Int) : (Value.int k n).oneCell' = true := veil rfl
theorem oneCell_bool (b : Bool) : (Value.bool b).oneCell' = true := veil rfl
theorem oneCell_string (s : ByteArray) : (Value.string s).oneCell' = true := veil rfl
theorem oneCell_slice (a : Option Addr) (n c : Nat) : (Value.slice a n c).oneCell' = true := veil rfl
theorem oneCell_pointer (a : Option Addr) : (Value.pointer a).oneCell' = true := veil rfl
theorem putCells_eq (cells : List AV) (off : Nat) (vs : List AV) : putCells cells off vs = cells.take off ++ (vs ++ cells.drop (off + vs.length)) := by simp [putCells]
theorem subset_set {H : AH} {k k' : Nat} {o : AObj} (h : (H.set k o) k' = none) : H k' = none := by
  simp only [AH.set] at h
  split at h
  · cases h
  · exact h
theorem encB_snoc (l : List UInt8) (b : UInt8) : encB l ++ [.sc (.int .u8 b.toNat)] = encB (l ++ [b]) := by simp [encB]
theorem min48 : min 4 8 = 4 := veil rfl
theorem min18 : min 1 8 = 1 := veil rfl
theorem min88 : min 8 64 = 8 := veil rfl
theorem set_set {H : AH} {k : Nat} {o o' : AObj} : (H.set k o).set k o' = H.set k o' := veil (by funext j; simp only [AH.set]; split <;> rfl)
theorem set_ne {H : AH} {k k' : Nat} {o : AObj} (h : (H.set k o) k' = none) : ¬ k = k' := by
  rintro rfl
  simp [AH.set] at h
/-- the branches of a lookup are not looked at before the slot is known -/
@[congr] theorem cond_congr {α : Type} {c c' : Bool} {a b : α} (h : c = c') : cond c a b = cond c' a b := by rw [h]
/-! ### lookups and guards as rules that fire ahead of any look at their parts -/
theorem put_same (σ : Sg) (d : Tmp) (v : AV) : (σ.put (some d) v) d = v := by rw [put_some]; simp
theorem put_other (σ : Sg) (d : Nat) (v : AV) (t : Nat) (h : ¬ t = d) : (σ.put (some d) v) t = σ t := by rw [put_some, beq_false_of_ne h]; rfl
def guardAt (l : List Oper) (j : Nat) (σ : Sg) (w : Bool) (X Y : Prop) : Prop := guardV ((dstAt l j).map σ) w X Y
def guardW (a : AV) (w : Bool) (X Y : Prop) : Prop := guardV (some a) w X Y
@[congr] theorem guardW_congr {a a' : AV} {w : Bool} {X Y : Prop} (h : a = a') : guardW a w X Y = guardW a' w X Y := by rw [h]
theorem guard_at (l : List Oper) (σ : Sg) (d : Option Tmp) (op : Op) (ty : TypeId) (ps : String) (af : Array Edge) (j : Nat) (want : Bool) (X Y : Prop) :
    guardK l.toArray σ ⟨d, op, ty, ps, af, some (j, want)⟩ X Y = guardAt l j σ want X Y := guard_some l σ d op ty ps af j want X Y
theorem guardAt_zero (t : Tmp) (op : Op) (ty : TypeId) (ps : String) (af : Array Edge) (g : Option (Nat × Bool)) (l : List Oper) (σ : Sg) (w : Bool) (X Y : Prop) :
    guardAt (⟨some t, op, ty, ps, af, g⟩ :: l) 0 σ w X Y = guardW (σ t) w X Y := veil rfl
theorem guardAt_succ (o : Oper) (l : List Oper) (n : Nat) (σ : Sg) (w : Bool) (X Y : Prop) : guardAt (o :: l) (n + 1) σ w X Y = guardAt l n σ w X Y := veil rfl
theorem guardW_true (X Y : Prop) : guardW (.sc (.bool true)) true X Y = X := guardV_true X Y
theorem guardW_false (X Y : Prop) : guardW (.sc (.bool false)) true X Y = Y := guardV_false X Y
theorem guardW_true' (X Y : Prop) : guardW (.sc (.bool true)) false X Y = Y := guardV_true' X Y
theorem guardW_false' (X Y : Prop) : guardW (.sc (.bool false)) false X Y = X := guardV_false' X Y
theorem guardW_skip (w : Bool) (X Y : Prop) : guardW (.tup []) w X Y = Y := guardV_skip w X Y
theorem extrA_tup (vs : List AV) (i : Nat) : extrA (.tup vs) i = vs[i]? := veil rfl
theorem liveO_some (cs : List AV) (e : TypeId) (s : Nat) : liveO (some (.cells cs e s)) = some (cs, e, s) := veil rfl
theorem aggO_agg (cs : List AV) : aggO (.agg cs) = some cs := veil rfl
theorem fpA_ip (cells : List AV) (off o : Nat) : fpA (.ip cells off) o = some (.ip cells (off + o)) := veil rfl
theorem fpA_ptr (h off o : Nat) : fpA (.ptr h off) o = some (.ptr h (off + o)) := veil rfl
theorem unA_not (b : Bool) : unA .not (.sc (.bool b)) = some (.sc (.bool (!b))) := veil rfl
theorem unA_neg (k : IntKind) (n : Int) : unA .neg (.sc (.int k n)) = some (.sc (.int k (k.wrap (0 - n)))) := veil rfl
end Go.Abs
