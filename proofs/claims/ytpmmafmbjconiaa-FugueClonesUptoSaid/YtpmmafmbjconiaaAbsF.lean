/-
  An abstract logic over the model's walks, part F: the operations that only yield a value, and that each of them is right.
  Conditions: none. Lemmas only.
-/
import Derived.Test.YtpmmafmbjconiaaAbsE
import Derived.Laws.IdiomStrings
import Derived.Laws.Cover4
set_option linter.all false
namespace Go.Abs
open Go Go.RowKit

def isU8 : AV → Bool
  | .sc (.int .u8 _) => true
  | _ => false
def byteA : AV → UInt8
  | .sc (.int _ n) => UInt8.ofNat n.toNat
  | _ => 0
def strOf (cells : List AV) : ByteArray := ⟨(cells.map byteA).toArray⟩
/-- bytes as cells -/
def encB (l : List UInt8) : List AV := l.map fun b => .sc (.int .u8 b.toNat)

def unK (op : UnOp) (x : AV) (K : AV → Prop) : Prop := match op, x with
  | .not, .sc (.bool b) => K (.sc (.bool (!b)))
  | .neg, .sc (.int k n) => K (.sc (.int k (k.wrap (0 - n))))
  | _, _ => False

def isI32 : AV → Bool
  | .sc (.int .i32 _) => true
  | _ => false
def runeA : AV → Int
  | .sc (.int _ n) => n
  | _ => 0
/-- a rune's bytes -/
def runeB (r : Int) : List UInt8 := (Utf8.encode r).data.toList
/-- runes as cells -/
def encR (l : List Int) : List AV := l.map fun r => .sc (.int .i32 r)
def convB (u : Option TypeDesc) (cells : List AV) (n : Nat) (K : AV → Prop) : Prop := match u with
  | some (.int .u8) => Req (cells.all isU8 = true ∧ cells.length = n) (K (.sc (.string (strOf cells))))
  | some (.int .i32) => Req (cells.all isI32 = true ∧ cells.length = n) (K (.sc (.string ⟨((cells.map runeA).flatMap runeB).toArray⟩)))
  | _ => False
def convK (P : Program) (s d : TypeId) (x : AV) (K : AV → Prop) : Prop := match P.underlying s, P.underlying d, x with
  | some _, some (.int k), .sc (.int _ n) => K (.sc (.int k (k.wrap n)))
  | some .string, some .string, .sc (.string b) => K (.sc (.string b))
  | some (.int _), some .string, .sc (.int _ n) => K (.sc (.string ⟨(runeB n).toArray⟩))
  | some (.slice e), some .string, .imm _ cells n => convB (P.underlying e) cells n K
  | some .string, some (.slice e), .sc (.string b) => Req (P.underlying e = some (.int .u8) ∧ b.size ≤ maxLen) (K (.imm 0 (encB b.data.toList) b.size))
  | _, _, _ => False

def extrK (x : AV) (i : Nat) (K : AV → Prop) : Prop := match x with
  | .tup vs => (match vs[i]? with | some v => K v | none => False)
  | _ => False

def fieldK (P : Program) (t : TypeId) (x : AV) (f : Nat) (K : AV → Prop) : Prop := match P.underlying t, x with
  | some (.struct fields), .agg cells => (match fields[f]? with
    | some fd => (match partA P fd.type cells fd.offset with | some v => K v | none => False)
    | none => False)
  | _, _ => False

def indexK (P : Program) (t : TypeId) (x i : AV) (K : AV → Prop) : Prop := match P.underlying t, x, i with
  | some .string, .sc (.string s), .sc (.int _ i) => Req (0 ≤ i ∧ i < s.size) (K (.sc (.int .u8 (s.data.toList.getD i.toNat 0).toNat)))
  | some (.array n e), .agg cells, .sc (.int _ i) => Req (0 ≤ i ∧ i < n ∧ hasT P e = true ∧ aggOf P e = false ∧ i.toNat * szOf P e < cells.length) (K (cells.getD (i.toNat * szOf P e) .any))
  | _, _, _ => False
where aggOf (P : Program) (t : TypeId) : Bool := match P.underlying t with | some d => aggD d | none => true

def indexAddrK (P : Program) (t : TypeId) (x i : AV) (K : AV → Prop) : Prop := match P.underlying t, x, i with
  | some (.slice e), .imm _ cells n, .sc (.int _ i) => Req (0 ≤ i ∧ i < n ∧ i.toNat * szOf P e < cells.length) (Req (hasT P e = true) (K (.ip cells (i.toNat * szOf P e))))
  | some (.slice e), .own h off n, .sc (.int _ i) => Req (0 ≤ i ∧ i < n) (Req (hasT P e = true) (K (.ptr h (off + i.toNat * szOf P e))))
  | some (.array n e), .ip cells off, .sc (.int _ i) => Req (0 ≤ i ∧ i < n) (Req (hasT P e = true) (K (.ip cells (off + i.toNat * szOf P e))))
  | some (.array n e), .ptr h off, .sc (.int _ i) => Req (0 ≤ i ∧ i < n) (Req (hasT P e = true) (K (.ptr h (off + i.toNat * szOf P e))))
  | _, _, _ => False

def fieldAddrK (P : Program) (t : TypeId) (x : AV) (f : Nat) (K : AV → Prop) : Prop := match P.underlying t with
  | some (.struct fields) => (match fields[f]? with
    | some fd => Req (hasT P fd.type = true ∧ szOf P fd.type ≠ 0) (match x with
      | .ip cells off => K (.ip cells (off + fd.offset))
      | .ptr h off => K (.ptr h (off + fd.offset))
      | _ => False)
    | none => False)
  | _ => False

def loadK (P : Program) (t : TypeId) (x : AV) (K : AV → Prop) : Prop := match x with
  | .ip cells off => (match partA P t cells off with | some v => K v | none => False)
  | _ => False

/-- a bound of a slice expression -/
def bnd (x : Option AV) (d : Nat) : Option Int := match x with
  | none => some d
  | some (.sc (.int _ i)) => some i
  | _ => none

def sliceK (P : Program) (t : TypeId) (x : AV) (lo hi mx : Option AV) (K : AV → Prop) : Prop := match P.underlying t, x, mx with
  | some (.slice e), .imm k cells n, none => (match bnd lo 0, bnd hi n with
    | some l, some h => Req (0 ≤ l ∧ l ≤ h ∧ h ≤ n) (Req (hasT P e = true ∧ cells.length = n * szOf P e) (K (.imm 0 ((cells.drop (l.toNat * szOf P e)).take ((h.toNat - l.toNat) * szOf P e)) (h.toNat - l.toNat))))
    | _, _ => False)
  | some .string, .sc (.string s), none => (match bnd lo 0, bnd hi s.size with
    | some l, some h => Req (0 ≤ l ∧ l ≤ h ∧ h ≤ s.size) (K (.sc (.string (s.extract l.toNat h.toNat))))
    | _, _ => False)
  | some (.slice e), .own k off n, none => (match bnd lo 0, bnd hi n with
    | some l, some h => Req (l = 0 ∧ 0 ≤ h ∧ h ≤ n) (Req (hasT P e = true) (K (.own k off h.toNat)))
    | _, _ => False)
  | some (.slice e), .imm k cells n, some m => (match bnd lo 0, bnd hi n, bnd (some m) n with
    | some l, some h, some m => Req (0 ≤ l ∧ l ≤ h ∧ h ≤ m ∧ m ≤ n) (Req (hasT P e = true ∧ cells.length = n * szOf P e ∧ hi.isSome = true) (K (.imm 0 ((cells.drop (l.toNat * szOf P e)).take ((h.toNat - l.toNat) * szOf P e)) (h.toNat - l.toNat))))
    | _, _, _ => False)
  | some (.array n e), .ip cells off, none => (match bnd lo 0, bnd hi n with
    | some l, some h => Req (0 ≤ l ∧ l ≤ h ∧ h ≤ n ∧ n ≤ maxLen) (Req (hasT P e = true ∧ off + n * szOf P e ≤ cells.length) (K (.imm 0 ((cells.drop (off + l.toNat * szOf P e)).take ((h.toNat - l.toNat) * szOf P e)) (h.toNat - l.toNat))))
    | _, _ => False)
  | _, _, _ => False

def lenK (P : Program) (t : TypeId) (x : AV) (K : AV → Prop) : Prop := match P.underlying t, x with
  | some (.slice _), .imm _ _ n => K (.sc (.int .i64 n))
  | some (.slice _), .own _ _ n => K (.sc (.int .i64 n))
  | some (.slice _), .sc (.slice none 0 0) => K (.sc (.int .i64 0))
  | some .string, .sc (.string s) => K (.sc (.int .i64 s.size))
  | some (.array n _), _ => K (.sc (.int .i64 n))
  | _, _ => False

/-- the cells of a value -/
def AV.cellsOf : AV → List AV
  | .agg cs => cs
  | v => [v]
def AV.one : AV → Bool
  | .agg _ | .tup _ | .any => false
  | .sc v => v.oneCell'
  | _ => true
/-- may it lie in a row? -/
def AV.fine : AV → Bool
  | .agg _ => true
  | v => v.one

def putCells (cells : List AV) (off : Nat) (vs : List AV) : List AV := cells.take off ++ vs ++ cells.drop (off + vs.length)

def fillA (place : Nat → Option (Nat × Nat)) (cells : List AV) : List (Nat × AV) → Option (List AV)
  | [] => some cells
  | (i, v) :: rest => match place i with
    | none => none
    | some (off, size) => if v.cellsOf.length ≠ size ∨ off + size > cells.length ∨ v.fine = false then none else fillA place (putCells cells off v.cellsOf) rest

/-- the cells of a zero value -/
def zeroA (P : Program) (t : TypeId) : List AV := (zeOf P t).cells.toList.map fun c => match c with | .slice none 0 0 => .imm 0 [] 0 | c => .sc c

/-- the same, nil told -/
def zeroN (P : Program) (t : TypeId) : List AV := (zeOf P t).cells.toList.map .sc

def buildK (P : Program) (t : TypeId) (parts : List (Nat × AV)) (K : AV → Prop) : Prop := match P.underlying t with
  | some (.struct fields) => Req (hasT P t = true ∧ fields.all (fun f => hasT P f.type) = true) (match fillA (fun i => (fields[i]?).map fun f => (f.offset, szOf P f.type)) (zeroN P t) parts with | some cs => K (.agg cs) | none => False)
  | some (.array _ e) => Req (hasT P t = true ∧ hasT P e = true) (match fillA (fun i => some (i * szOf P e, szOf P e)) (zeroN P t) parts with | some cs => K (.agg cs) | none => False)
  | _ => False

def repA (z : List AV) : Nat → List AV
  | 0 => []
  | n + 1 => z ++ repA z n

def buildSliceK (P : Program) (t : TypeId) (n : Nat) (parts : List (Nat × AV)) (K : AV → Prop) : Prop := match P.underlying t with
  | some (.slice e) => Req (hasT P e = true ∧ n * szOf P e ≤ 16777216 ∧ 0 < szOf P e) (match fillA (fun i => some (i * szOf P e, szOf P e)) (repA (zeroA P e) n) parts with | some cs => K (.imm 0 cs n) | none => False)
  | _ => False
end Go.Abs
