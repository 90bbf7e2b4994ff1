/-
  Ideal states: the table of types; what one operation does to an ideal state.
-/
import Derived.Test.YtmgcoopmbohkoaaIdlD
namespace Go.Idl
open Go

/-! ### The table of types -/
inductive Zv where
  | int (k : IntKind) | bool | str | ptr | slc | map | fn | ifc
  deriving DecidableEq, Inhabited

def Zv.val : Zv → Value
  | .int k => .int k 0
  | .bool => .bool false
  | .str => .string ⟨⟨[]⟩⟩
  | .ptr => .pointer none
  | .slc => .slice none 0 0
  | .map => .map none
  | .fn => .nilFunc
  | .ifc => .nilIface

inductive TK where
  | bool | int (k : IntKind) | str | strct (fs : List (Nat × Nat)) | arr (len elem : Nat) | slc (elem : Nat) | ptr (elem : Nat) | mp (key elem : Nat) | fnc | other
  deriving DecidableEq, Inhabited

structure TI where
  size : Nat
  bytes : Nat
  zero : List Zv
  kind : TK
  deriving Inhabited

abbrev TT := List (Nat × TI)

def TT.get : TT → Nat → Option TI
  | [], _ => none
  | (k, i) :: r, t => bif Nat.beq k t then some i else TT.get r t

def kindOf : TypeDesc → TK
  | .bool => .bool
  | .int k => .int k
  | .string => .str
  | .struct fs => .strct (fs.toList.map fun f => (f.offset, f.type))
  | .array n e => .arr n e
  | .slice e => .slc e
  | .pointer e => .ptr e
  | .map k e => .mp k e
  | .func .. => .fnc
  | _ => .other

def zcode : Value → Option Zv
  | .int k 0 => some (.int k)
  | .bool false => some .bool
  | .string ⟨⟨[]⟩⟩ => some .str
  | .pointer none => some .ptr
  | .slice none 0 0 => some .slc
  | .map none => some .map
  | .nilFunc => some .fn
  | .nilIface => some .ifc
  | _ => none

theorem zcode_val {v : Value} {z : Zv} (h : zcode v = some z) : v = z.val := by
  unfold zcode at h
  split at h <;> first | (cases h; rfl) | cases h

def zcodes : List Value → Option (List Zv)
  | [] => some []
  | v :: vs => match zcode v, zcodes vs with
    | some z, some zs => some (z :: zs)
    | _, _ => none

theorem zcodes_val : ∀ {vs : List Value} {zs : List Zv}, zcodes vs = some zs → vs = zs.map Zv.val
  | [], zs, h => by simp [zcodes] at h; subst h; rfl
  | v :: vs, zs, h => by
    unfold zcodes at h
    split at h
    · rename_i z zs' h1 h2
      cases h
      rw [zcode_val h1, zcodes_val h2]; rfl
    · cases h

structure TFact (P : Program) (t : Nat) (i : TI) (inf : TypeInfo) (d : TypeDesc) : Prop where
  info : P.info? t = some inf
  size : inf.size = i.size
  bytes : inf.bytes = i.bytes
  zero : ∃ z : Value, inf.zero = some z ∧ z.cells.toList = i.zero.map Zv.val
  zlen : i.zero.length = i.size
  und : P.underlying t = some d
  kind : kindOf d = i.kind

def TOk (P : Program) (T : TT) : Prop := ∀ t i, T.get t = some i → ∃ info d, TFact P t i info d

def tokB (P : Program) (t : Nat) (i : TI) : Bool :=
  match P.info? t, P.underlying t with
  | some info, some d => Nat.beq info.size i.size && Nat.beq info.bytes i.bytes && decide (kindOf d = i.kind) && Nat.beq i.zero.length i.size &&
    (match info.zero with
      | some z => decide (zcodes z.cells.toList = some i.zero)
      | none => false)
  | _, _ => false

theorem TOk.of {P : Program} {T : TT} (h : T.all (fun (t, i) => tokB P t i) = true) : TOk P T := by
  intro t i e
  induction T with
  | nil => cases e
  | cons x T ih =>
    obtain ⟨k, j⟩ := x
    simp only [List.all_cons, Bool.and_eq_true] at h
    unfold TT.get at e
    cases hk : Nat.beq k t with
    | true =>
      rw [hk] at e
      cases e
      have hkt : k = t := Nat.eq_of_beq_eq_true hk
      subst hkt
      have h1 := h.1
      unfold tokB at h1
      split at h1
      · rename_i info d e1 e2
        simp only [Bool.and_eq_true] at h1
        obtain ⟨⟨⟨⟨a, b⟩, c⟩, zl⟩, z⟩ := h1
        refine ⟨info, d, e1, Nat.eq_of_beq_eq_true a, Nat.eq_of_beq_eq_true b, ?_, Nat.eq_of_beq_eq_true zl, e2, of_decide_eq_true c⟩
        split at z
        · rename_i zz hz; exact ⟨zz, hz, zcodes_val (of_decide_eq_true z)⟩
        · cases z
      · cases h1
    | false => rw [hk] at e; exact ih h.2 e

/-! ### States -/
structure St where
  nt : Nat
  env : List (Nat × IV)
  h : List HO

def lk : List (Nat × IV) → Nat → IV
  | [], _ => .any
  | (k, v) :: r, i => bif Nat.beq k i then v else lk r i

def St.ev (s : St) : Operand → IV
  | .tmp t => lk s.env t
  | .const v => ofV v
  | .global _ => .any
  | .func f => .fn (.func f) [] []

def IV.str (l : List UInt8) : IV := .sc (.string ⟨⟨l⟩⟩)
abbrev IV.i64 (n : Int) : IV := .sc (.int .i64 n)

/-! ### Scalars -/
def ibits (op : BinOp) (k : IntKind) (x y : Int) : Int :=
  let a := BitVec.ofInt k.bits x
  let b := BitVec.ofInt k.bits y
  match op with
  | .and => k.wrap (a &&& b).toNat
  | .or => k.wrap (a ||| b).toNat
  | .xor => k.wrap (a ^^^ b).toNat
  | _ => k.wrap (a &&& ~~~b).toNat

def ibinInt (op : BinOp) (k : IntKind) (a b : Int) : List Prop × Value :=
  match op with
  | .add => ([], .int k (k.wrap (a + b)))
  | .sub => ([], .int k (k.wrap (a - b)))
  | .mul => ([], .int k (k.wrap (a * b)))
  | .quo => ([b ≠ 0], .int k (k.wrap (a.tdiv b)))
  | .rem => ([b ≠ 0], .int k (a.tmod b))
  | .and => ([], .int k (ibits .and k a b))
  | .or => ([], .int k (ibits .or k a b))
  | .xor => ([], .int k (ibits .xor k a b))
  | .andNot => ([], .int k (ibits .andNot k a b))
  | .eql => ([], .bool (a == b))
  | .neq => ([], .bool (a != b))
  | .lss => ([], .bool (decide (a < b)))
  | .leq => ([], .bool (decide (a ≤ b)))
  | .gtr => ([], .bool (decide (a > b)))
  | .geq => ([], .bool (decide (a ≥ b)))
  | _ => ([False], undef)

def ibinStr (op : BinOp) (a b : ByteArray) : List Prop × Value :=
  match op with
  | .add => ([a.data.toList.length + b.data.toList.length ≤ 9223372036854775807], .string ⟨⟨a.data.toList ++ b.data.toList⟩⟩)
  | .eql => ([], .bool (a.data.toList == b.data.toList))
  | .neq => ([], .bool (!(a.data.toList == b.data.toList)))
  | .lss => ([], .bool (Op.bytesLess a.data.toList b.data.toList))
  | .leq => ([], .bool (Op.bytesLess a.data.toList b.data.toList || a.data.toList == b.data.toList))
  | .gtr => ([], .bool (!(Op.bytesLess a.data.toList b.data.toList || a.data.toList == b.data.toList)))
  | .geq => ([], .bool (!Op.bytesLess a.data.toList b.data.toList))
  | _ => ([False], undef)

def ibin (T : TT) (op : BinOp) (t : Nat) (x y : IV) : Option (List Prop × IV) :=
  match x, y with
  | .sc (.int k a), .sc (.int k' b) =>
    match op with
    | .shl => some ([0 ≤ b], .sc (.int k (k.wrap (a * 2 ^ min b.toNat k.bits))))
    | .shr => some ([0 ≤ b], .sc (.int k (a.fdiv (2 ^ min b.toNat k.bits))))
    | _ => if k = k' then some ((ibinInt op k a b).1, .sc (ibinInt op k a b).2) else none
  | .sc (.string a), .sc (.string b) => some ((ibinStr op a b).1, .sc (ibinStr op a b).2)
  | .sc (.bool a), .sc (.bool b) =>
    match T.get t with
    | some ⟨_, _, _, .bool⟩ =>
      match op with
      | .eql => some ([], .sc (.bool (a == b)))
      | .neq => some ([], .sc (.bool (!(a == b))))
      | _ => none
    | _ => none
  | _, _ => none

def iun (op : UnOp) (x : IV) : Option IV :=
  match op, x with
  | .neg, .sc (.int k n) => some (.sc (.int k (k.wrap (0 - n))))
  | .xor, .sc (.int k n) => some (.sc (.int k (ibits .xor k (if k.signed then -1 else k.max) n)))
  | .not, .sc (.bool b) => some (.sc (.bool (!b)))
  | _, _ => none

def ipick (c : Bool) (a b : IV) : IV :=
  match a, b with
  | .sc (.bool true), .sc (.bool y) => .sc (.bool (c || y))
  | .sc (.bool x), .sc (.bool false) => .sc (.bool (c && x))
  | .sc (.bool x), .sc (.bool y) => .sc (.bool (bif c then x else y))
  | a, b => bif c then a else b

theorem R.ipick {F : Fix} {c : Bool} {a b : IV} {u v : Value} (h1 : R F a u) (h2 : R F b v) : R F (Idl.ipick c a b) (if c then u else v) := by
  unfold Idl.ipick
  split
  · cases h1; cases h2; cases c <;> simp <;> exact .sc _
  · cases h1; cases h2; cases c <;> simp <;> exact .sc _
  · cases h1; cases h2; cases c <;> simp <;> exact .sc _
  · cases c
    · exact h2
    · exact h1

/-! ### Parts -/
def isAggK : TK → Bool
  | .strct _ | .arr .. => true
  | _ => false

def ipart (T : TT) (t : Nat) (cs : List IV) (off : Nat) : Option (List Prop × IV) :=
  match T.get t with
  | some i => if isAggK i.kind then some ([off + i.size ≤ cs.length], .agg ((cs.drop off).take i.size)) else some ([off < cs.length], cs.getD off .any)
  | none => none

def ifield (T : TT) (s f : Nat) : Option (Nat × Nat) :=
  match T.get s with
  | some ⟨_, _, _, .strct fs⟩ => fs[f]?
  | _ => none

end Go.Idl
