/-
  Ideal states: what one operation does.
-/
import Derived.Test.YtmgcoopmbohkoaaIdlE
namespace Go.Idl
open Go

def iload (T : TT) (h : List HO) (t : Nat) (a : IV) : Option (List Prop × IV) :=
  match a with
  | .ptr n off =>
    match hcells h n with
    | some cs => ipart T t cs off
    | none => none
  | .fp _ cs off => ipart T t cs off
  | _ => none

def istore (T : TT) (h : List HO) (t : Nat) (a x : IV) : Option (List Prop × List HO) :=
  match a with
  | .ptr n off =>
    match hcells h n, T.get t, x with
    | some cs, some i, .agg ds =>
      if isAggK i.kind then some ([ds.length = i.size, off + ds.length ≤ cs.length, IV.ones ds = true, hclosed h n ds = true], hset h n (splice cs off ds)) else none
    | some cs, some i, x =>
      if isAggK i.kind then none else if x.one && hclosed h n [x] then some ([i.size = 1, off < cs.length], hset h n (cs.set off x)) else none
    | _, _, _ => none
  | _ => none

def ifill (place : Nat → Option (Nat × Nat)) : List IV → List (Nat × IV) → Option (List Prop × List IV)
  | cs, [] => some ([], cs)
  | cs, (i, v) :: r =>
    match place i, v with
    | some (off, sz), .agg ds =>
      match ifill place (splice cs off ds) r with
      | some (p, out) => some ((ds.length = sz) :: (off + ds.length ≤ cs.length) :: p, out)
      | none => none
    | some _, .any => none
    | some _, .tup _ => none
    | some (off, sz), v =>
      if Nat.beq sz 1 && v.one then
        match ifill place (cs.set off v) r with
        | some (p, out) => some ((off < cs.length) :: p, out)
        | none => none
      else none
    | _, _ => none

def zerosOf (i : TI) : List IV := i.zero.map fun z => .sc z.val
def zrep : Nat → List IV → List IV
  | n, [z] => List.replicate n z
  | n, zs => (List.replicate n zs).flatten

def szT (T : TT) (t : Nat) : Nat := match T.get t with | some i => i.size | none => 0
def knownL (T : TT) : List (Nat × Nat) → Bool
  | [] => true
  | (_, t) :: r => (T.get t).isSome && knownL T r

def ibuild (T : TT) (t : Nat) (parts : List (Nat × IV)) : Option (List Prop × IV) :=
  match T.get t with
  | some ⟨_, _, z, .strct fs⟩ =>
    if knownL T fs then
      match ifill (fun i => (fs.map fun x => (x.1, szT T x.2))[i]?) (z.map fun z => .sc z.val) parts with
      | some (p, cs) => some (p, .agg cs)
      | none => none
    else none
  | some ⟨_, _, z, .arr _ e⟩ =>
    match T.get e with
    | some ti => match ifill (fun i => some (i * ti.size, ti.size)) (z.map fun z => .sc z.val) parts with
      | some (p, cs) => some (p, .agg cs)
      | none => none
    | none => none
  | _ => none

def newHO (cs : List IV) : HO := bif IV.closedL cs then .arr true cs else .box cs

def ibuildSlice (T : TT) (h : List HO) (t len : Nat) (parts : List (Nat × IV)) : Option (List Prop × IV × List HO) :=
  match T.get t with
  | some ⟨_, _, _, .slc e⟩ =>
    match T.get e with
    | some ti =>
      match ifill (fun i => some (i * ti.size, ti.size)) (zrep len (zerosOf ti)) parts with
      | some (p, cs) => if Nat.ble (len * ti.size) 16777216 then some (p, .sl h.length 0 len len ti.size, h ++ [newHO cs]) else none
      | none => none
    | none => none
  | _ => none

def iindexAddr (T : TT) (t : Nat) (x ix : IV) : Option (List Prop × IV) :=
  match ix with
  | .sc (.int _ i) =>
    match T.get t with
    | some ⟨_, _, _, .arr len e⟩ =>
      match T.get e, x with
      | some ti, .ptr n off => some ([0 ≤ i, i < len], .ptr n (off + i.toNat * ti.size))
      | some ti, .fp b cs off => some ([0 ≤ i, i < len], .fp b cs (off + i.toNat * ti.size))
      | _, _ => none
    | some ⟨_, _, _, .slc e⟩ =>
      match T.get e, x with
      | some ti, .sl n off len _ esz => if Nat.beq esz ti.size then some ([0 ≤ i, i < len], .ptr n (off + i.toNat * esz)) else none
      | some ti, .fz b cs len => some ([0 ≤ i, i < len], .fp b cs (i.toNat * ti.size))
      | _, _ => none
    | _ => none
  | _ => none

def iindex (T : TT) (t : Nat) (x ix : IV) : Option (List Prop × IV) :=
  match ix with
  | .sc (.int _ i) =>
    match T.get t, x with
    | some ⟨_, _, _, .arr len e⟩, .agg cs =>
      match T.get e with
      | some ti => match ipart T e cs (i.toNat * ti.size) with
        | some (p, v) => some ((0 ≤ i) :: (i < len) :: p, v)
        | none => none
      | none => none
    | some ⟨_, _, _, .str⟩, .sc (.string s) => some ([0 ≤ i, i < s.data.toList.length], .sc (.int .u8 (s.data.toList.getD i.toNat 0).toNat))
    | _, _ => none
  | _ => none

def ibound : Option IV → Option (Option Int)
  | none => some none
  | some (.sc (.int _ i)) => some (some i)
  | _ => none

def lowCut {α : Type} (lo : Option Int) (k : Nat) (l : List α) : List α := match lo with | none => l | some i => l.drop (i.toNat * k)
def lowN (lo : Option Int) : Nat := match lo with | none => 0 | some i => i.toNat

def plo (lo : Option Int) (top : Int) : List Prop := match lo with | none => [] | some l => [0 ≤ l, l ≤ top]
def plo3 (lo : Option Int) (top : Int) (p : Prop) : List Prop := match lo with | none => [] | some l => [0 ≤ l, l ≤ top, p]

def islice (T : TT) (h : List HO) (t : Nat) (x : IV) (lo hi mx : Option IV) : Option (List Prop × IV) :=
  match ibound lo, ibound hi, ibound mx with
  | some lo, some hi, some mx =>
    match T.get t, x with
    | some ⟨_, _, _, .str⟩, .sc (.string s) =>
      match mx, hi with
      | none, none => some (plo lo s.data.toList.length, .sc (.string ⟨⟨lowCut lo 1 s.data.toList⟩⟩))
      | none, some i => some ((0 ≤ i) :: (i ≤ s.data.toList.length) :: plo lo i, .sc (.string ⟨⟨lowCut lo 1 (s.data.toList.take i.toNat)⟩⟩))
      | _, _ => none
    | some ⟨_, _, _, .slc e⟩, .sl n off len cap esz =>
      match T.get e with
      | some ti =>
        if Nat.beq esz ti.size then
          match hi, mx with
          | none, none => some (plo lo len, .sl n (off + lowN lo * esz) (len - lowN lo) (cap - lowN lo) esz)
          | some i, none => some ((0 ≤ i) :: (i ≤ cap) :: plo lo i, .sl n (off + lowN lo * esz) (i.toNat - lowN lo) (cap - lowN lo) esz)
          | some i, some m => some ((0 ≤ m) :: (m ≤ cap) :: (0 ≤ i) :: (i ≤ m) :: plo lo i, .sl n (off + lowN lo * esz) (i.toNat - lowN lo) (m.toNat - lowN lo) esz)
          | _, _ => none
        else none
      | none => none
    | some ⟨_, _, _, .slc e⟩, .fz b cs len =>
      match T.get e with
      | some ti =>
        match hi, mx with
        | none, none => some (plo3 lo len (cs.length ≤ len * ti.size), .fz b (lowCut lo ti.size cs) (len - lowN lo))
        | some i, none => some ((0 ≤ i) :: (i ≤ len) :: plo lo i, .fz b (lowCut lo ti.size (cs.take (i.toNat * ti.size))) (i.toNat - lowN lo))
        | some i, some m => some ((0 ≤ m) :: (m ≤ len) :: (0 ≤ i) :: (i ≤ m) :: plo lo i, .fz b (lowCut lo ti.size (cs.take (i.toNat * ti.size))) (i.toNat - lowN lo))
        | _, _ => none
      | none => none
    | some ⟨_, _, _, .slc e⟩, .sc (.slice none 0 0) =>
      match T.get e, hi, mx with
      | some _, none, none => some (plo lo 0, .sc (.slice none 0 0))
      | some _, some i, none => some ((i = 0) :: plo lo i, .sc (.slice none 0 0))
      | some _, some i, some m => some ((m = 0) :: (i = 0) :: plo lo i, .sc (.slice none 0 0))
      | _, _, _ => none
    | some ⟨_, _, _, .arr n e⟩, .ptr nm off =>
      match T.get e, hcells h nm with
      | some ti, some cs =>
        match hi, mx with
        | none, none => some ((off + n * ti.size ≤ cs.length) :: plo lo n, .sl nm (off + lowN lo * ti.size) (n - lowN lo) (n - lowN lo) ti.size)
        | some i, none => some ((off + n * ti.size ≤ cs.length) :: (0 ≤ i) :: (i ≤ n) :: plo lo i, .sl nm (off + lowN lo * ti.size) (i.toNat - lowN lo) (n - lowN lo) ti.size)
        | _, _ => none
      | _, _ => none
    | _, _ => none
  | _, _, _ => none

def iconvert (T : TT) (h : List HO) (src dst : Nat) (x : IV) : Option (List Prop × IV × List HO) :=
  match T.get src, T.get dst, x with
  | some _, some ⟨_, _, _, .int k⟩, .sc (.int _ n) => some ([], .sc (.int k (k.wrap n)), h)
  | some _, some ⟨_, _, _, .str⟩, .sc (.string s) => some ([], .sc (.string s), h)
  | some _, some ⟨_, _, _, .slc e⟩, .sc (.string s) =>
    match T.get e with
    | some ⟨_, _, _, .int .u8⟩ => some ([], .sl h.length 0 s.data.toList.length s.data.toList.length 1, h ++ [.arr true (s.data.toList.map fun b => .sc (.int .u8 b.toNat))])
    | _ => none
  | _, _, _ => none

def iof (T : TT) (b : Builtin) (types : List Nat) (args : List IV) : Option IV :=
  match b, types, args with
  | .len, [t], [x] =>
    match T.get t, x with
    | some ⟨_, _, _, .str⟩, .sc (.string s) => some (.sc (.int .i64 s.data.toList.length))
    | some ⟨_, _, _, .arr n _⟩, _ => some (.sc (.int .i64 n))
    | some ⟨_, _, _, .slc _⟩, .sl _ _ len _ _ => some (.sc (.int .i64 len))
    | some ⟨_, _, _, .slc _⟩, .fz _ _ len => some (.sc (.int .i64 len))
    | some ⟨_, _, _, .slc _⟩, .sc (.slice _ n _) => some (.sc (.int .i64 n))
    | _, _ => none
  | .min, _, [.sc (.int k x), .sc (.int _ y)] => some (.sc (.int k (if y < x then y else x)))
  | .max, _, [.sc (.int k x), .sc (.int _ y)] => some (.sc (.int k (if y > x then y else x)))
  | _, _, _ => none

end Go.Idl
