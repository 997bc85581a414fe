/- The abstract machine, part B: what each operation does to abstract values and the heap of blocks. -/
import Derived.Test.YteaeobmbfhaklaaAmA
namespace Go.AM

/-! ### small programs over the heap of blocks -/
inductive HM (α : Type) where
  | ret (a : α)
  | fail
  | look (b : Nat) (k : Option Blk → HM α)
  | put (b : Nat) (x : Blk) (k : HM α)

def HM.run {α : Type} : HM α → Heap → Option (α × Heap)
  | .ret a, h => some (a, h)
  | .fail, _ => none
  | .look b k, h => (k (h.get b)).run h
  | .put b x k, h => bif Nat.blt b lim then k.run (h.set b x) else none

def HM.bind {α β : Type} : HM α → (α → HM β) → HM β
  | .ret a, f => f a
  | .fail, _ => .fail
  | .look b k, f => .look b fun x => (k x).bind f
  | .put b x k, f => .put b x (k.bind f)

def HM.opt {α : Type} : Option α → HM α
  | some a => .ret a
  | none => .fail

/-- The cells of block b, if it is alive in generation g. -/
def HM.cells {α : Type} (b g : Nat) (k : List AV → HM α) : HM α :=
  .look b fun x => match x with
    | some (.cells g' cs) => bif Nat.beq g' g then k cs else .fail
    | _ => .fail

/-- Where a new block goes: a number of its own, or the number of the place in the text (the block before it there is forgotten). -/
inductive Site where
  | dyn
  | st (b : Nat)

def HM.new {α : Type} (s : Site) (i : Nat) (x : Nat → Blk) (k : Nat → Nat → HM α) : HM α :=
  match s with
  | .dyn => .look i fun y => match y with
    | none => .put i (x 0) (k i 0)
    | some _ => .fail
  | .st b => .look b fun y => match y with
    | none => .put b (x 0) (k b 0)
    | some z => .put b (x (z.gen + 1)) (k b (z.gen + 1))

/-! ### values -/
/-- A value that fits one cell. -/
def AV.one : AV → Bool
  | .any | .agg _ | .tup _ => false
  | _ => true

/-- A value whose cells are known to be its cells. -/
def AV.boxable : AV → Bool
  | .any | .tup _ => false
  | _ => true

def AV.cells : AV → List AV
  | .agg cs => cs
  | v => [v]

/-- The values of cells off, off + 1 .. replaced. -/
def putR (cs : List AV) (off : Nat) (vs : List AV) : List AV :=
  match vs with
  | [v] => cs.set off v
  | _ => cs.take off ++ vs ++ cs.drop (off + vs.length)

def lo : IntKind → Int
  | .i8 => -128 | .i16 => -32768 | .i32 => -2147483648 | .i64 => -9223372036854775808
  | .u8 | .u16 | .u32 | .u64 => 0
def hi : IntKind → Int
  | .i8 => 127 | .i16 => 32767 | .i32 => 2147483647 | .i64 => 9223372036854775807
  | .u8 => 255 | .u16 => 65535 | .u32 => 4294967295 | .u64 => 18446744073709551615
/-- The number as its kind holds it. -/
def wr (k : IntKind) (n : Int) : Int := if lo k ≤ n ∧ n ≤ hi k then n else k.wrap n

theorem wr_of {k : IntKind} {n : Int} (h1 : lo k ≤ n) (h2 : n ≤ hi k) : wr k n = n := if_pos ⟨h1, h2⟩

theorem wr_eq (k : IntKind) (n : Int) : wr k n = k.wrap n := by
  unfold wr
  split
  · rename_i h
    obtain ⟨h1, h2⟩ := h
    cases k <;> simp only [lo, hi] at h1 h2 <;> simp only [IntKind.wrap, IntKind.bits, IntKind.signed, Bool.true_and, Bool.false_and] <;> (repeat' split) <;> simp_all <;> omega
  · rfl

/-! ### operands -/
inductive Opd where
  | t (i : Nat)
  | c (v : AV)
  | f (n : Nat)
  | g (n : Nat)
  deriving Inhabited

abbrev Tmps := List (Nat × AV)

def lk : Tmps → Nat → AV
  | [], _ => .any
  | (j, v) :: r, i => bif Nat.beq j i then v else lk r i

def up : Tmps → Nat → AV → Tmps
  | [], i, v => [(i, v)]
  | (j, u) :: r, i, v => bif Nat.beq j i then (j, v) :: r else (j, u) :: up r i v

def rm : Tmps → List Nat → Tmps
  | [], _ => []
  | (j, u) :: r, l => bif l.any (Nat.beq j) then rm r l else (j, u) :: rm r l

def ev (T : Tmps) : Opd → AV
  | .t i => lk T i
  | .c v => v
  | .f n => .fn n [] []
  | .g _ => .any

/-! ### the operations -/
def aBin (op : BinOp) (x y : AV) : Option AV :=
  match x, y with
  | .int k a, .int k' b =>
    match op with
    | .shl => if b < 0 then none else some (.int k (wr k (a * 2 ^ (min b.toNat k.bits))))
    | .shr => if b < 0 then none else some (.int k (a.fdiv (2 ^ (min b.toNat k.bits))))
    | _ =>
      if k = k' then
        match op with
        | .add => some (.int k (wr k (a + b)))
        | .sub => some (.int k (wr k (a - b)))
        | .mul => some (.int k (wr k (a * b)))
        | .quo => if b = 0 then none else some (.int k (wr k (a.tdiv b)))
        | .rem => if b = 0 then none else some (.int k (a.tmod b))
        | .and => some (.int k (wr k (BitVec.ofInt k.bits a &&& BitVec.ofInt k.bits b).toNat))
        | .or => some (.int k (wr k (BitVec.ofInt k.bits a ||| BitVec.ofInt k.bits b).toNat))
        | .xor => some (.int k (wr k (BitVec.ofInt k.bits a ^^^ BitVec.ofInt k.bits b).toNat))
        | .andNot => some (.int k (wr k (BitVec.ofInt k.bits a &&& ~~~BitVec.ofInt k.bits b).toNat))
        | .eql => some (.bool (decide (a = b)))
        | .neq => some (.bool (!decide (a = b)))
        | .lss => some (.bool (decide (a < b)))
        | .leq => some (.bool (decide (a ≤ b)))
        | .gtr => some (.bool (decide (b < a)))
        | .geq => some (.bool (decide (b ≤ a)))
        | _ => none
      else none
  | .str a, .str b =>
    match op with
    | .add => if a.length + b.length ≤ 1099511627776 then some (.str (a ++ b)) else none
    | .eql => some (.bool (decide (a = b)))
    | .neq => some (.bool (!decide (a = b)))
    | .lss => some (.bool (Op.bytesLess a b))
    | .leq => some (.bool (Op.bytesLess a b || decide (a = b)))
    | .gtr => some (.bool (!(Op.bytesLess a b || decide (a = b))))
    | .geq => some (.bool (!Op.bytesLess a b))
    | _ => none
  | _, _ => none

def aUn (op : UnOp) (x : AV) : Option AV :=
  match op, x with
  | .neg, .int k n => some (.int k (wr k (0 - n)))
  | .xor, .int k n => some (.int k (wr k (BitVec.ofInt k.bits (if k.signed then -1 else hi k) ^^^ BitVec.ofInt k.bits n).toNat))
  | .not, .bool b => some (.bool (!b))
  | _, _ => none

/-- The kinds of cells that are compared one by one. -/
inductive LK where
  | b | i | s

def eqCell : LK → AV → AV → Option Bool
  | .i, .int k a, .int k' b => if k = k' then some (decide (a = b)) else none
  | .b, .bool a, .bool b => some (decide (a = b))
  | .s, .str a, .str b => some (decide (a = b))
  | _, _, _ => none

def eqCells : List LK → List AV → List AV → Option Bool
  | [], [], [] => some true
  | k :: ks, x :: xs, y :: ys => match eqCell k x y, eqCells ks xs ys with
    | some a, some b => some (a && b)
    | _, _ => none
  | _, _, _ => none

/-- How two values are compared: cell by cell; or one of them is nil. -/
inductive EqK where
  | flat (row : Bool) (ks : List LK)
  | nil (kind : Nat)

/-- Is it nil, and of which kind: 1 a pointer, 2 a slice, 3 a map, 4 a function, 5 an interface value. -/
def isNil : AV → Option (Bool × Nat)
  | .nilptr => some (true, 1)
  | .ptr .. | .fptr _ => some (false, 1)
  | .nilsl => some (true, 2)
  | .fsl cs _ _ => match cs with | [] => none | _ :: _ => some (false, 2)
  | .sl _ _ _ len _ => match len with | 0 => none | _ + 1 => some (false, 2)
  | .nilmap => some (true, 3)
  | .map .. => some (false, 3)
  | .nilfn => some (true, 4)
  | .fn .. => some (false, 4)
  | .nilif => some (true, 5)
  | .ifc .. => some (false, 5)
  | _ => none

def aEq (k : EqK) (neg : Bool) (x y : AV) : Option AV :=
  match k with
  | .flat row ks => match row, x, y with
    | true, .agg xs, .agg ys => match eqCells ks xs ys with
      | some b => some (.bool (b != neg))
      | none => none
    | false, .bool a, .bool b => some (.bool (decide (a = b) != neg))
    | _, _, _ => none
  | .nil kind => match isNil x, isNil y with
    | some (b, k1), some (true, k2) => if k1 = kind ∧ k2 = kind then some (.bool (b != neg)) else none
    | _, _ => none

def aLoad (n : Option Nat) (x : AV) : HM AV :=
  match x with
  | .ptr b g off => .cells b g fun cs => match n with
    | none => .opt cs[off]?
    | some n => if off + n ≤ cs.length then .ret (.agg ((cs.drop off).take n)) else .fail
  | .fptr cs => match n with
    | none => .opt cs.head?
    | some n => if n ≤ cs.length then .ret (.agg (cs.take n)) else .fail
  | _ => .fail

def aStore (n : Nat) (x v : AV) : HM AV :=
  match x with
  | .ptr b g off => .cells b g fun cs =>
    if v.cells.length = n ∧ off + n ≤ cs.length ∧ v.cells.all AV.one = true then .put b (.cells g (putR cs off v.cells)) (.ret .any) else .fail
  | _ => .fail

def fillA (cs : List AV) : List (Nat × Nat × AV) → Option (List AV)
  | [] => some cs
  | (off, size, v) :: r => if v.cells.length = size ∧ off + size ≤ cs.length ∧ v.boxable = true then fillA (putR cs off v.cells) r else none

def aBox (s : Site) (i : Nat) (x : AV) : HM AV :=
  if x.boxable then .new s i (fun g => .cells g x.cells) fun b g => .ret (.ptr b g 0) else .fail

def aBuild (zero : List AV) (parts : List (Nat × Nat × AV)) : Option AV :=
  match fillA zero parts with
  | some cs => some (.agg cs)
  | none => none

/-- A slice literal: frozen at once, or a row of the call's own. -/
def aBuildSlice (frozen : Bool) (s : Site) (i : Nat) (sz len : Nat) (zero : List AV) (parts : List (Nat × Nat × AV)) : HM AV :=
  match fillA zero parts with
  | some cs => if cs.length = len * sz then
      (if frozen then (if cs.all AV.one = true then .ret (.fsl cs len sz) else .fail) else .new s i (fun g => .cells g cs) fun b g => .ret (.sl b g 0 len sz))
    else .fail
  | none => .fail

/-- A bound of a slice expression; d where there is none. -/
def bnd (d : Int) : Option AV → Option Int
  | none => some d
  | some (.int _ n) => some n
  | some _ => none

def aSlice (x : AV) (l h m : Option AV) : Option AV :=
  match bnd 0 l with
  | none => none
  | some lw =>
    match m with
    | some (.int _ mx) =>
      -- only x[0:0:0]
      match h with
      | some (.int _ hh) => if lw = 0 ∧ hh = 0 ∧ mx = 0 then (match x with | .sl .. | .fsl .. | .nilsl | .esl => some .esl | _ => none) else none
      | _ => none
    | some _ => none
    | none =>
      match x with
      | .sl b g off len sz =>
        match bnd len h with
        | none => none
        | some hh => if 0 ≤ lw ∧ lw ≤ hh ∧ hh ≤ len ∧ (0 < len ∨ 0 < off + 1) then some (.sl b g (off + lw.toNat * sz) (hh.toNat - lw.toNat) sz) else none
      | .fsl cs len sz =>
        match bnd len h with
        | none => none
        | some hh => if 0 ≤ lw ∧ lw ≤ hh ∧ hh ≤ len then some (.fsl ((cs.drop (lw.toNat * sz)).take ((hh.toNat - lw.toNat) * sz)) (hh.toNat - lw.toNat) sz) else none
      | .nilsl =>
        match bnd 0 h with
        | none => none
        | some hh => if lw = 0 ∧ hh = 0 then some .nilsl else none
      | .esl =>
        match bnd 0 h with
        | none => none
        | some hh => if lw = 0 ∧ hh = 0 then some .esl else none
      | .str s =>
        match bnd s.length h with
        | none => none
        | some hh => if 0 ≤ lw ∧ lw ≤ hh ∧ hh ≤ s.length then some (.str ((s.drop lw.toNat).take (hh.toNat - lw.toNat))) else none
      | _ => none

def aField (n : Option Nat) (off : Nat) (x : AV) : Option AV :=
  match x with
  | .agg cs => match n with
    | none => cs[off]?
    | some n => if off + n ≤ cs.length then some (.agg ((cs.drop off).take n)) else none
  | _ => none

def aFAddr (off : Nat) (x : AV) : Option AV :=
  match x with
  | .ptr b g o => some (.ptr b g (o + off))
  | .fptr cs => some (.fptr (cs.drop off))
  | _ => none

/-- The address of an element: of a slice (none) or of an array with so many. -/
def aIAddr (arr : Option Nat) (sz : Nat) (x i : AV) : Option AV :=
  match i with
  | .int _ i =>
    match arr, x with
    | none, .sl b g off len s => if 0 ≤ i ∧ i < len ∧ s = sz then some (.ptr b g (off + i.toNat * sz)) else none
    | none, .fsl cs len s => if 0 ≤ i ∧ i < len ∧ s = sz then some (.fptr (cs.drop (i.toNat * sz))) else none
    | some n, .ptr b g o => if 0 ≤ i ∧ i < n then some (.ptr b g (o + i.toNat * sz)) else none
    | some n, .fptr cs => if 0 ≤ i ∧ i < n then some (.fptr (cs.drop (i.toNat * sz))) else none
    | _, _ => none
  | _ => none

/-- The element of an array that is a value (of n elements, each one of so many cells, 'some' where it is a row itself), or of a string. -/
def aIndex (arr : Option (Nat × Nat × Bool)) (x i : AV) : Option AV :=
  match i with
  | .int _ i =>
    match arr, x with
    | some (n, sz, row), .agg cs => if 0 ≤ i ∧ i < n then
        (if row then (if i.toNat * sz + sz ≤ cs.length then some (.agg ((cs.drop (i.toNat * sz)).take sz)) else none) else cs[i.toNat * sz]?) else none
    | none, .str s => if 0 ≤ i then (match s[i.toNat]? with | some b => some (.int .u8 b.toNat) | none => none) else none
    | _, _ => none
  | _ => none

def aLen (x : AV) : HM AV :=
  match x with
  | .str s => .ret (.int .i64 s.length)
  | .sl _ _ _ len _ => .ret (.int .i64 len)
  | .fsl _ len _ => .ret (.int .i64 len)
  | .nilsl | .esl | .nilmap => .ret (.int .i64 0)
  | .map b g => .look b fun y => match y with
    | some (.map g' es) => bif Nat.beq g' g then .ret (.int .i64 es.length) else .fail
    | _ => .fail
  | _ => .fail

/-- The cells of a source of append or copy, and how many elements. -/
def aSrc (sz : Nat) (x : AV) (k : List AV → Nat → HM AV) : HM AV :=
  match x with
  | .sl b g off len s => if s = sz then .cells b g fun cs => if off + len * sz ≤ cs.length then k ((cs.drop off).take (len * sz)) len else .fail else .fail
  | .fsl cs len s => if s = sz then k cs len else .fail
  | .nilsl | .esl => k [] 0
  | .str s => if sz = 1 then k (s.map fun b => .int .u8 b.toNat) s.length else .fail
  | _ => .fail

/-- The length of a slice of the call's own. -/
def slLen : AV → Nat
  | .sl _ _ _ len _ => len
  | _ => 0

def aAppend (s : Site) (i : Nat) (sz bytes : Nat) (x y : AV) : HM AV :=
  aSrc sz y fun ys n =>
    if (slLen x + n) * bytes ≤ 1099511627776 ∧ slLen x + n ≤ 1099511627776 ∧ ys.all AV.one = true then
      match x with
      | .nilsl => match n with
        | 0 => .ret .nilsl
        | n + 1 => .new s i (fun g => .cells g ys) fun b g => .ret (.sl b g 0 (n + 1) sz)
      | .esl => match n with
        | 0 => .ret .esl
        | n + 1 => .new s i (fun g => .cells g ys) fun b g => .ret (.sl b g 0 (n + 1) sz)
      | .fsl cs len s' => match n with
        | 0 => .ret (.fsl cs len s')
        | _ + 1 => .fail
      | .sl b g off len s' =>
        if s' = sz then
          .cells b g fun cs => if off + len * sz ≤ cs.length then
            .put b (.cells (g + 1) ((cs.drop off).take (len * sz) ++ ys)) (.ret (.sl b (g + 1) 0 (len + n) sz))
          else .fail
        else .fail
      | _ => .fail
    else .fail

def aMakeSlice (s : Site) (i : Nat) (sz bytes : Nat) (zero : List AV) (l c : AV) : HM AV :=
  match l, c with
  | .int _ l, .int _ c => if 0 ≤ l ∧ l ≤ c ∧ bytes * c ≤ 1099511627776 ∧ c ≤ 1099511627776 then
      .new s i (fun g => .cells g (List.replicate c.toNat zero).flatten) fun b g => .ret (.sl b g 0 l.toNat sz)
    else .fail
  | _, _ => .fail

def aExtract (i : Nat) (x : AV) : Option AV :=
  match x with
  | .tup vs => vs[i]?
  | _ => none

end Go.AM
