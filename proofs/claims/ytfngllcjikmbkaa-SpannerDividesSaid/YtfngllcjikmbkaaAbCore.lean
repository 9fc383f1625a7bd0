/-
  Ab: an abstract, deterministic machine for the translated program. It fixes no order of evaluation, knows no tape and no addresses: a slice that nobody writes is a value with its contents; memory that a call itself makes lies in rows with fixed numbers ('sites'); a callee only reads the rows of its callers. Definitions alone; that the model's every run is told by it: AbSound.
-/
import Derived.WalkKit
import Derived.Scope
import Derived.LoopN
import Derived.Orders
namespace Go.Ab
open Go

/-- What is known of a slice that is held as a value: nothing; its capacity is its length; (a call's result) it is in memory that the call has made. -/
inductive SK where
  | any | full | own
  deriving DecidableEq

inductive V where
  | bool (b : Bool)
  | int (k : IntKind) (n : Int)
  | str (s : ByteArray)
  | nilptr
  | ptr (d s ver i off : Nat)
  | eptr (e : List V) (off : Nat)
  | nilsl
  | sl (k : SK) (sz : Nat) (els : List (List V))
  | ref (d s ver sz off len : Nat)
  | fn (f : FuncId) (caps : List V)
  | nilfn
  | agg (cs : List V)
  | tup (vs : List V)
  | undef
  | mp (d s ver : Nat)

abbrev V.i (n : Int) : V := .int .i64 n

structure Row where
  ver : Nat
  sz : Nat
  els : List (List V)

/-- What a map's keys are. -/
inductive MK where
  | int | str | bool
  deriving DecidableEq

inductive Arg where
  | t (i : Nat)
  | c (v : V)

inductive AOp where
  | mv (x : Arg)
  | pick (c a b : Arg)
  | bin (op : BinOp) (x y : Arg)
  | eqb (ne : Bool) (x y : Arg)
  | eqagg (lay : List Bool) (ne : Bool) (x y : Arg)
  | not (x : Arg)
  | neg (x : Arg)
  | conv (k : IntKind) (x : Arg)
  | alloc (site : Nat) (zero : List V)
  | box (site : Nat) (x : Arg)
  | build (zero : List V) (parts : List (Nat × Nat × Arg))
  | lit (sz : Nat) (zero : List V) (len : Nat) (parts : List (Nat × Nat × Arg))
  | load (isAgg : Bool) (n : Nat) (x : Arg)
  | store (n : Nat) (x v : Arg)
  | fieldAddr (off : Nat) (x : Arg)
  | elemAddr (sz : Nat) (x i : Arg)
  | arrAddr (len sz : Nat) (x i : Arg)
  | idx (len sz : Nat) (isAgg : Bool) (x i : Arg)
  | strIdx (x i : Arg)
  | sub (sz : Nat) (x : Arg) (lo hi mx : Option Arg)
  | strSub (x : Arg) (lo hi : Option Arg)
  | len (x : Arg)
  | slen (x : Arg)
  | app (site sz bytes : Nat) (x y : Arg)
  | ext (x : Arg) (i : Nat)
  | call (site : Nat) (f : Arg) (args : List Arg)
  | mkfn (f : FuncId) (caps : List Arg)
  | mks (site sz : Nat) (zero : List V) (bytes : Nat) (len cap : Arg)
  | mm (mx : Bool) (xs : List Arg)
  | nilck (x : Arg)
  | litf (sz : Nat) (zero : List V) (len : Nat) (parts : List (Nat × Nat × Arg))
  | callf (site : Nat) (f : Arg) (args : List Arg)
  | loadi (isAgg : Bool) (n : Nat) (x : Arg)
  | mkmap (site : Nat)
  | mget (k : MK) (ok : Bool) (zero : V) (x i : Arg)
  | mput (k : MK) (x i v : Arg)
  | mins (k : MK) (x i v : Arg)

structure AOper where
  dst : Option Nat
  op : AOp
  guard : Option (Nat × Bool)

inductive ACode where
  | skip
  | region (kills : List Nat) (ops : List AOper)
  | seq (a b : ACode)
  | cond (c : Arg) (thn els : ACode)
  | block (id : Nat) (body : ACode)
  | loop (body : ACode)
  | exit (id : Nat)
  | scope (body : ACode)
  | ret

inductive ARes where
  | tmp (t : Nat)
  | cell (t : Nat) (isAgg : Bool) (n : Nat)

structure AFunc where
  results : List ARes
  code : ACode

inductive AExit where
  | normal
  | exit (id : Nat)
  | ret

/-! ### Frames and rows -/

def get : List V → Nat → V
  | [], _ => .undef
  | v :: _, 0 => v
  | _ :: l, n + 1 => get l n

def set : List V → Nat → V → List V
  | [], 0, v => [v]
  | [], n + 1, v => .undef :: set [] n v
  | _ :: l, 0, v => v :: l
  | a :: l, n + 1, v => a :: set l n v

def rget : List Row → Nat → Row
  | [], _ => ⟨0, 0, []⟩
  | r :: _, 0 => r
  | _ :: l, n + 1 => rget l n

def rset : List Row → Nat → Row → List Row
  | [], 0, r => [r]
  | [], n + 1, r => ⟨0, 0, []⟩ :: rset [] n r
  | _ :: l, 0, r => r :: l
  | a :: l, n + 1, r => a :: rset l n r

theorem get_set (l : List V) (i j : Nat) (v : V) : get (set l i v) j = if i = j then v else get l j := by
  induction l generalizing i j with
  | nil =>
    induction i generalizing j with
    | zero => cases j <;> simp [set, get]
    | succ i ih => cases j <;> simp_all [set, get]
  | cons a l ih => cases i <;> cases j <;> simp_all [set, get]

theorem rget_rset (l : List Row) (i j : Nat) (r : Row) : rget (rset l i r) j = if i = j then r else rget l j := by
  induction l generalizing i j with
  | nil =>
    induction i generalizing j with
    | zero => cases j <;> simp [rset, rget]
    | succ i ih => cases j <;> simp_all [rset, rget]
  | cons a l ih => cases i <;> cases j <;> simp_all [rset, rget]

/-! ### Values -/

/-- A slice that is nil. -/
def V.isNilsl : V → Bool
  | .nilsl => true
  | _ => false

def V.cells : V → List V
  | .agg cs => cs
  | v => [v]

/-- A value of one cell, of which something is known. -/
def V.scalar : V → Bool
  | .agg _ | .tup _ | .undef => false
  | _ => true

/-- Nothing in it points to a row. -/
def V.pure : V → Bool
  | .bool _ | .int _ _ | .str _ | .nilptr | .nilsl | .nilfn => true
  | .sl k _ _ => k != .own
  | _ => false

/-- It points into memory that nobody writes, or nowhere. -/
def V.calm : V → Bool
  | .eptr _ _ => true
  | v => v.pure

mutual
/-- The value as a callee sees it, d calls further in. -/
def V.shift (d : Nat) : V → V
  | .ptr e s ver i off => .ptr (e + d) s ver i off
  | .ref e s ver sz off len => .ref (e + d) s ver sz off len
  | .mp e s ver => .mp (e + d) s ver
  | .fn f caps => .fn f (V.shifts d caps)
  | .agg cs => .agg (V.shifts d cs)
  | .tup vs => .tup (V.shifts d vs)
  | v => v
def V.shifts (d : Nat) : List V → List V
  | [] => []
  | v :: l => V.shift d v :: V.shifts d l
end

def asB : V → Option Bool
  | .bool b => some b
  | _ => none

def asI : V → Option Int
  | .int _ n => some n
  | _ => none

def ev (fr : List V) : Arg → V
  | .t i => get fr i
  | .c v => v

def evs (fr : List V) : List Arg → List V
  | [] => []
  | x :: l => ev fr x :: evs fr l

def intBin (op : BinOp) (k : IntKind) (x y : Int) : Option V :=
  match op with
  | .add => some (.int k (k.wrap (x + y)))
  | .sub => some (.int k (k.wrap (x - y)))
  | .mul => some (.int k (k.wrap (x * y)))
  | .quo => if y = 0 then none else some (.int k (k.wrap (x.tdiv y)))
  | .rem => if y = 0 then none else some (.int k (x.tmod y))
  | .and => some (.int k (k.wrap (BitVec.ofInt k.bits x &&& BitVec.ofInt k.bits y).toNat))
  | .eql => some (.bool (decide (x = y)))
  | .neq => some (.bool (!decide (x = y)))
  | .lss => some (.bool (decide (x < y)))
  | .leq => some (.bool (decide (x ≤ y)))
  | .gtr => some (.bool (decide (y < x)))
  | .geq => some (.bool (decide (y ≤ x)))
  | _ => none

def shiftBin (op : BinOp) (k : IntKind) (x y : Int) : Option V :=
  if y < 0 then none else
  match op with
  | .shl => some (.int k (k.wrap (x * 2 ^ min y.toNat k.bits)))
  | .shr => some (.int k (x.fdiv (2 ^ min y.toNat k.bits)))
  | _ => none

def strBin (op : BinOp) (x y : ByteArray) : Option V :=
  match op with
  | .add => if x.size + y.size ≤ 9223372036854775807 then some (.str (x ++ y)) else none
  | .eql => some (.bool (x.toList == y.toList))
  | .neq => some (.bool (!(x.toList == y.toList)))
  | _ => none

def binV (op : BinOp) : V → V → Option V
  | .int k x, .int k' y =>
    if op = .shl ∨ op = .shr then shiftBin op k x y
    else if k = k' then intBin op k x y else none
  | .str x, .str y => strBin op x y
  | _, _ => none

/-- Cell by cell, each a truth value or a number as the type says. -/
def eqCells : List Bool → List V → List V → Option Bool
  | [], [], [] => some true
  | true :: t, .bool x :: l, .bool y :: m => (eqCells t l m).map ((x == y) && ·)
  | false :: t, .int k x :: l, .int k' y :: m => if k = k' then (eqCells t l m).map (decide (x = y) && ·) else none
  | _, _, _ => none

def splice (cs : List V) (off : Nat) (p : List V) : List V := cs.take off ++ p ++ cs.drop (off + p.length)

def fillV (fr : List V) : List V → List (Nat × Nat × Arg) → Option (List V)
  | cs, [] => some cs
  | cs, (off, n, x) :: rest =>
    let p := (ev fr x).cells
    if p.length = n ∧ off + n ≤ cs.length ∧ p.all V.scalar then fillV fr (splice cs off p) rest else none

def fillW : List V → List (Nat × Nat × V) → Option (List V)
  | cs, [] => some cs
  | cs, (off, n, v) :: rest =>
    let p := v.cells
    if p.length = n ∧ off + n ≤ cs.length ∧ p.all V.scalar then fillW (splice cs off p) rest else none

/-- A slice in a row of one's own, given up: from now on it is a value that nobody writes. -/
def frzV (L : List Row) : V → Option (V × List Row)
  | .ref 0 s ver sz off len =>
    let r := rget L s
    if r.ver = ver ∧ 0 < ver ∧ off + len ≤ r.els.length ∧ r.els.all (fun e => e.all V.pure) then
      some (.sl .any sz ((r.els.drop off).take len), rset L s ⟨ver + 1, 0, []⟩) else none
  | v => some (v, L)

def frzL (L : List Row) : List V → Option (List V × List Row)
  | [] => some ([], L)
  | v :: l => (frzV L v).bind fun r => (frzL r.2 l).map fun q => (r.1 :: q.1, q.2)

/-- Within records, too. -/
def frzD (L : List Row) : V → Option (V × List Row)
  | .agg cs => (frzL L cs).map fun r => (.agg r.1, r.2)
  | v => frzV L v

def frzDs (L : List Row) : List V → Option (List V × List Row)
  | [] => some ([], L)
  | v :: l => (frzD L v).bind fun r => (frzDs r.2 l).map fun q => (r.1 :: q.1, q.2)

/-- What a function that is handed back has captured: a variable that nobody writes any more. -/
def frzPt (L : List Row) : V → Option (V × List Row)
  | .ptr 0 s ver i off =>
    let r := rget L s
    if r.ver = ver ∧ 0 < ver ∧ r.els.all (fun e => e.all V.pure) then
      (r.els[i]?).map fun e => (.eptr e off, rset L s ⟨ver + 1, 0, []⟩) else none
  | v => some (v, L)

def frzC (L : List Row) : List V → Option (List V × List Row)
  | [] => some ([], L)
  | v :: l => (frzPt L v).bind fun r => (frzC r.2 l).map fun q => (r.1 :: q.1, q.2)

/-- A result is given up. -/
def frzR (L : List Row) : V → Option (V × List Row)
  | .fn f caps => (frzC L caps).map fun r => (.fn f r.1, r.2)
  | v => frzD L v

def frzRs (L : List Row) : List V → Option (List V × List Row)
  | [] => some ([], L)
  | v :: l => (frzR L v).bind fun r => (frzRs r.2 l).map fun q => (r.1 :: q.1, q.2)

def frzP (L : List Row) (fr : List V) : List (Nat × Nat × Arg) → Option (List (Nat × Nat × V) × List Row)
  | [] => some ([], L)
  | (off, n, x) :: l => (frzD L (ev fr x)).bind fun r => (frzP r.2 fr l).map fun q => ((off, n, r.1) :: q.1, q.2)

def chop (sz : Nat) : Nat → List V → List (List V)
  | 0, _ => []
  | n + 1, cs => cs.take sz :: chop sz n (cs.drop sz)

/-- The row that a reference of depth d sees: out of the levels, the innermost first; its contents as they read from here. -/
def rowAt (M : List (List Row)) (d s : Nat) : Row := rget (M.getD d []) s

def pick3 (isAgg : Bool) (n : Nat) (e : List V) (off : Nat) : Option V :=
  if isAgg then (if off + n ≤ e.length then some (.agg ((e.drop off).take n)) else none)
  else e[off]?

def loadV (M : List (List Row)) (isAgg : Bool) (n : Nat) : V → Option V
  | .ptr d s ver i off =>
    let r := rowAt M d s
    if r.ver = ver ∧ 0 < ver then (r.els[i]?).bind fun e => (pick3 isAgg n e off).map (V.shift d) else none
  | .eptr e off => pick3 isAgg n e off
  | _ => none

/-- Read where nobody writes. -/
def loadiV (isAgg : Bool) (n : Nat) : V → Option V
  | .eptr e off => pick3 isAgg n e off
  | _ => none

def storeV (L : List Row) (n : Nat) : V → V → Option (List Row)
  | .ptr 0 s ver i off, v =>
    let r := rget L s
    let p := v.cells
    if r.ver = ver ∧ 0 < ver ∧ p.length = n ∧ p.all V.scalar then
      (r.els[i]?).bind fun e =>
        if off + n ≤ e.length then some (rset L s { r with els := r.els.set i (splice e off p) }) else none
    else none
  | _, _ => none

def addOff (k : Nat) : V → Option V
  | .ptr d s ver i off => some (.ptr d s ver i (off + k))
  | .eptr e off => some (.eptr e (off + k))
  | _ => none

def elemV (sz : Nat) : V → V → Option V
  | .sl k sz' els, .int _ n => if k ≠ .own ∧ sz' = sz ∧ 0 ≤ n then (els[n.toNat]?).map fun e => .eptr e 0 else none
  | .ref d s ver sz' off len, .int _ n => if sz' = sz ∧ 0 ≤ n ∧ n < len then some (.ptr d s ver (off + n.toNat) 0) else none
  | _, _ => none

def arrV (len sz : Nat) : V → V → Option V
  | .ptr d s ver j off, .int _ n => if 0 ≤ n ∧ n < len then some (.ptr d s ver j (off + n.toNat * sz)) else none
  | .eptr e off, .int _ n => if 0 ≤ n ∧ n < len then some (.eptr e (off + n.toNat * sz)) else none
  | _, _ => none

def idxV (len sz : Nat) (isAgg : Bool) : V → V → Option V
  | .agg cs, .int _ n => if 0 ≤ n ∧ n < len then pick3 isAgg sz cs (n.toNat * sz) else none
  | _, _ => none

def strIdxV : V → V → Option V
  | .str s, .int _ n => if 0 ≤ n then (s[n.toNat]?).map fun b => .int .u8 b.toNat else none
  | _, _ => none

/-- The bounds of a slice expression: lower, upper, and the third (the length where none is typed). -/
def bounds (len : Nat) (lo hi mx : Option V) : Option (Nat × Nat × Nat) :=
  let one (x : Option V) (dflt top : Nat) : Option Nat :=
    match x with
    | none => some dflt
    | some (.int _ n) => if 0 ≤ n ∧ n ≤ top then some n.toNat else none
    | some _ => none
  if mx.isSome ∧ hi.isNone then none else
  (one mx len len).bind fun m => (one hi len m).bind fun h => (one lo 0 h).map fun l => (l, h, m)

def subV (sz : Nat) (x : V) (lo hi mx : Option V) : Option V :=
  match x with
  | .nilsl => (bounds 0 lo hi mx).bind fun _ => if mx.isNone then some .nilsl else none
  | .sl k sz' els =>
    if k ≠ .own ∧ sz' = sz then
      (bounds els.length lo hi mx).map fun r =>
        .sl (if (mx.isSome ∧ r.2.2 = r.2.1) ∨ (mx.isNone ∧ k = .full ∧ r.2.1 = els.length) then .full else .any) sz ((els.take r.2.1).drop r.1)
    else none
  | .ref d s ver sz' off len =>
    if sz' = sz then (bounds len lo hi mx).map fun r => .ref d s ver sz (off + r.1) (r.2.1 - r.1) else none
  | _ => none

def strSubV (x : V) (lo hi : Option V) : Option V :=
  match x with
  | .str s => (bounds s.size lo hi none).map fun r => .str (s.extract r.1 r.2.1)
  | _ => none

def lenV : V → Option V
  | .nilsl => some (.i 0)
  | .sl k _ els => if k = .own then none else some (.i (els.length : Nat))
  | .ref _ _ _ _ _ len => some (.i (len : Nat))
  | _ => none

def strLenV : V → Option V
  | .str s => some (.i (s.size : Nat))
  | _ => none

/-- The elements of a slice. -/
def elsOf (M : List (List Row)) : V → Option (List (List V))
  | .nilsl => some []
  | .sl k _ els => if k = .own then none else some els
  | .ref d s ver _ off len =>
    let r := rowAt M d s
    if r.ver = ver ∧ 0 < ver ∧ off + len ≤ r.els.length then
      some ((((r.els.drop off).take len)).map (V.shifts d)) else none
  | _ => none

def roomy (bytes need : Nat) : Bool := need ≤ 4294967296 && bytes ≤ 16384

def appV (M : List (List Row)) (site sz bytes : Nat) (x y : V) : Option (V × List Row) :=
  let L := M.getD 0 []
  (elsOf M y).bind fun new =>
    match x with
    | .nilsl =>
      if new.isEmpty then some (.nilsl, L)
      else if roomy bytes new.length ∧ new.all (fun e => e.length = sz ∧ e.all V.scalar) then
        let r : Row := ⟨(rget L site).ver + 1, sz, new⟩
        some (.ref 0 site r.ver sz 0 new.length, rset L site r)
      else none
    | .sl .full _ els =>
      if new.isEmpty then some (x, L)
      else if roomy bytes (els.length + new.length) ∧ (els ++ new).all (fun e => e.length = sz ∧ e.all V.scalar) then
        let r : Row := ⟨(rget L site).ver + 1, sz, els ++ new⟩
        some (.ref 0 site r.ver sz 0 (els.length + new.length), rset L site r)
      else none
    | .ref 0 s ver sz' 0 len =>
      let r := rget L s
      if r.ver = ver ∧ 0 < ver ∧ len = r.els.length ∧ r.sz = sz ∧ sz' = sz ∧ roomy bytes (len + new.length) ∧ new.all (fun e => e.length = sz ∧ e.all V.scalar) then
        let r' : Row := ⟨ver + 1, sz, r.els ++ new⟩
        some (.ref 0 s r'.ver sz 0 (len + new.length), rset L s r')
      else none
    | _ => none

def mksV (L : List Row) (site sz : Nat) (zero : List V) (bytes : Nat) : V → V → Option (V × List Row)
  | .int .i64 l, .int .i64 c =>
    if 0 ≤ l ∧ l ≤ c ∧ c ≤ 4294967296 ∧ bytes ≤ 16384 ∧ zero.length = sz ∧ zero.all V.scalar then
      let r : Row := ⟨(rget L site).ver + 1, sz, List.replicate l.toNat zero⟩
      some (.ref 0 site r.ver sz 0 l.toNat, rset L site r)
    else none
  | _, _ => none

def mmV (mx : Bool) : V → List V → Option V
  | .int k x, [] => some (.int k x)
  | .int k x, .int k' y :: l =>
    if k = k' then mmV mx (.int k (if mx then (if y > x then y else x) else (if y < x then y else x))) l else none
  | _, _ => none

/-- A call's result, as it is kept: what lies in memory that the callee has made is from now on a value, or a row of the caller's own. -/
def settle : V → V
  | .sl .own sz els => .sl .any sz els
  | v => v

def takeIn (keep : Bool) (L : List Row) (site : Nat) : V → V × List Row
  | .sl .own sz els =>
    if keep then (.ref 0 site ((rget L site).ver + 1) sz 0 els.length, rset L site ⟨(rget L site).ver + 1, sz, els⟩)
    else (.sl .any sz els, L)
  | .tup (.sl .own sz els :: vs) =>
    if keep then (.tup (.ref 0 site ((rget L site).ver + 1) sz 0 els.length :: vs.map settle), rset L site ⟨(rget L site).ver + 1, sz, els⟩)
    else (.tup (.sl .any sz els :: vs.map settle), L)
  | .tup vs => (.tup (vs.map settle), L)
  | v => (v, L)

/-- Keys are alike. -/
def keyEq : MK → V → V → Option Bool
  | .int, .int k a, .int k' b => if k = k' then some (a == b) else none
  | .str, .str a, .str b => some (a == b)
  | .bool, .bool a, .bool b => some (a == b)
  | _, _, _ => none

def findV (m : MK) (k : V) : List (List V) → Nat → Option (Option (Nat × V))
  | [], _ => some none
  | [k', v] :: es, i =>
    match keyEq m k k', findV m k es (i + 1) with
    | some true, some none => some (some (i, v))
    | some false, r => r
    | _, _ => none
  | _ :: _, _ => none

def mgetV (M : List (List Row)) (m : MK) (ok : Bool) (zero : V) : V → V → Option V
  | .mp d s ver, k =>
    let r := rowAt M d s
    if r.ver = ver ∧ 0 < ver then
      (findV m k r.els 0).map fun x =>
        match x with
        | some (_, v) => if ok then .tup [v.shift d, .bool true] else v.shift d
        | none => if ok then .tup [zero, .bool false] else zero
    else none
  | _, _ => none

def mputV (L : List Row) (m : MK) : V → V → V → Option (List Row)
  | .mp 0 s ver, k, v =>
    let r := rget L s
    if r.ver = ver ∧ 0 < ver then
      (findV m k r.els 0).map fun x =>
        match x with
        | some (i, _) => rset L s { r with els := r.els.set i [k, v] }
        | none => rset L s { r with els := r.els ++ [[k, v]] }
    else none
  | _, _, _ => none

/-- A literal's entry: its key is new. -/
def minsV (L : List Row) (m : MK) : V → V → V → Option (List Row)
  | .mp 0 s ver, k, v =>
    let r := rget L s
    if r.ver = ver ∧ 0 < ver then
      match findV m k r.els 0 with
      | some none => some (rset L s { r with els := r.els ++ [[k, v]] })
      | _ => none
    else none
  | _, _, _ => none

abbrev CallF := FuncId → List V → List (List Row) → Option V

/-- Site 0 says: a call whose result is kept as a value. -/
def callV (cf : CallF) (H : List (List Row)) (L : List Row) (site : Nat) (f : V) (args : List V) : Option (V × List Row) :=
  match f with
  | .fn g caps => (cf g (V.shifts 1 (args ++ caps)) (L :: H)).map (takeIn (site != 0) L site)
  | _ => none

def one (L : List Row) (v : Option V) : Option (V × List Row) := v.map fun v => (v, L)

def evalOp (cf : CallF) (H : List (List Row)) (fr : List V) (L : List Row) : AOp → Option (V × List Row)
  | .mv x => some (ev fr x, L)
  | .pick c a b => (asB (ev fr c)).map fun t => (if t then ev fr a else ev fr b, L)
  | .bin op x y => one L (binV op (ev fr x) (ev fr y))
  | .eqb ne x y =>
    match ev fr x, ev fr y with
    | .bool a, .bool b => some (.bool (if ne then !(a == b) else (a == b)), L)
    | _, _ => none
  | .eqagg lay ne x y =>
    match ev fr x, ev fr y with
    | .agg a, .agg b => (eqCells lay a b).map fun r => (.bool (if ne then !r else r), L)
    | _, _ => none
  | .not x => (asB (ev fr x)).map fun b => (.bool (!b), L)
  | .neg x => match ev fr x with | .int k n => some (.int k (k.wrap (0 - n)), L) | _ => none
  | .conv k x => match ev fr x with | .int _ n => some (.int k (k.wrap n), L) | _ => none
  | .alloc site zero =>
    if zero.all V.scalar then
      let r : Row := ⟨(rget L site).ver + 1, zero.length, [zero]⟩
      some (.ptr 0 site r.ver 0 0, rset L site r)
    else none
  | .box site x =>
    let p := (ev fr x).cells
    if p.all V.scalar then
      let r : Row := ⟨(rget L site).ver + 1, p.length, [p]⟩
      some (.ptr 0 site r.ver 0 0, rset L site r)
    else none
  | .build zero parts => (fillV fr zero parts).map fun cs => (.agg cs, L)
  | .lit sz zero len parts =>
    (fillV fr ((List.replicate len zero).flatten) parts).bind fun cs =>
      if zero.length = sz ∧ 0 < sz ∧ cs.all V.pure then some (.sl .full sz (chop sz len cs), L) else none
  | .litf sz zero len parts =>
    (frzP L fr parts).bind fun q => (fillW ((List.replicate len zero).flatten) q.1).bind fun cs =>
      if zero.length = sz ∧ 0 < sz ∧ cs.all V.pure then some (.sl .full sz (chop sz len cs), q.2) else none
  | .load isAgg n x => one L (loadV (L :: H) isAgg n (ev fr x))
  | .loadi isAgg n x => one L (loadiV isAgg n (ev fr x))
  | .store n x v => (storeV L n (ev fr x) (ev fr v)).map fun L' => (.tup [], L')
  | .fieldAddr off x => one L (addOff off (ev fr x))
  | .elemAddr sz x i => one L (elemV sz (ev fr x) (ev fr i))
  | .arrAddr len sz x i => one L (arrV len sz (ev fr x) (ev fr i))
  | .idx len sz isAgg x i => one L (idxV len sz isAgg (ev fr x) (ev fr i))
  | .strIdx x i => one L (strIdxV (ev fr x) (ev fr i))
  | .sub sz x lo hi mx => one L (subV sz (ev fr x) (lo.map (ev fr)) (hi.map (ev fr)) (mx.map (ev fr)))
  | .strSub x lo hi => one L (strSubV (ev fr x) (lo.map (ev fr)) (hi.map (ev fr)))
  | .len x => one L (lenV (ev fr x))
  | .slen x => one L (strLenV (ev fr x))
  | .app site sz bytes x y => appV (L :: H) site sz bytes (ev fr x) (ev fr y)
  | .ext x i => match ev fr x with | .tup vs => (vs[i]?).map fun v => (v, L) | _ => none
  | .call site f args => callV cf H L site (ev fr f) (evs fr args)
  | .callf site f args => (frzDs L (evs fr args)).bind fun r => callV cf H r.2 site (ev fr f) r.1
  | .mkfn f caps => some (.fn f (evs fr caps), L)
  | .mks site sz zero bytes len cap => mksV L site sz zero bytes (ev fr len) (ev fr cap)
  | .mm mx xs =>
    match evs fr xs with
    | x :: l => one L (mmV mx x l)
    | [] => none
  | .nilck x =>
    match ev fr x with
    | .ptr d s ver i off => some (.ptr d s ver i off, L)
    | .eptr e off => some (.eptr e off, L)
    | _ => none
  | .mkmap site =>
    let r : Row := ⟨(rget L site).ver + 1, 0, []⟩
    some (.mp 0 site r.ver, rset L site r)
  | .mget m ok z x i => one L (mgetV (L :: H) m ok z (ev fr x) (ev fr i))
  | .mput m x i v => (mputV L m (ev fr x) (ev fr i) (ev fr v)).map fun L' => (.tup [], L')
  | .mins m x i v => (minsV L m (ev fr x) (ev fr i) (ev fr v)).map fun L' => (.tup [], L')

abbrev St := List V × List Row

def setDst (fr : List V) (dst : Option Nat) (v : V) : List V :=
  match dst with
  | some d => set fr d v
  | none => fr

/-- Is an operation carried out? Its guard's temporary must be known. -/
def wanted (fr : List V) : Option (Nat × Bool) → Option Bool
  | none => some true
  | some (d, w) =>
    match get fr d with
    | .bool b => some (b == w)
    | .tup [] => some false
    | _ => none

def evalOper (cf : CallF) (H : List (List Row)) (o : AOper) (st : St) : Option St :=
  (wanted st.1 o.guard).bind fun b =>
    if b then (evalOp cf H st.1 st.2 o.op).map fun r => (setDst st.1 o.dst r.1, r.2)
    else some (setDst st.1 o.dst (.tup []), st.2)

def evalOps (cf : CallF) (H : List (List Row)) : List AOper → St → Option St
  | [], st => some st
  | o :: os, st => (evalOper cf H o st).bind (evalOps cf H os)

/-- What is known of these rows is given up. -/
def killAll : List Nat → List Row → List Row
  | [], L => L
  | s :: l, L => killAll l (rset L s ⟨(rget L s).ver + 1, 0, []⟩)

abbrev LoopF := ACode → List (List Row) → St → Option (AExit × St)

def exec (cf : CallF) (lf : LoopF) (H : List (List Row)) : ACode → St → Option (AExit × St)
  | .skip, st => some (.normal, st)
  | .region kills ops, st => (evalOps cf H ops (st.1, killAll kills st.2)).map fun st' => (.normal, st')
  | .seq a b, st =>
    (exec cf lf H a st).bind fun r =>
      match r.1 with
      | .normal => exec cf lf H b r.2
      | e => some (e, r.2)
  | .cond c a b, st => (asB (ev st.1 c)).bind fun t => if t then exec cf lf H a st else exec cf lf H b st
  | .block id c, st =>
    (exec cf lf H c st).map fun r =>
      match r.1 with
      | .exit i => (if i = id then .normal else .exit i, r.2)
      | e => (e, r.2)
  | .loop c, st => lf c H st
  | .exit id, st => some (.exit id, st)
  | .scope c, st => exec cf lf H c st
  | .ret, st => some (.ret, st)

/-- One value of a result, out of the callee's frame, as the caller gets it. -/
def outV (L : List Row) : V → Option V
  | .bool b => some (.bool b)
  | .int k n => some (.int k n)
  | .str s => some (.str s)
  | .nilptr => some .nilptr
  | .nilsl => some .nilsl
  | .nilfn => some .nilfn
  | .sl k sz els => if k = .own then none else some (.sl k sz els)
  | .ref 0 s ver _ off len =>
    let r := rget L s
    if r.ver = ver ∧ 0 < ver ∧ off = 0 ∧ len = r.els.length ∧ 0 < r.sz ∧ r.els.all (fun e => e.all V.pure) then some (.sl .own r.sz r.els) else none
  | .ref (d + 1) s ver sz off len => some (.ref d s ver sz off len)
  | .ptr (d + 1) s ver i off => some (.ptr d s ver i off)
  | .fn f caps => if caps.all V.calm then some (.fn f caps) else none
  | .agg cs => if cs.all V.pure then some (.agg cs) else none
  | _ => none

def outVs (L : List Row) : List V → Option (List V)
  | [] => some []
  | v :: l => (outV L v).bind fun v' => (outVs L l).map (v' :: ·)

/-- At most one slice of the call's own among the results, and at the first place. -/
def ownsLast : List V → Bool
  | [] => true
  | _ :: l => l.all fun v => match v with | .sl .own _ _ => false | _ => true

def resV (L : List Row) (fr : List V) : ARes → Option V
  | .tmp t => some (get fr t)
  | .cell t isAgg n => loadV [L] isAgg n (get fr t)

def resVs (L : List Row) (fr : List V) : List ARes → Option (List V)
  | [] => some []
  | r :: l => (resV L fr r).bind fun v => (resVs L fr l).map (v :: ·)

def tupOf : List V → V
  | [v] => v
  | us => .tup us

/-- Results that lie in several rows: all of them are given up. -/
def finF (L : List Row) (vs : List V) : Option V :=
  (frzRs L vs).bind fun r => (outVs r.2 r.1).bind fun us => if ownsLast us then some (tupOf us) else none

def fin2 (L : List Row) (vs : List V) : Option (List V) → Option V
  | some us => if ownsLast us then some (tupOf us) else finF L vs
  | none => finF L vs

def finish (rs : List ARes) (st : St) : Option V :=
  (resVs st.2 st.1 rs).bind fun vs => fin2 st.2 vs (outVs st.2 vs)

/-- The functions' codes; and what is known of others by itself. -/
structure Tbl where
  fn : FuncId → Option AFunc
  pr : FuncId → List V → Option V

instance : CoeFun Tbl fun _ => FuncId → Option AFunc := ⟨Tbl.fn⟩

def callS (tbl : Tbl) (cf : CallF) (lf : LoopF) : CallF := fun f args H =>
  match tbl.fn f with
  | some af =>
    (exec cf lf H af.code (args, [])).bind fun r =>
      match r.1 with
      | .exit _ => none
      | _ => finish af.results r.2
  | none => tbl.pr f args

def loopS (cf : CallF) (lf : LoopF) : LoopF := fun c H st =>
  (exec cf lf H c st).bind fun r =>
    match r.1 with
    | .normal => lf c H r.2
    | e => some (e, r.2)

def stepN (tbl : Tbl) : Nat → CallF × LoopF
  | 0 => (fun _ _ _ => none, fun _ _ _ => none)
  | n + 1 => (callS tbl (stepN tbl n).1 (stepN tbl n).2, loopS (stepN tbl n).1 (stepN tbl n).2)

end Go.Ab
