/-
  The abstract machine's code out of the translation's own, by reckoning over its tables.
-/
import Derived.Test.YtfngllcjikmbkaaAbCore
namespace Go.Ab
open Go

def cellOf : Value → Option V
  | .bool b => some (.bool b)
  | .int k n => some (.int k n)
  | .string s => some (.str s)
  | .pointer none => some .nilptr
  | .slice none 0 0 => some .nilsl
  | .nilFunc => some .nilfn
  | _ => none

def cellsOf : List Value → Option (List V)
  | [] => some []
  | x :: l => (cellOf x).bind fun v => (cellsOf l).map (v :: ·)

def ofVal : Value → Option V
  | .agg cs => (cellsOf cs.toList).map .agg
  | .func (.func f) first caps => if first.size = 0 ∧ caps.size = 0 then some (.fn f []) else none
  | v => cellOf v

def cArg : Operand → Option Arg
  | .tmp t => some (.t t)
  | .const v => (ofVal v).map .c
  | .func f => some (.c (.fn f []))
  | .global _ => none

def cArgs : List Operand → Option (List Arg)
  | [] => some []
  | x :: l => (cArg x).bind fun v => (cArgs l).map (v :: ·)

def cOpt : Option Operand → Option (Option Arg)
  | none => some none
  | some x => (cArg x).map some

def tAgg (P : Program) (t : TypeId) : Option Bool :=
  match P.underlying t with
  | some (.struct _) | some (.array _ _) => some true
  | some _ => some false
  | none => none

def tSize (P : Program) (t : TypeId) : Option Nat := (P.info? t).map (·.size)

def tZero (P : Program) (t : TypeId) : Option (List V) := ((P.info? t).bind (·.zero)).bind fun z => cellsOf z.cells.toList

def zeroV (P : Program) (t : TypeId) : Option V := ((P.info? t).bind (·.zero)).bind ofVal

def mkOf : TypeDesc → Option MK
  | .int _ => some .int
  | .string => some .str
  | .bool => some .bool
  | _ => none

/-- What keys of a type are. -/
def tKey (P : Program) (t : TypeId) : Option MK := (P.underlying t).bind mkOf

mutual
/-- Values of the type are compared cell by cell; which cells are truth values (the others are numbers). -/
def plainEq (P : Program) : Nat → TypeId → Option (List Bool)
  | 0, _ => none
  | d + 1, t =>
    match P.underlying t with
    | some .bool => some [true]
    | some (.int _) => some [false]
    | some (.struct fs) => if P.stoodInHeld t = true then none else plainEqs P d 0 fs.toList
    | some (.array n e) => (plainEq P d e).bind fun k => if tSize P e = some k.length ∧ 0 < k.length then some ((List.replicate n k).flatten) else none
    | _ => none
def plainEqs (P : Program) : Nat → Nat → List Field → Option (List Bool)
  | _, _, [] => some []
  | 0, _, _ => none
  | d + 1, off, f :: l =>
    if f.name ≠ "_" ∧ f.offset = off then
      (plainEq P d f.type).bind fun k => if tSize P f.type = some k.length ∧ 0 < k.length then (plainEqs P d (off + k.length) l).map (k ++ ·) else none
    else none
end

def places (P : Program) : List Field → Option (List (Nat × Nat))
  | [] => some []
  | f :: l => (tSize P f.type).bind fun n => (places P l).map ((f.offset, n) :: ·)

def cParts (place : Nat → Option (Nat × Nat)) : List (Nat × Operand) → Option (List (Nat × Nat × Arg))
  | [] => some []
  | (i, x) :: l => (place i).bind fun p => (cArg x).bind fun v => (cParts place l).map ((p.1, p.2, v) :: ·)

/-- A slice literal; where its elements hold slices these are given up. -/
def mkLit (z : List V) (n len : Nat) (q : List (Nat × Nat × Arg)) : AOp := if z.any V.isNilsl then .litf n z len q else .lit n z len q

theorem mkLit_or (z : List V) (n len : Nat) (q : List (Nat × Nat × Arg)) : mkLit z n len q = .litf n z len q ∨ mkLit z n len q = .lit n z len q := by
  unfold mkLit
  split
  · exact .inl rfl
  · exact .inr rfl
@[simp] theorem mkLit_call {z : List V} {n len : Nat} {q : List (Nat × Nat × Arg)} {s : Nat} {f : Arg} {as : List Arg} : (mkLit z n len q = .call s f as) = False := by
  rcases mkLit_or z n len q with h | h <;> rw [h] <;> simp
@[simp] theorem mkLit_store {z : List V} {n len : Nat} {q : List (Nat × Nat × Arg)} {s : Nat} {f a : Arg} : (mkLit z n len q = .store s f a) = False := by
  rcases mkLit_or z n len q with h | h <;> rw [h] <;> simp
@[simp] theorem mkLit_app {z : List V} {n len : Nat} {q : List (Nat × Nat × Arg)} {s m k : Nat} {f a : Arg} : (mkLit z n len q = .app s m k f a) = False := by
  rcases mkLit_or z n len q with h | h <;> rw [h] <;> simp

/-- A call: of the usual mode; its arguments given up and its result kept as a row; its arguments given up alone. -/
def mkCall (keep : Nat) (site : Nat) (f : Arg) (as : List Arg) : AOp :=
  match keep with
  | 0 => .call 0 f as
  | 1 => .callf site f as
  | _ => .callf 0 f as
theorem mkCall_or (keep : Nat) (site : Nat) (f : Arg) (as : List Arg) : (∃ s, mkCall keep site f as = .callf s f as) ∨ mkCall keep site f as = .call 0 f as := by
  unfold mkCall
  split
  · exact .inr rfl
  · exact .inl ⟨_, rfl⟩
  · exact .inl ⟨_, rfl⟩
@[simp] theorem mkCall_lit {keep : Nat} {site : Nat} {f : Arg} {as : List Arg} {z : List V} {n len : Nat} {q : List (Nat × Nat × Arg)} : (mkCall keep site f as = .litf n z len q) = False := by
  rcases mkCall_or keep site f as with ⟨_, h⟩ | h <;> rw [h] <;> simp
@[simp] theorem mkCall_store {keep : Nat} {site : Nat} {f : Arg} {as : List Arg} {s : Nat} {g a : Arg} : (mkCall keep site f as = .store s g a) = False := by
  rcases mkCall_or keep site f as with ⟨_, h⟩ | h <;> rw [h] <;> simp
@[simp] theorem mkCall_app {keep : Nat} {site : Nat} {f : Arg} {as : List Arg} {s m k : Nat} {g a : Arg} : (mkCall keep site f as = .app s m k g a) = False := by
  rcases mkCall_or keep site f as with ⟨_, h⟩ | h <;> rw [h] <;> simp
@[simp] theorem mkLit_callf {z : List V} {n len : Nat} {q : List (Nat × Nat × Arg)} {s : Nat} {f : Arg} {as : List Arg} : (mkLit z n len q = .callf s f as) = False := by
  rcases mkLit_or z n len q with h | h <;> rw [h] <;> simp

@[simp] theorem mkLit_mins {z : List V} {n len : Nat} {q : List (Nat × Nat × Arg)} {m : MK} {x y v : Arg} : (mkLit z n len q = .mins m x y v) = False := by
  rcases mkLit_or z n len q with h | h <;> rw [h] <;> simp
@[simp] theorem mkCall_mins {keep : Nat} {site : Nat} {f : Arg} {as : List Arg} {m : MK} {x y v : Arg} : (mkCall keep site f as = .mins m x y v) = False := by
  rcases mkCall_or keep site f as with ⟨_, h⟩ | h <;> rw [h] <;> simp
@[simp] theorem mkLit_mput {z : List V} {n len : Nat} {q : List (Nat × Nat × Arg)} {m : MK} {x y v : Arg} : (mkLit z n len q = .mput m x y v) = False := by
  rcases mkLit_or z n len q with h | h <;> rw [h] <;> simp
@[simp] theorem mkCall_mput {keep : Nat} {site : Nat} {f : Arg} {as : List Arg} {m : MK} {x y v : Arg} : (mkCall keep site f as = .mput m x y v) = False := by
  rcases mkCall_or keep site f as with ⟨_, h⟩ | h <;> rw [h] <;> simp

def cOp (P : Program) (keep : Nat) (site : Nat) (o : Oper) : Option AOp :=
  match o.op with
  | .move x | .assign x => (cArg x).map .mv
  | .pick c a b => (cArg c).bind fun c => (cArg a).bind fun a => (cArg b).map fun b => .pick c a b
  | .binOp op t x y _ =>
    (cArg x).bind fun x => (cArg y).bind fun y =>
      match P.underlying t with
      | some (.int _) | some .string => some (.bin op x y)
      | some .bool => if op = .eql ∨ op = .neq then some (.eqb (op == .neq) x y) else none
      | some (.struct _) | some (.array _ _) =>
        if (op = .eql ∨ op = .neq) ∧ P.eqGuardType P.depth t = false then (plainEq P 20 t).map fun lay => .eqagg lay (op == .neq) x y else none
      | _ => none
  | .unOp .not _ x => (cArg x).map .not
  | .unOp .neg _ x => (cArg x).map .neg
  | .convert s d x =>
    match P.underlying s, P.underlying d with
    | some (.int _), some (.int k) => (cArg x).map (.conv k)
    | _, _ => none
  | .alloc t => (tZero P t).map fun z => .alloc site z
  | .box _ x => (cArg x).map (.box site)
  | .build t parts =>
    (tZero P t).bind fun z =>
      match P.underlying t with
      | some (.struct fs) => (places P fs.toList).bind fun ps => (cParts (ps[·]?) parts.toList).map fun q => .build z q
      | some (.array _ e) => (tSize P e).bind fun n => (cParts (fun i => some (i * n, n)) parts.toList).map fun q => .build z q
      | _ => none
  | .buildSlice t len parts =>
    match P.underlying t with
    | some (.slice e) => (tSize P e).bind fun n => (tZero P e).bind fun z =>
      if z.length = n ∧ 0 < n ∧ len * n ≤ 16777216 then (cParts (fun i => some (i * n, n)) parts.toList).map (mkLit z n len) else none
    | _ => none
  | .load t a => (tAgg P t).bind fun g => (tSize P t).bind fun n => (cArg a).map (.load g n)
  | .store t a v => (tSize P t).bind fun n => (cArg a).bind fun a => (cArg v).map fun v => .store n a v
  | .nilCheck x => (cArg x).map .nilck
  | .fieldAddr s x f =>
    match P.underlying s with
    | some (.struct fs) => (fs[f]?).bind fun fd => (tSize P fd.type).bind fun n => if n = 0 then none else (cArg x).map (.fieldAddr fd.offset)
    | _ => none
  | .indexAddr t x i =>
    match P.underlying t with
    | some (.slice e) => (tSize P e).bind fun n => (cArg x).bind fun x => (cArg i).map fun i => .elemAddr n x i
    | some (.array len e) => (tSize P e).bind fun n => (cArg x).bind fun x => (cArg i).map fun i => .arrAddr len n x i
    | _ => none
  | .index t x i =>
    match P.underlying t with
    | some (.array len e) => (tSize P e).bind fun n => (tAgg P e).bind fun g => (cArg x).bind fun x => (cArg i).map fun i => .idx len n g x i
    | some .string => (cArg x).bind fun x => (cArg i).map fun i => .strIdx x i
    | _ => none
  | .slice t x lo hi mx =>
    match P.underlying t with
    | some (.slice e) => (tSize P e).bind fun n => (cArg x).bind fun x => (cOpt lo).bind fun lo => (cOpt hi).bind fun hi => (cOpt mx).map fun mx => .sub n x lo hi mx
    | some .string => if mx.isSome then none else (cArg x).bind fun x => (cOpt lo).bind fun lo => (cOpt hi).map fun hi => .strSub x lo hi
    | _ => none
  | .makeFunc (.func f) first caps => if first.size = 0 then (cArgs caps.toList).map fun cs => .mkfn f cs else none
  | .makeSlice t len cap =>
    match P.underlying t with
    | some (.slice e) => (P.info? e).bind fun i => (tZero P e).bind fun z => (cArg len).bind fun l => (cArg cap).bind fun c =>
      if z.length = i.size ∧ 0 < i.size then some (.mks site i.size z i.bytes l c) else none
    | _ => none
  | .extract x i => (cArg x).map fun x => .ext x i
  | .makeMap t r =>
    match P.underlying t, r with
    | some (.map k _), none => (tKey P k).map fun _ => .mkmap site
    | _, _ => none
  | .lookup t x i ok =>
    match P.underlying t with
    | some (.map k e) => (tKey P k).bind fun m => (zeroV P e).bind fun z => (cArg x).bind fun x => (cArg i).map fun i => .mget m ok z x i
    | _ => none
  | .mapUpdate t x k v =>
    match P.underlying t with
    | some (.map kt _) => (tKey P kt).bind fun m => (cArg x).bind fun x => (cArg k).bind fun k => (cArg v).map fun v => .mput m x k v
    | _ => none
  | .insert t x k v =>
    match P.underlying t with
    | some (.map kt _) => (tKey P kt).bind fun m => (cArg x).bind fun x => (cArg k).bind fun k => (cArg v).map fun v => .mins m x k v
    | _ => none
  | .call c =>
    match c.callee with
    | .value f => (cArg f).bind fun f => (cArgs c.args.toList).map fun as => mkCall keep site f as
    | .builtin .len =>
      match c.argTypes.toList, c.args.toList with
      | [t], [x] =>
        match P.underlying t with
        | some .string => (cArg x).map .slen
        | some (.slice _) => (cArg x).map .len
        | some (.array n _) => some (.mv (.c (.int .i64 n)))
        | _ => none
      | _, _ => none
    | .builtin .append =>
      match c.argTypes.toList, c.args.toList with
      | [t, u], [x, y] =>
        match P.underlying t, P.underlying u with
        | some (.slice e), some (.slice _) => (P.info? e).bind fun i => (tZero P e).bind fun z => (cArg x).bind fun x => (cArg y).bind fun y =>
          if 0 < i.size ∧ 0 < i.bytes ∧ z.length = i.size then some (.app site i.size i.bytes x y) else none
        | _, _ => none
      | _, _ => none
    | .builtin .min => (cArgs c.args.toList).map (.mm false)
    | .builtin .max => (cArgs c.args.toList).map (.mm true)
    | _ => none
  | _ => none

/-- The operation takes a row of its own. -/
def AOp.site : AOp → Nat
  | .alloc s _ | .box s _ | .app s _ _ _ _ | .call s _ _ | .callf s _ _ | .mks s _ _ _ _ _ | .mkmap s => s
  | _ => 0

def AOp.argList : AOp → List Arg
  | .mv x | .not x | .neg x | .conv _ x | .box _ x | .load _ _ x | .loadi _ _ x | .fieldAddr _ x | .len x | .slen x | .ext x _ | .nilck x => [x]
  | .pick a b c => [a, b, c]
  | .bin _ x y | .eqb _ x y | .eqagg _ _ x y | .store _ x y | .elemAddr _ x y | .arrAddr _ _ x y | .idx _ _ _ x y | .strIdx x y | .app _ _ _ x y | .mks _ _ _ _ x y | .mget _ _ _ x y => [x, y]
  | .mput _ x y z | .mins _ x y z => [x, y, z]
  | .alloc _ _ | .mkmap _ => []
  | .build _ ps | .lit _ _ _ ps | .litf _ _ _ ps => ps.map (·.2.2)
  | .sub _ x lo hi mx => x :: (lo.toList ++ hi.toList ++ mx.toList)
  | .strSub x lo hi => x :: (lo.toList ++ hi.toList)
  | .call _ f as | .callf _ f as => f :: as
  | .mkfn _ cs => cs
  | .mm _ xs => xs

def argTmps : List Arg → List Nat
  | [] => []
  | .t i :: l => i :: argTmps l
  | .c _ :: l => argTmps l

/-- The temporaries that an operation looks at. -/
def AOper.reads (o : AOper) : List Nat := argTmps o.op.argList ++ (match o.guard with | some (d, _) => [d] | none => [])

def AOp.mutates : AOp → Bool
  | .store .. | .app .. | .litf .. | .callf .. | .mput .. | .mins .. => true
  | _ => false

def cOper (P : Program) (keep : Nat) (site : Nat) (ops : Array Oper) (ntmps : Nat) (o : Oper) : Option AOper :=
  (cOp P keep site o).bind fun op =>
    if o.dst.all (· < ntmps) then
      match o.guard with
      | none => some ⟨o.dst, op, none⟩
      | some (j, w) => ((ops[j]?).bind (·.dst)).map fun d => ⟨o.dst, op, some (d, w)⟩
    else none

def cOpers (P : Program) (keep : Nat) (ops : Array Oper) (ntmps : Nat) : Nat → List Oper → Option (List AOper × Nat)
  | site, [] => some ([], site)
  | site, o :: l => (cOper P keep site ops ntmps o).bind fun a =>
    (cOpers P keep ops ntmps (if a.op.site = 0 then site else site + 1) l).map fun r => (a :: r.1, r.2)

/-! ### Regions that draw their order -/

/-- Which operations are bound to stand ahead of the n-th, as a mask; the masks of those before it are given, the last first. -/
def maskOf (ms : List Nat) (o : Oper) : Nat :=
  o.after.toList.foldl (fun m e => if Region.binds .any e ∧ e.on < ms.length then m ||| 2 ^ e.on ||| (ms.reverse.getD e.on 0) else m) 0

def masks : List Nat → List Oper → List Nat
  | ms, [] => ms.reverse
  | ms, o :: l => masks (maskOf ms o :: ms) l

def fewAll (n : Nat) (p : Nat → Bool) : Bool := (List.range n).all p

/-- From the k-th on each operation has all earlier ones ahead of it. -/
def tailOk (ms : List Nat) (k n : Nat) : Bool := fewAll n fun j => decide (j < k) || fewAll j fun i => (ms.getD j 0).testBit i

def tailFrom (ms : List Nat) (n : Nat) : Nat → Nat
  | 0 => 0
  | k + 1 => if fewAll k fun i => (ms.getD k 0).testBit i then tailFrom ms n k else k + 1

/-- Operation i does not care whether operation j has been carried out, or j surely stands on the same side of it as in the text. -/
def pairOk (ms : List Nat) (i j : Nat) (x y : AOper) : Bool :=
  if i = j then true
  else
    (match y.dst with
     | none => true
     | some d =>
       (!(x.reads.contains d) || (if j < i then (ms.getD i 0).testBit j else (ms.getD j 0).testBit i)) &&
       (x.dst != some d)) &&
    (y.op.site == 0 || x.op.site != y.op.site)

def AOp.siteOk : AOp → Bool
  | .alloc s _ | .box s _ | .mks s _ _ _ _ _ | .mkmap s => s != 0
  | _ => true

def headOk (ms : List Nat) (k : Nat) (l : List AOper) : Bool :=
  fewAll k fun i => match l[i]? with
    | none => false
    | some x => !x.op.mutates && x.op.siteOk && fewAll k fun j => match l[j]? with
      | none => false
      | some y => pairOk ms i j x y

def backOk : Nat → List Oper → Bool
  | _, [] => true
  | i, o :: l => o.after.toList.all (fun e => !Region.binds .any e || decide (e.on < i)) && backOk (i + 1) l

def orderOk (ops : List Oper) (l : List AOper) : Bool :=
  let ms := masks [] ops
  let k := tailFrom ms ops.length ops.length
  decide (k ≤ ops.length) && backOk 0 ops && tailOk ms k ops.length && headOk ms k l

/-! ### Regions whose operations on memory are ordered -/

/-- The operation takes or writes rows, or hands them on. -/
def AOp.changes : AOp → Bool
  | .alloc .. | .box .. | .app .. | .store .. | .call .. | .callf .. | .mks .. | .litf .. | .mkmap .. | .mget .. | .mput .. | .mins .. => true
  | _ => false

def AOp.isLoad : AOp → Bool
  | .load .. => true
  | _ => false

def AOp.weak : AOp → AOp
  | .load g n x => .loadi g n x
  | o => o

/-- The two stand in the order of the text. -/
def inOrder (ms : List Nat) (i j : Nat) : Bool := if i < j then (ms.getD j 0).testBit i else (ms.getD i 0).testBit j

/-- The load stands in the text's order to all that changes rows. -/
def tightLoad (ms : List Nat) (l : List AOper) (i : Nat) : Bool :=
  fewAll l.length fun j => i == j || (match l[j]? with
    | some y => !y.op.changes || inOrder ms i j
    | none => true)

/-- Two entries of one literal that stand side by side: their order does not matter. -/
def commute (x y : AOper) : Bool :=
  match x.op, y.op, x.guard, y.guard, x.dst, y.dst with
  | .mins m (.t a) (.c k1) (.c _), .mins m' (.t b) (.c k2) (.c _), none, none, none, none => m == m' && a == b && keyEq m k1 k2 == some false && keyEq m k2 k1 == some false
  | _, _, _, _, _, _ => false

def pairF (ms : List Nat) (i j : Nat) (x y : AOper) : Bool :=
  if i = j then true
  else
    (match y.dst with
     | none => true
     | some d => (!(x.reads.contains d) || (if j < i then (ms.getD i 0).testBit j else (ms.getD j 0).testBit i)) && (x.dst != some d)) &&
    (!(x.op.changes && y.op.changes) || inOrder ms i j || (j == i + 1 && commute x y) || (i == j + 1 && commute y x))

def floatOk (ops : List Oper) (l : List AOper) : Bool :=
  let ms := masks [] ops
  backOk 0 ops && fewAll ops.length fun i => match l[i]? with
    | none => false
    | some x => fewAll ops.length fun j => match l[j]? with
      | none => false
      | some y => pairF ms i j x y

/-- What is not in the text's order to all changes is read where nobody writes. -/
def floatOps (ms : List Nat) (all : List AOper) : Nat → List AOper → List AOper
  | _, [] => []
  | i, o :: l => (if o.op.isLoad && !tightLoad ms all i then { o with op := o.op.weak } else o) :: floatOps ms all (i + 1) l

def killSites : List AOper → List Nat
  | [] => []
  | o :: l => if o.op.site = 0 then killSites l else o.op.site :: killSites l

/-- The code, and the next row's number. -/
def cCode (P : Program) (keep : Nat) (ntmps : Nat) : Nat → Code → Option (ACode × Nat)
  | s, .skip | s, .label _ => some (.skip, s)
  | s, .region _ ops draw =>
    (cOpers P keep ops ntmps s ops.toList).bind fun r =>
      if draw then
        (if orderOk ops.toList r.1 then some (.region (killSites (r.1.take (tailFrom (masks [] ops.toList) ops.size ops.size))) r.1, r.2)
       else if floatOk ops.toList r.1 then some (.region [] (floatOps (masks [] ops.toList) r.1 0 r.1), r.2) else none)
      else some (.region [] r.1, r.2)
  | s, .seq a b => (cCode P keep ntmps s a).bind fun x => (cCode P keep ntmps x.2 b).map fun y => (.seq x.1 y.1, y.2)
  | s, .cond c a b => (cArg c).bind fun c => (cCode P keep ntmps s a).bind fun x => (cCode P keep ntmps x.2 b).map fun y => (.cond c x.1 y.1, y.2)
  | s, .block id c => (cCode P keep ntmps s c).map fun x => (.block id x.1, x.2)
  | s, .loop c => (cCode P keep ntmps s c).map fun x => (.loop x.1, x.2)
  | s, .exit id => some (.exit id, s)
  | s, .scope c => (cCode P keep ntmps s c).map fun x => (.scope x.1, x.2)
  | s, .ret => some (.ret, s)
  | _, _ => none

def cRes (P : Program) : List ResultVar → Option (List ARes)
  | [] => some []
  | .tmp t :: l => (cRes P l).map (.tmp t :: ·)
  | .cell a t :: l => (tAgg P t).bind fun g => (tSize P t).bind fun n => (cRes P l).map (.cell a g n :: ·)

def cFunc (P : Program) (keep : Nat) (fn : Func) : Option AFunc :=
  if fn.name = "runtime.NumGoroutine" ∨ fn.ntmps < fn.params.size + fn.nfree then none else
  fn.body.bind fun c => (cRes P fn.results.toList).bind fun rs => (cCode P keep fn.ntmps 1 c).map fun r => ⟨rs, r.1⟩

end Go.Ab
