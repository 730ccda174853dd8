/- General words (0): an evaluator of the model's code, and that what it answers the model answers. -/
import Derived.Calls
import Derived.KernelRfl
import Derived.Laws.Sem
import Derived.Laws.World
import Derived.Lib.ItoaNum
import Derived.Laws.IdiomCopy
import Derived.Laws.Cells
import Derived.Laws.Entries
import Derived.Deep.MidRow
import Derived.ChangeKeysEq
import Derived.Laws.Tables
import Derived.Laws.MakeOwn
set_option linter.unusedSimpArgs false
/- The evaluator's words: values, blocks, operations; what each comes to. -/
set_option linter.unusedVariables false
namespace Go.Proofs.YtipnedhclbopdaaDoorEv

inductive PV where
  | int (k : IntKind) (n : Int)
  | bool (b : Bool)
  | str (s : ByteArray)
  | flt (k : FloatKind) (bits : Nat)
  | cpx (k : FloatKind) (re im : Nat)
  | agg (cs : List PV)
  | tup (vs : List PV)
  | nil
  | sl (len : Nat) (tight : Bool) (xs : List PV)
  | own (id es off len : Nat)
  | ptr (id off : Nat)
  | rop (xs : List PV)
  | cp (v : PV)
  | nilp
  | fn (f : Nat) (first caps : List PV)
  | nilfn
  | map (id : Nat)
  | undef
  deriving Inhabited

inductive Blk where
  | box (cs : List PV)
  | row (cs : List PV)
  | froz (cs : List PV)
  | mp (es : List (PV × PV))
  deriving Inhabited

abbrev Heap := List (Nat × Blk)

def hget : Heap → Nat → Option Blk
  | [], _ => none
  | (j, b) :: h, k => if j = k then some b else hget h k
def hset : Heap → Nat → Blk → Heap
  | [], k, b => [(k, b)]
  | (j, c) :: h, k, b => if j = k then (k, b) :: h else (j, c) :: hset h k b
def hdel : Heap → Nat → Heap
  | [], _ => []
  | (j, c) :: h, k => if j = k then hdel h k else (j, c) :: hdel h k
abbrev Upd := List (Nat × Option Blk)
def applyU : Heap → Upd → Heap
  | h, [] => h
  | h, (k, some b) :: u => applyU (hset h k b) u
  | h, (k, none) :: u => applyU (hdel h k) u

mutual
def PV.mapId (σ : Nat → Option Nat) : PV → PV
  | .agg cs => .agg (mapIds σ cs)
  | .tup vs => .tup (mapIds σ vs)
  | .own id es off len => match σ id with | some j => .own j es off len | none => .undef
  | .ptr id off => match σ id with | some j => .ptr j off | none => .undef
  | .fn f a b => .fn f (mapIds σ a) (mapIds σ b)
  | .map id => match σ id with | some j => .map j | none => .undef
  | .int k n => .int k n
  | .bool b => .bool b
  | .str s => .str s
  | .flt k b => .flt k b
  | .cpx k a b => .cpx k a b
  | .nil => .nil
  | .sl l t xs => .sl l t xs
  | .rop xs => .rop xs
  | .cp v => .cp (v.mapId σ)
  | .nilp => .nilp
  | .nilfn => .nilfn
  | .undef => .undef
def mapIds (σ : Nat → Option Nat) : List PV → List PV
  | [] => []
  | v :: r => v.mapId σ :: mapIds σ r
end
def Blk.mapId (σ : Nat → Option Nat) : Blk → Blk
  | .box cs => .box (mapIds σ cs)
  | .row cs => .row cs
  | .froz cs => .froz cs
  | .mp es => .mp es

mutual
def PV.ids : PV → List Nat
  | .agg cs => idsL cs
  | .tup vs => idsL vs
  | .own id _ _ _ => [id]
  | .ptr id _ => [id]
  | .fn _ a b => idsL a ++ idsL b
  | .map id => [id]
  | .int _ _ => []
  | .bool _ => []
  | .str _ => []
  | .flt _ _ => []
  | .cpx _ _ _ => []
  | .nil => []
  | .sl _ _ _ => []
  | .rop _ => []
  | .cp v => v.ids
  | .nilp => []
  | .nilfn => []
  | .undef => []
def idsL : List PV → List Nat
  | [] => []
  | v :: r => v.ids ++ idsL r
end
def Blk.ids : Blk → List Nat
  | .box cs => idsL cs
  | _ => []

-- no number of a block in it
mutual
def PV.closed : PV → Bool
  | .agg cs => closedL cs
  | .tup vs => closedL vs
  | .own _ _ _ _ => false
  | .ptr _ _ => false
  | .fn _ a b => closedL a && closedL b
  | .map _ => false
  | .int _ _ => true
  | .bool _ => true
  | .str _ => true
  | .flt _ _ => true
  | .cpx _ _ _ => true
  | .nil => true
  | .sl _ _ _ => true
  | .rop _ => true
  | .cp v => v.closed
  | .nilp => true
  | .nilfn => true
  | .undef => true
def closedL : List PV → Bool
  | [] => true
  | v :: r => v.closed && closedL r
end

-- plain data without slices
mutual
def PV.scalar : PV → Bool
  | .agg cs => scalarL cs
  | .tup vs => scalarL vs
  | .int _ _ => true
  | .bool _ => true
  | .str _ => true
  | .flt _ _ => true
  | .cpx _ _ _ => true
  | .nil => true
  | .undef => true
  | _ => false
def scalarL : List PV → Bool
  | [] => true
  | v :: r => v.scalar && scalarL r
end

-- own rows told by value
mutual
def PV.peek (h : Heap) : PV → Option PV
  | .agg cs => match peekL h cs with | some l => some (.agg l) | none => none
  | .tup vs => match peekL h vs with | some l => some (.tup l) | none => none
  | .own id es off len => match hget h id with
    | some (.row cs) => some (.sl len false ((cs.drop off).take (len * es)))
    | some (.froz cs) => some (.sl len false ((cs.drop off).take (len * es)))
    | _ => none
  | .ptr _ _ => none
  | .map _ => none
  | .fn f a b => match peekL h a, peekL h b with | some a', some b' => some (.fn f a' b') | _, _ => none
  | .int k n => some (.int k n)
  | .bool b => some (.bool b)
  | .str s => some (.str s)
  | .flt k b => some (.flt k b)
  | .cpx k a b => some (.cpx k a b)
  | .nil => some .nil
  | .sl l t xs => some (.sl l t xs)
  | .rop xs => some (.rop xs)
  | .cp v => match v.peek h with | some v' => some (.cp v') | none => none
  | .nilp => some .nilp
  | .nilfn => some .nilfn
  | .undef => some .undef
def peekL (h : Heap) : List PV → Option (List PV)
  | [] => some []
  | v :: r => match v.peek h, peekL h r with | some v', some r' => some (v' :: r') | _, _ => none
end

def frz (h : Heap) : List Nat → Upd
  | [] => []
  | id :: r => match hget h id with | some (.row cs) => (id, some (.froz cs)) :: frz h r | _ => frz h r

def reach (h : Heap) : Nat → List Nat → List Nat → List Nat
  | 0, _, seen => seen
  | _ + 1, [], seen => seen
  | n + 1, i :: todo, seen => if seen.contains i then reach h n todo seen else
    match hget h i with
    | none => reach h n todo seen
    | some b => reach h n (b.ids ++ todo) (seen ++ [i])

def idxIn : List Nat → Nat → Option Nat
  | [], _ => none
  | j :: r, k => if j = k then some 0 else match idxIn r k with | some i => some (i + 1) | none => none

/-- an operand -/
inductive X where
  | t (n : Nat)
  | c (v : PV)
  deriving Inhabited

inductive K where
  | mv (x : X)
  | pick (c a b : X)
  | alloc (zero : List PV)
  | box (x : X)
  | build (zero : List PV) (parts : List (Nat × Nat × X))
  | bslice (es len : Nat) (zero : List PV) (parts : List (Nat × X))
  | load (agg : Bool) (size : Nat) (a : X)
  | store (size : Nat) (a x : X)
  | nilck (x : X)
  | bin (op : BinOp) (x y : X)
  | eqB (neg : Bool) (x y : X)
  | eqS (neg : Bool) (ks : List Nat) (x y : X)
  | eqNil (fnc neg : Bool) (x : X)
  | un (op : UnOp) (x : X)
  | conv (k : IntKind) (x : X)
  | strS (x : X)
  | s2b (x : X)
  | b2s (x : X)
  | mkfunc (f : Nat) (first caps : List X)
  | mkslice (es : Nat) (zero : List PV) (l c : X)
  | slice (str : Bool) (es : Nat) (x : X) (lo hi mx : Option X)
  | faddr (off : Nat) (x : X)
  | field (agg : Bool) (off size : Nat) (x : X)
  | iaddr (es : Nat) (x i : X)
  | iaddrA (es len : Nat) (x i : X)
  | index (x i : X)
  | ext (x : X) (i : Nat)
  | call (f : Nat) (borrow : Bool) (raw : List Bool) (args : List X)
  | callv (borrow : Bool) (raw : List Bool) (f : X) (args : List X)
  | len (str : Bool) (x : X)
  | cap (x : X)
  | append (es : Nat) (a b : X)
  | appmk (es : Nat) (zero : List PV) (a n : X)
  | no
  | copy (es : Nat) (a b : X)
  | clear (es : Nat) (zero : List PV) (a : X)
  | minmax (mx : Bool) (xs : List X)
  | mkmap
  | lookup (kk : Nat) (zero : List PV) (ok : Bool) (m k : X)
  | mapup (kk : Nat) (m k v : X)
  | i2f (k : FloatKind) (x : X)
  | cplx (a b : X)
  | cpart (im : Bool) (x : X)
  | cbox (x : X)
  deriving Inhabited

def PV.cells : PV → List PV
  | .agg cs => cs
  | v => [v]
/-- a value of one cell, or of several -/
def PV.cellish : PV → Bool
  | .tup _ => false
  | .undef => false
  | _ => true
def setRange (cs : List PV) (off : Nat) (vs : List PV) : List PV := cs.take off ++ vs ++ cs.drop (off + vs.length)

def valOf : Value → Option PV
  | .int k n => some (.int k n)
  | .bool b => some (.bool b)
  | .string s => some (.str s)
  | .float k b => some (.flt k b)
  | .complex k a b => some (.cpx k a b)
  | .slice none 0 0 => some .nil
  | .pointer none => some .nilp
  | .map none => some .undef
  | .nilFunc => some .nilfn
  | _ => none
/-- what an operation that asks nothing of the world answers -/
def pureOf : Sem Value → Option PV
  | .pure v => valOf v
  | _ => none

def conc : PV → Option Value
  | .int k n => some (.int k n)
  | .bool b => some (.bool b)
  | .str s => some (.string s)
  | .flt k b => some (.float k b)
  | .cpx k a b => some (.complex k a b)
  | _ => none

def binV (op : BinOp) (x y : PV) : Option PV :=
  match x, y with
  | .int k a, .int k' b => pureOf (binOp op 0 (.int k a) (.int k' b))
  | .str a, .str b => pureOf (binOp op 0 (.string a) (.string b))
  | .flt k a, .flt k' b => pureOf (binOp op 0 (.float k a) (.float k' b))
  | _, _ => none
def unV (op : UnOp) (x : PV) : Option PV := match conc x with | some v => pureOf (Op.unary op v) | none => none

def cellEq : PV → PV → Option Bool
  | .int k a, .int k' b => if k = k' then some (a == b) else none
  | .bool a, .bool b => some (a == b)
  | .str a, .str b => some (a.toList == b.toList)
  | _, _ => none
def cellsEq : List PV → List PV → Option Bool
  | [], [] => some true
  | a :: r, b :: s => match cellEq a b, cellsEq r s with | some p, some q => some (p && q) | _, _ => none
  | _, _ => none
def kindOf : PV → Nat
  | .int _ _ => 0
  | .bool _ => 1
  | .str _ => 2
  | _ => 3
def isNil (fnc : Bool) (v : PV) : Option Bool :=
  if fnc then (match v with
    | .fn _ _ _ => some false
    | .nilfn => some true
    | _ => none)
  else match v with
    | .nil => some true
    | .sl len _ _ => if len = 0 then none else some false
    | .own _ _ _ len => if len = 0 then none else some false
    | _ => none

/-- the cells of a slice that is read -/
def srcOf (h : Heap) : PV → Option (Nat × List PV)
  | .nil => some (0, [])
  | .sl n _ xs => some (n, xs)
  | .own id es off n => match hget h id with
    | some (.row cs) => some (n, (cs.drop off).take (n * es))
    | some (.froz cs) => some (n, (cs.drop off).take (n * es))
    | _ => none
  | .str s => some (s.size, s.toList.map fun b => .int .u8 b.toNat)
  | _ => none

/-- a slice, no text -/
def srcNS (h : Heap) (v : PV) : Option (Nat × List PV) :=
  match v with
  | .str _ => none
  | v => srcOf h v
def bytesOf : List PV → Option (List UInt8)
  | [] => some []
  | .int .u8 n :: r => match bytesOf r with | some l => some (UInt8.ofNat n.toNat :: l) | none => none
  | _ :: _ => none

def fillB (cells : List PV) : List (Nat × Nat × PV) → Option (List PV)
  | [] => some cells
  | (off, size, v) :: r => if v.cellish = true ∧ v.cells.length = size ∧ off + size ≤ cells.length then fillB (setRange cells off v.cells) r else none

def natOf (x : Option PV) (d : Nat) : Option Nat :=
  match x with
  | none => some d
  | some (.int _ n) => if 0 ≤ n then some n.toNat else none
  | some _ => none

def mostLen : Nat := 4294967296

/-- min, max of whole numbers -/
def mm (mx : Bool) : PV → List PV → Option PV
  | v, [] => some v
  | .int k x, .int _ y :: r => mm mx (.int k (if mx = true then (if y > x then y else x) else (if y < x then y else x))) r
  | _, _ => none

def mfind : List (PV × PV) → PV → Option (Option PV)
  | [], _ => some none
  | (k, v) :: r, x => match cellEq x k with | some true => some (some v) | some false => mfind r x | none => none
def mput : List (PV × PV) → PV → PV → List (PV × PV)
  | [], x, v => [(x, v)]
  | (k, u) :: r, x, v => if cellEq x k = some true then (x, v) :: r else (k, u) :: mput r x v

abbrev CF := Nat → List PV → List (Option Blk) → Option (PV × List (Option Blk))

def argOf (h : Heap) (raw : Bool) (v : PV) : PV := if raw then v else match v.peek h with | some c => c | none => v
def argsOf (h : Heap) : List Bool → List PV → List PV
  | _, [] => []
  | [], v :: r => argOf h false v :: argsOf h [] r
  | b :: bs, v :: r => argOf h b v :: argsOf h bs r
/-- the own rows of those arguments that are told by value -/
def rowsOf (h : Heap) : List Bool → List PV → List Nat
  | _, [] => []
  | [], v :: r => (match v.peek h with | some _ => v.ids | none => []) ++ rowsOf h [] r
  | b :: bs, v :: r => (if b then [] else match v.peek h with | some _ => v.ids | none => []) ++ rowsOf h bs r

def updsAt (σ : Nat → Option Nat) : List Nat → List (Option Blk) → Upd
  | [], _ => []
  | i :: S, [] => (i, none) :: updsAt σ S []
  | i :: S, b :: H => (i, b.map (Blk.mapId σ)) :: updsAt σ S H
def updsNew (σ : Nat → Option Nat) : Nat → List (Option Blk) → Upd
  | _, [] => []
  | n, some b :: H => (n, some (b.mapId σ)) :: updsNew σ (n + 1) H
  | n, none :: H => updsNew σ (n + 1) H

def stride : Nat := 64
/-- how a callee's numbers are told in the caller -/
def sigN (new n : Nat) (j : Nat) : Option Nat := if j < n then some (new + j) else none
def sigS (S : List Nat) (new n : Nat) (j : Nat) : Option Nat := if j < S.length then S[j]? else if j < n then some (new + (j - S.length)) else none

mutual
/-- what is read through pointers told by value too -/
def PV.view (h : Heap) : PV → Option PV
  | .agg cs => match viewL h cs with | some l => some (.agg l) | none => none
  | .tup vs => match viewL h vs with | some l => some (.tup l) | none => none
  | .own id es off len => match hget h id with
    | some (.row cs) => some (.sl len false ((cs.drop off).take (len * es)))
    | some (.froz cs) => some (.sl len false ((cs.drop off).take (len * es)))
    | _ => none
  | .ptr id off => match hget h id with
    | some (.row cs) => some (.rop (cs.drop off))
    | some (.froz cs) => some (.rop (cs.drop off))
    | some (.box cs) => (match peekL h cs with | some l => some (.rop (l.drop off)) | none => none)
    | _ => none
  | .map _ => none
  | .fn f a b => match viewL h a, viewL h b with | some a', some b' => some (.fn f a' b') | _, _ => none
  | .int k n => some (.int k n)
  | .bool b => some (.bool b)
  | .str s => some (.str s)
  | .flt k b => some (.flt k b)
  | .cpx k a b => some (.cpx k a b)
  | .nil => some .nil
  | .sl l t xs => some (.sl l t xs)
  | .rop xs => some (.rop xs)
  | .cp v => match v.view h with | some v' => some (.cp v') | none => none
  | .nilp => some .nilp
  | .nilfn => some .nilfn
  | .undef => some .undef
def viewL (h : Heap) : List PV → Option (List PV)
  | [] => some []
  | v :: r => match v.view h, viewL h r with | some v', some r' => some (v' :: r') | _, _ => none
end
/-- the numbers that a block speaks of -/
def deepIds (h : Heap) : List Nat → List Nat
  | [] => []
  | i :: r => i :: ((match hget h i with | some b => b.ids | none => []) ++ deepIds h r)
/-- a call -/
def doCall0 (cf : CF) (new : Nat) (h : Heap) (f : Nat) (borrow : Bool) (raw : List Bool) (vs : List PV) : Option (PV × Upd) :=
  let asV := argsOf h raw vs
  match idsL asV with
  | [] =>
    match cf f asV [] with
    | none => none
    | some (r, H) =>
      if borrow then (if r.scalar then some (r, []) else none) else
      if H.length ≤ stride then some (r.mapId (sigN new H.length), frz h (rowsOf h raw vs) ++ updsNew (sigN new H.length) new H) else none
  | is =>
    if borrow then none else
    let S := reach h 100 is []
    if (rowsOf h raw vs).any (S.contains ·) then none else
    match cf f (mapIds (idxIn S) asV) (S.map fun i => (hget h i).map (Blk.mapId (idxIn S))) with
    | none => none
    | some (r, H) =>
      let σ := sigS S new H.length
      if H.length ≤ S.length + stride then some (r.mapId σ, frz h (rowsOf h raw vs) ++ updsAt σ S H ++ updsNew σ new (H.drop S.length)) else none

/-- a call; where nothing but plain data comes back, what is lent is told by value -/
def doCall (cf : CF) (new : Nat) (h : Heap) (f : Nat) (borrow : Bool) (raw : List Bool) (vs : List PV) : Option (PV × Upd) :=
  match (if borrow = true then viewL h vs else none) with
  | some asV => (match cf f asV [] with | some (r, _) => if r.scalar then some (r, []) else none | none => none)
  | none => doCall0 cf new h f borrow raw vs

def evalK (cf : CF) (k : K) (new : Nat) (e : X → PV) (h : Heap) : Option (PV × Upd) :=
  match k with
  | .mv x => some (e x, [])
  | .pick c a b => match e c with | .bool true => some (e a, []) | .bool false => some (e b, []) | _ => none
  | .alloc zero => some (.ptr new 0, [(new, some (.box zero))])
  | .box x => if (e x).cellish then some (.ptr new 0, [(new, some (.box (e x).cells))]) else none
  | .build zero parts => match fillB zero (parts.map fun p => (p.1, p.2.1, e p.2.2)) with | some cs => some (.agg cs, []) | none => none
  | .bslice es len zero parts =>
    match peekL h (parts.map fun p => e p.2) with
    | none =>
      if len * es ≤ 16777216 ∧ 0 < len * es then
        match fillB ((List.replicate len zero).flatten) ((parts.zip (parts.map fun p => e p.2)).map fun p => (p.1.1 * es, es, p.2)) with
        | some cs => some (.own new es 0 len, [(new, some (.box cs))])
        | none => none
      else none
    | some vs =>
      if len * es ≤ 16777216 then
        match fillB ((List.replicate len zero).flatten) ((parts.zip vs).map fun p => (p.1.1 * es, es, p.2)) with
        | some cs => some (.own new es 0 len, frz h (idsL (parts.map fun p => e p.2)) ++ [(new, some (.row cs))])
        | none => none
      else none
  | .load agg size a =>
    let l : Option (List PV) := match e a with
      | .ptr id off => match hget h id with
        | some (.box cs) => some ((cs.drop off).take size)
        | some (.row cs) => some ((cs.drop off).take size)
        | some (.froz cs) => some ((cs.drop off).take size)
        | _ => none
      | .rop xs => some (xs.take size)
      | .cp v => some [v]
      | _ => none
    match l with
    | none => none
    | some l => if l.length = size then (if agg then some (.agg l, []) else match l with | [v] => some (v, []) | _ => none) else none
  | .store size a x =>
    match e a with
    | .ptr id off =>
      if (e x).cellish = true ∧ (e x).cells.length = size then
        match hget h id with
        | some (.box cs) => if off + size ≤ cs.length then some (.undef, [(id, some (.box (setRange cs off (e x).cells)))]) else none
        | some (.row cs) => if off + size ≤ cs.length ∧ (e x).closed = true then some (.undef, [(id, some (.row (setRange cs off (e x).cells)))]) else none
        | _ => none
      else none
    | _ => none
  | .nilck x => match e x with | .ptr id off => some (.ptr id off, []) | .rop xs => some (.rop xs, []) | .cp v => some (.cp v, []) | .fn f a b => some (.fn f a b, []) | _ => none
  | .bin op x y => match binV op (e x) (e y) with | some v => some (v, []) | none => none
  | .eqB neg x y => match e x, e y with | .bool a, .bool b => some (.bool (if neg then !(a == b) else a == b), []) | _, _ => none
  | .eqS neg ks x y => match e x, e y with
    | .agg a, .agg b => if a.map kindOf = ks then (match cellsEq a b with | some r => some (.bool (if neg then !r else r), []) | none => none) else none
    | _, _ => none
  | .eqNil fnc neg x => match isNil fnc (e x) with | some r => some (.bool (if neg then !r else r), []) | none => none
  | .un op x => match unV op (e x) with | some v => some (v, []) | none => none
  | .conv k x => match e x with | .int _ n => some (.int k (k.wrap n), []) | _ => none
  | .strS x => match e x with | .str s => some (.str s, []) | _ => none
  | .s2b x => match e x with | .str s => some (.own new 1 0 s.size, [(new, some (.row (s.toList.map fun b => .int .u8 b.toNat)))]) | _ => none
  | .b2s x => match e x with
    | .str _ => none
    | v => match srcOf h v with
      | none => none
      | some (n, cs) => if cs.length = n then (match bytesOf cs with | some l => some (.str ⟨l.toArray⟩, []) | none => none) else none
  | .mkfunc f first caps => some (.fn f (first.map e) (caps.map e), [])
  | .mkslice es zero l c => match e l, e c with
    | .int _ a, .int _ b => if a = b ∧ 0 ≤ a ∧ a.toNat * es ≤ 16777216 ∧ a ≤ 16777216 then some (.own new es 0 a.toNat, [(new, some (.row ((List.replicate a.toNat zero).flatten)))]) else none
    | _, _ => none
  | .slice str es x lo hi mx =>
    if str then (match e x with
    | .str s => match mx, natOf (lo.map e) 0, natOf (hi.map e) s.size with
      | none, some l, some h => if l ≤ h ∧ h ≤ s.size then some (.str (s.extract l h), []) else none
      | _, _, _ => none
    | _ => none) else
    match e x with
    | .sl len tight xs => match natOf (lo.map e) 0, natOf (hi.map e) len, natOf (mx.map e) len with
      | some l, some h, some m =>
        if l ≤ h ∧ h ≤ m ∧ m ≤ len then
          some (.sl (h - l) (if mx.isSome then decide (h = m) else tight && decide (h = len)) ((xs.drop (l * es)).take ((h - l) * es)), [])
        else none
      | _, _, _ => none
    | .nil => match natOf (lo.map e) 0, natOf (hi.map e) 0, natOf (mx.map e) 0 with
      | some 0, some 0, some 0 => some (.nil, [])
      | _, _, _ => none
    | .own id es' off len => match natOf (lo.map e) 0, natOf (hi.map e) len, natOf (mx.map e) len with
      | some l, some h, some m => if l ≤ h ∧ h ≤ m ∧ m ≤ len ∧ es' = es then some (.own id es (off + l * es) (h - l), []) else none
      | _, _, _ => none
    | _ => none
  | .faddr off x => match e x with | .ptr id o => some (.ptr id (o + off), []) | .rop xs => some (.rop (xs.drop off), []) | _ => none
  | .field agg off size x => match e x with
    | .agg cs => if ((cs.drop off).take size).length = size then (if agg then some (.agg ((cs.drop off).take size), []) else match (cs.drop off).take size with | [v] => some (v, []) | _ => none) else none
    | _ => none
  | .iaddr es x i => match e i with
    | .int _ n => match e x with
      | .sl len _ xs => if 0 ≤ n ∧ n < len then some (.rop (xs.drop (n.toNat * es)), []) else none
      | .own id _ off len => if 0 ≤ n ∧ n < len then some (.ptr id (off + n.toNat * es), []) else none
      | _ => none
    | _ => none
  | .iaddrA es len x i => match e i, e x with
    | .int _ n, .ptr id off => if 0 ≤ n ∧ n < len then some (.ptr id (off + n.toNat * es), []) else none
    | _, _ => none
  | .index x i => match e x, e i with
    | .str s, .int _ n => if 0 ≤ n then (match s[n.toNat]? with | some b => some (.int .u8 b.toNat, []) | none => none) else none
    | _, _ => none
  | .ext x i => match e x with | .tup vs => (match vs[i]? with | some v => some (v, []) | none => none) | _ => none
  | .call f borrow raw args => doCall cf new h f borrow raw (args.map e)
  | .callv borrow raw f args => match e f with | .fn g a b => doCall cf new h g borrow raw (a ++ args.map e ++ b) | _ => none
  | .len str x => if str then (match e x with | .str s => some (.int .i64 s.size, []) | _ => none) else match e x with | .nil => some (.int .i64 0, []) | .sl n _ _ => some (.int .i64 n, []) | .own _ _ _ n => some (.int .i64 n, []) | _ => none
  | .cap x => match e x with | .nil => some (.int .i64 0, []) | .sl n true _ => some (.int .i64 n, []) | _ => none
  | .append es a b => match srcOf h (e b) with
    | none => none
    | some (n, ys) =>
      if ys.length = n * es then
        match e a with
        | .nil => if n ≤ mostLen then some (.own new es 0 n, [(new, some (.row ys))]) else none
        | .sl len true xs => if len + n ≤ mostLen ∧ xs.length = len * es then
            (if len = 0 then some (.own new es 0 n, [(new, some (.row ys))])
             else if n = 0 then some (.sl len true xs, []) else some (.own new es 0 (len + n), [(new, some (.row (xs ++ ys)))])) else none
        | .own id es' off len => match hget h id with
          | some (.row cs) => if len + n ≤ mostLen ∧ len * es ≤ cs.length ∧ off = 0 ∧ es' = es then some (.own new es 0 (len + n), [(id, none), (new, some (.row (cs.take (len * es) ++ ys)))]) else none
          | _ => none
        | _ => none
      else none
  | .appmk es zero a n => match e a, e n with
    | .nil, .int _ m => if 0 ≤ m ∧ m ≤ 16777216 ∧ m.toNat * es ≤ 16777216 then (if m = 0 then some (.nil, []) else some (.own new es 0 m.toNat, [(new, some (.row ((List.replicate m.toNat zero).flatten)))])) else none
    | _, _ => none
  | .no => none
  | .copy es a b => match srcNS h (e b) with
    | none => none
    | some (n, ys) => if ys.length = n * es then
        match e a with
        | .own id _ off len => match hget h id with
          | some (.row cs) => if off + len * es ≤ cs.length then some (.int .i64 (min n len : Nat), [(id, some (.row (setRange cs off (ys.take ((min n len) * es)))))]) else none
          | _ => none
        | _ => none
      else none
  | .clear es zero a => match e a with
    | .own id _ off len => match hget h id with
      | some (.row cs) => if off + len * es ≤ cs.length then some (.undef, [(id, some (.row (setRange cs off ((List.replicate len zero).flatten))))]) else none
      | _ => none
    | .nil => some (.undef, [])
    | .sl 0 _ _ => some (.undef, [])
    | _ => none
  | .minmax mx xs => match xs.map e with | .int k n :: r => (match mm mx (.int k n) r with | some v => some (v, []) | none => none) | _ => none
  | .mkmap => some (.map new, [(new, some (.mp []))])
  | .lookup kk zero ok m k => match e m with
    | .map id => match hget h id with
      | some (.mp es) => match (if kindOf (e k) = kk then mfind es (e k) else none) with
        | some (some v) => some (if ok then .tup [v, .bool true] else v, [])
        | some none => match zero with | [z] => some (if ok then .tup [z, .bool false] else z, []) | _ => none
        | none => none
      | _ => none
    | _ => none
  | .mapup kk m k v => match e m with
    | .map id => match hget h id with
      | some (.mp es) => match (if kindOf (e k) = kk then mfind es (e k) else none) with
        | some _ => if (e v).scalar = true ∧ (e k).scalar = true then some (.undef, [(id, some (.mp (mput es (e k) (e v))))]) else none
        | none => none
      | _ => none
    | _ => none
  | .i2f k x => match e x with | .int _ n => (match pureOf (Conv.intToFloat k n) with | some v => some (v, []) | none => none) | _ => none
  | .cplx a b => match e a, e b with | .flt k x, .flt k' y => if k = k' then some (.cpx k x y, []) else none | _, _ => none
  | .cbox x => match e x with | .ptr id off => some (.cp (.ptr id off), []) | .nilp => some (.cp .nilp, []) | .cp v => some (.cp (.cp v), []) | .rop xs => some (.cp (.rop xs), []) | _ => none
  | .cpart im x => match e x with | .cpx k a b => some (.flt k (if im then b else a), []) | _ => none

/-- all numbers that 'reach' asks for -/
def reachV (h : Heap) : Nat → List Nat → List Nat → List Nat
  | 0, _, _ => []
  | _ + 1, [], _ => []
  | n + 1, i :: todo, seen => if seen.contains i then reachV h n todo seen else
    match hget h i with
    | none => i :: reachV h n todo seen
    | some b => i :: reachV h n (b.ids ++ todo) (seen ++ [i])
def callNeeds (h : Heap) (raw : List Bool) (vs : List PV) : List Nat := idsL vs ++ reachV h 100 (idsL (argsOf h raw vs)) [] ++ deepIds h (idsL vs)
/-- the block that a pointer leads to -/
def PV.pid : PV → List Nat
  | .ptr id _ => [id]
  | _ => []
/-- the blocks that an operation asks for -/
def needs (k : K) (e : X → PV) (h : Heap) : List Nat :=
  match k with
  | .bslice _ _ _ parts => idsL (parts.map fun p => e p.2)
  | .load _ _ a => (e a).pid
  | .store _ a _ => (e a).pid
  | .b2s x => (e x).ids
  | .append _ a b => (e a).ids ++ (e b).ids
  | .copy _ a b => (e a).ids ++ (e b).ids
  | .clear _ _ a => (e a).ids
  | .lookup _ _ _ m _ => (e m).ids
  | .mapup _ m _ _ => (e m).ids
  | .call _ _ raw args => callNeeds h raw (args.map e)
  | .callv _ raw f args => match e f with | .fn _ a b => callNeeds h raw (a ++ args.map e ++ b) | _ => []
  | _ => []
/-- an operation that asks for no block, and changes none -/
def K.free : K → Bool
  | .mv _ | .pick .. | .build .. | .nilck _ | .bin .. | .eqB .. | .eqS .. | .eqNil .. | .un .. | .conv .. | .strS _ | .mkfunc .. | .slice .. | .faddr .. | .field .. | .iaddr .. | .iaddrA .. | .index .. | .ext .. | .len .. | .cap _ | .minmax .. | .i2f .. | .cplx .. | .cpart .. | .cbox .. => true
  | _ => false
/-- an operation that changes no block -/
def K.reads : K → Bool
  | .load .. | .b2s _ | .lookup .. => true
  | .call _ borrow _ _ => borrow
  | .callv borrow _ _ _ => borrow
  | k => k.free
def K.xs : K → List X
  | .mv x | .box x | .nilck x | .un _ x | .conv _ x | .strS x | .s2b x | .b2s x | .faddr _ x | .field _ _ _ x | .ext x _ | .len _ x | .cap x | .eqNil _ _ x | .clear _ _ x | .i2f _ x | .cpart _ x | .cbox x => [x]
  | .pick a b c => [a, b, c]
  | .alloc _ | .mkmap | .no => []
  | .build _ ps => ps.map fun p => p.2.2
  | .bslice _ _ _ ps => ps.map fun p => p.2
  | .load _ _ x => [x]
  | .store _ a x | .bin _ a x | .eqB _ a x | .eqS _ _ a x | .iaddr _ a x | .iaddrA _ _ a x | .index a x | .append _ a x | .appmk _ _ a x | .copy _ a x | .mkslice _ _ a x | .lookup _ _ _ a x | .cplx a x => [a, x]
  | .mkfunc _ a b => a ++ b
  | .slice _ _ x lo hi mx => [x] ++ lo.toList ++ hi.toList ++ mx.toList
  | .call _ _ _ args => args
  | .callv _ _ f args => f :: args
  | .minmax _ xs => xs
  | .mapup _ m k v => [m, k, v]

structure Op where
  dst : Option Nat
  k : K
  guard : Option (Nat × Bool)
  deriving Inhabited

inductive C where
  | skip
  | ops (conf : Option (List (Nat × Nat))) (l : List Op)
  | seq (a b : C)
  | cond (x : X) (a b : C)
  | block (id : Nat) (c : C)
  | loop (lv : List Nat) (pro : List (Nat × Option Nat × Nat)) (c : C)
  | exit (id : Nat)
  | ret
  deriving Inhabited

structure St where
  tmps : List PV
  heap : Heap
  next : Nat
  k0 : Nat
  deriving Inhabited

def St.val (s : St) : X → PV
  | .t n => s.tmps.getD n .undef
  | .c v => v
def setOpt (l : List PV) (d : Option Nat) (v : PV) : List PV :=
  match d with
  | some d => l.set d v
  | none => l
/-- is an operation carried out? -/
def wantedO (s : St) (o : Op) : Option Bool :=
  match o.guard with
  | none => some true
  | some (t, want) => match s.tmps.getD t .undef with | .bool b => some (b == want) | .tup _ => some false | _ => none
def stepOp (cf : CF) (s : St) (new : Nat) (o : Op) : Option St :=
  match wantedO s o with
  | none => none
  | some false => some { s with tmps := setOpt s.tmps o.dst (.tup []) }
  | some true => match evalK cf o.k new s.val s.heap with
    | none => none
    | some (r, u) => some { s with tmps := setOpt s.tmps o.dst r, heap := applyU s.heap u }
def stepOps (cf : CF) (s : St) (new : Nat) : List Op → Option St
  | [] => some { s with next := new }
  | o :: l => match stepOp cf s new o with | none => none | some s' => stepOps cf s' (new + stride) l

/-- what an operation asks for, and what it changes -/
def feet (cf : CF) (s : St) (new : Nat) (o : Op) : List Nat × List Nat :=
  match wantedO s o with
  | some true => (needs o.k s.val s.heap, match evalK cf o.k new s.val s.heap with | some (_, u) => u.map (·.1) | none => [])
  | _ => ([], [])
def feetL (cf : CF) (s : St) (new : Nat) : List Op → List (List Nat × List Nat)
  | [] => []
  | o :: l => feet cf s new o :: (match stepOp cf s new o with | none => [] | some s' => feetL cf s' (new + stride) l)
def apart (a b : List Nat) : Bool := a.all fun x => !b.contains x
def confOk (fs : List (List Nat × List Nat)) : List (Nat × Nat) → Bool
  | [] => true
  | (i, j) :: r =>
    (match fs[i]?, fs[j]? with
      | some a, some b => apart a.2 b.1 && apart a.2 b.2 && apart a.1 b.2
      | _, _ => false) && confOk fs r

inductive Ex where
  | normal
  | exit (id : Nat)
  | ret
  deriving DecidableEq, Inhabited

/-- nil slices that are to be appended to are own rows -/
def promote1 (s : St) (p : Nat × Option Nat × Nat) : St :=
  match s.tmps.getD p.1 .undef, p.2.1 with
  | .nil, none => { s with tmps := s.tmps.set p.1 (.own s.next p.2.2 0 0), heap := hset s.heap s.next (.row []), next := s.next + 1 }
  | .ptr id o, some off => match hget s.heap id with
    | some (.box cs) => match cs[o + off]? with
      | some .nil => { s with heap := hset (hset s.heap id (.box (cs.set (o + off) (.own s.next p.2.2 0 0)))) s.next (.row []), next := s.next + 1 }
      | _ => s
    | _ => s
  | _, _ => s
def promote (s : St) : List (Nat × Option Nat × Nat) → St
  | [] => s
  | p :: r => promote (promote1 s p) r
def keepT (σ : Nat → Option Nat) (lv : List Nat) : Nat → List PV → List PV
  | _, [] => []
  | n, v :: r => (if lv.contains n then v.mapId σ else .undef) :: keepT σ lv (n + 1) r
def liveIds (lv : List Nat) : Nat → List PV → List Nat
  | _, [] => []
  | n, v :: r => (if lv.contains n then v.ids else []) ++ liveIds lv (n + 1) r
def heapOf : Nat → List (Option Blk) → Heap
  | _, [] => []
  | n, some b :: r => (n, b) :: heapOf (n + 1) r
  | n, none :: r => heapOf (n + 1) r
/-- numbers in the blocks that came in -/
def keptIds (h : Heap) (k0 : Nat) : List Nat := (List.range k0).flatMap fun i => match hget h i with | some b => b.ids | none => []
/-- a state cut to what is live, its blocks numbered anew -/
def canonS (lv : List Nat) (pro : List (Nat × Option Nat × Nat)) (s : St) : St :=
  let s := promote s pro
  let S := reach s.heap 100 (keptIds s.heap s.k0 ++ liveIds lv 0 s.tmps) (List.range s.k0)
  { tmps := keepT (idxIn S) lv 0 s.tmps, heap := heapOf 0 (S.map fun i => (hget s.heap i).map (Blk.mapId (idxIn S))), next := S.length, k0 := s.k0 }

def iter (body : St → Option (Ex × St)) : Nat → St → Option (Ex × St)
  | 0, _ => none
  | n + 1, s => match body s with
    | some (.normal, s') => iter body n s'
    | r => r

def evalC (cf : CF) (fuel : Nat) : C → St → Option (Ex × St)
  | .skip, s => some (.normal, s)
  | .ops conf l, s => match stepOps cf s s.next l with
    | some s' => (match conf with
      | none => some (.normal, s')
      | some c => if confOk (feetL cf s s.next l) c then some (.normal, s') else none)
    | none => none
  | .seq a b, s => match evalC cf fuel a s with
    | some (.normal, s') => evalC cf fuel b s'
    | r => r
  | .cond x a b, s => match s.val x with
    | .bool c => if c = true then evalC cf fuel a s else evalC cf fuel b s
    | _ => none
  | .block id c, s => match evalC cf fuel c s with
    | some (.exit i, s') => if i = id then some (.normal, s') else some (.exit i, s')
    | r => r
  | .loop lv pro c, s => iter (fun s => evalC cf fuel c (canonS lv pro s)) fuel s
  | .exit id, s => some (.exit id, s)
  | .ret, s => some (.ret, s)

inductive RV where
  | t (n : Nat)
  | cell (n : Nat) (agg : Bool) (size : Nat)
  deriving Inhabited
structure F where
  ntmps : Nat
  res : List RV
  code : C
  deriving Inhabited

def resV (s : St) : RV → Option PV
  | .t n => some (s.tmps.getD n .undef)
  | .cell n agg size => match evalK (fun _ _ _ => none) (.load agg size (.t n)) 0 s.val s.heap with | some (v, _) => some v | none => none
def resVs (s : St) : List RV → Option (List PV)
  | [] => some []
  | r :: l => match resV s r, resVs s l with | some v, some vs => some (v :: vs) | _, _ => none
def resOne : List PV → PV
  | [v] => v
  | vs => .tup vs
def finish (f : F) (s : St) : Option (PV × List (Option Blk)) :=
  match resVs s f.res with
  | none => none
  | some vs =>
    let r := resOne vs
    let S := reach s.heap 100 (keptIds s.heap s.k0 ++ r.ids) (List.range s.k0)
    some (r.mapId (idxIn S), S.map fun i => (hget s.heap i).map (Blk.mapId (idxIn S)))
def start (f : F) (args : List PV) (H : List (Option Blk)) : St :=
  { tmps := args ++ List.replicate (f.ntmps - args.length) .undef, heap := heapOf 0 H, next := H.length, k0 := H.length }

mutual
/-- a slice told in one way -/
def PV.norm : PV → PV
  | .nil => .sl 0 false []
  | .sl n _ xs => .sl n false xs
  | .agg cs => .agg (norms cs)
  | .tup vs => .tup (norms vs)
  | .int k n => .int k n
  | .bool b => .bool b
  | .str s => .str s
  | .flt k b => .flt k b
  | .cpx k a b => .cpx k a b
  | .own id es off len => .own id es off len
  | .ptr id off => .ptr id off
  | .rop xs => .rop xs
  | .cp v => .cp v
  | .nilp => .nilp
  | .fn f a b => .fn f a b
  | .nilfn => .nilfn
  | .map id => .map id
  | .undef => .undef
def norms : List PV → List PV
  | [] => []
  | v :: r => v.norm :: norms r
end
/-- an answer told by value -/
def pubR (x : PV × List (Option Blk)) : Option (PV × List (Option Blk)) := match x.1.peek (heapOf 0 x.2) with | some v => some (v.norm, []) | none => none
def finishP (d : F) (s : St) : Option (PV × List (Option Blk)) := match finish d s with | some x => pubR x | none => none

inductive Def where
  | body (f : F)
  | pub (f : F)
  | prim (g : List PV → List (Option Blk) → Option (PV × List (Option Blk)))
abbrev Env := Nat → Option Def

def evalF (env : Env) : Nat → CF
  | 0, _, _, _ => none
  | n + 1, f, args, H => match env f with
    | none => none
    | some (.prim g) => g args H
    | some (.body d) => match evalC (evalF env n) n d.code (start d args H) with
      | some (.normal, s) => finish d s
      | some (.ret, s) => finish d s
      | _ => none
    | some (.pub d) => match idsL args, H with
      | [], [] => (match evalC (evalF env n) n d.code (start d (norms args) []) with
        | some (.normal, s) => finishP d s
        | some (.ret, s) => finishP d s
        | _ => none)
      | _, _ => none
end Go.Proofs.YtipnedhclbopdaaDoorEv

/- What a value of the evaluator stands for in a world. -/
set_option linter.unusedVariables false
set_option linter.unusedSimpArgs false
namespace Go.Proofs.YtipnedhclbopdaaDoorEv

mutual
inductive VR (w : World) (o : Nat → Option Nat) (M : Nat → Prop) : PV → Value → Prop
  | int (k n) : VR w o M (.int k n) (.int k n)
  | bool (b) : VR w o M (.bool b) (.bool b)
  | str (s) : VR w o M (.str s) (.string s)
  | flt (k b) : VR w o M (.flt k b) (.float k b)
  | cpx (k a b) : VR w o M (.cpx k a b) (.complex k a b)
  | agg {cs vs} (h : VRs w o M cs vs) (h1 : ∀ v ∈ vs, v.oneCell' = true) : VR w o M (.agg cs) (.agg vs.toArray)
  | tup {cs vs} (h : VRs w o M cs vs) : VR w o M (.tup cs) (.tuple vs.toArray)
  | nil : VR w o M .nil (.slice none 0 0)
  | slEmpty (base cap tight) (h : tight = true → cap = 0) : VR w o M (.sl 0 tight []) (.slice base 0 cap)
  | sl {b off c el fz len cap tight xs vs} (hm : ¬ M b) (hb : w.heap[b]? = some (.cells c el fz)) (h : VRs w o M xs vs) (h1 : ∀ v ∈ vs, v.oneCell' = true) (hc : closedL xs = true)
      (ht : vs <+: c.toList.drop off) (hl : len ≤ cap) (hti : tight = true → cap = len) : VR w o M (.sl len tight xs) (.slice (some ⟨b, off, none⟩) len cap)
  | ownEmpty (id es off base) : VR w o M (.own id es off 0) (.slice base 0 0)
  | own {id es off len b el n cap} (ho : o id = some b) (hs : w.shape? b = some (el, n)) (hl : len ≤ cap) (hf : off + cap * es ≤ n) : VR w o M (.own id es off len) (.slice (some ⟨b, off, none⟩) len cap)
  | ptr {id off b} (ho : o id = some b) (hs : b < w.heap.size) : VR w o M (.ptr id off) (.pointer (some ⟨b, off, none⟩))
  | rop {b off c el fz xs vs} (hm : ¬ M b) (hb : w.heap[b]? = some (.cells c el fz)) (h : VRs w o M xs vs) (h1 : ∀ v ∈ vs, v.oneCell' = true) (hc : closedL xs = true)
      (ht : vs <+: c.toList.drop off) : VR w o M (.rop xs) (.pointer (some ⟨b, off, none⟩))
  | cp {b off c el fz v u} (hm : ¬ M b) (hb : w.heap[b]? = some (.cells c el fz)) (h : VR w o M v u) (h1 : u.oneCell' = true) (ht : [u] <+: c.toList.drop off) : VR w o M (.cp v) (.pointer (some ⟨b, off, none⟩))
  | nilp : VR w o M .nilp (.pointer none)
  | fn {f a b fs cs} (h1 : VRs w o M a fs) (h2 : VRs w o M b cs) : VR w o M (.fn f a b) (.func (.func f) fs.toArray cs.toArray)
  | nilfn : VR w o M .nilfn .nilFunc
  | map {id b} (ho : o id = some b) (hs : b < w.heap.size) : VR w o M (.map id) (.map (some b))
  | undef (v) : VR w o M .undef v
inductive VRs (w : World) (o : Nat → Option Nat) (M : Nat → Prop) : List PV → List Value → Prop
  | nil : VRs w o M [] []
  | cons {c cs v vs} (h : VR w o M c v) (t : VRs w o M cs vs) : VRs w o M (c :: cs) (v :: vs)
end

structure Stp (M : Nat → Prop) (w w' : World) : Prop where
  size : w.heap.size ≤ w'.heap.size
  keep : ∀ b, b < w.heap.size → ¬ M b → w'.heap[b]? = w.heap[b]?
  shp : ∀ b, b < w.heap.size → w'.shape? b = w.shape? b
  os : w'.os = w.os
  tape : w'.tape = w.tape
  output : w'.output = w.output

theorem Stp.refl (M) (w : World) : Stp M w w := ⟨Nat.le_refl _, fun _ _ _ => rfl, fun _ _ => rfl, rfl, rfl, rfl⟩
theorem Stp.trans {M M' : Nat → Prop} {a b c : World} (h : Stp M a b) (k : Stp M' b c) (hm : ∀ x, x < a.heap.size → M' x → M x) : Stp M a c :=
  ⟨Nat.le_trans h.size k.size, fun x hx hn => (k.keep x (Nat.lt_of_lt_of_le hx h.size) (fun q => hn (hm x hx q))).trans (h.keep x hx hn),
   fun x hx => (k.shp x (Nat.lt_of_lt_of_le hx h.size)).trans (h.shp x hx), k.os.trans h.os, k.tape.trans h.tape, k.output.trans h.output⟩
theorem Stp.mono {M M' : Nat → Prop} {a b : World} (h : Stp M a b) (hm : ∀ x, x < a.heap.size → M x → M' x) : Stp M' a b :=
  ⟨h.size, fun x hx hn => h.keep x hx (fun q => hn (hm x hx q)), h.shp, h.os, h.tape, h.output⟩

theorem shape_lt {w : World} {b : Nat} {x} (h : w.shape? b = some x) : b < w.heap.size := by
  unfold World.shape? at h
  rcases Nat.lt_or_ge b w.heap.size with h1 | h1
  · exact h1
  · rw [Array.getElem?_eq_none h1] at h; cases h
theorem heap_lt {w : World} {b : Nat} {x} (h : w.heap[b]? = some x) : b < w.heap.size := by
  rcases Nat.lt_or_ge b w.heap.size with h1 | h1
  · exact h1
  · rw [Array.getElem?_eq_none h1] at h; cases h
theorem shape_of {w : World} {b : Nat} {c el fz} (h : w.heap[b]? = some (.cells c el fz)) : w.shape? b = some (el, c.size) := by
  unfold World.shape?; rw [h]

mutual
theorem VR.step {w w' : World} {o o' : Nat → Option Nat} {M M' : Nat → Prop} (hs : Stp M w w') (ho : ∀ id b, o id = some b → o' id = some b) (hm : ∀ b, b < w.heap.size → M' b → M b) :
    ∀ {v c}, VR w o M v c → VR w' o' M' v c
  | _, _, .int k n => .int k n
  | _, _, .bool b => .bool b
  | _, _, .str s => .str s
  | _, _, .flt k b => .flt k b
  | _, _, .cpx k a b => .cpx k a b
  | _, _, .agg h h1 => .agg (VRs.step hs ho hm h) h1
  | _, _, .tup h => .tup (VRs.step hs ho hm h)
  | _, _, .nil => .nil
  | _, _, .slEmpty base cap tight h => .slEmpty base cap tight h
  | _, _, .sl n hb h h1 hc ht hl hti => .sl (fun q => n (hm _ (heap_lt hb) q)) ((hs.keep _ (heap_lt hb) n).trans hb) (VRs.step hs ho hm h) h1 hc ht hl hti
  | _, _, .ownEmpty id es off base => .ownEmpty id es off base
  | _, _, .own h1 h2 hl hf => .own (ho _ _ h1) ((hs.shp _ (shape_lt h2)).trans h2) hl hf
  | _, _, .ptr h1 h2 => .ptr (ho _ _ h1) (Nat.lt_of_lt_of_le h2 hs.size)
  | _, _, .rop n hb h h1 hc ht => .rop (fun q => n (hm _ (heap_lt hb) q)) ((hs.keep _ (heap_lt hb) n).trans hb) (VRs.step hs ho hm h) h1 hc ht
  | _, _, .cp n hb h h1 ht => .cp (fun q => n (hm _ (heap_lt hb) q)) ((hs.keep _ (heap_lt hb) n).trans hb) (VR.step hs ho hm h) h1 ht
  | _, _, .nilp => .nilp
  | _, _, .fn h1 h2 => .fn (VRs.step hs ho hm h1) (VRs.step hs ho hm h2)
  | _, _, .nilfn => .nilfn
  | _, _, .map h1 h2 => .map (ho _ _ h1) (Nat.lt_of_lt_of_le h2 hs.size)
  | _, _, .undef v => .undef v
theorem VRs.step {w w' : World} {o o' : Nat → Option Nat} {M M' : Nat → Prop} (hs : Stp M w w') (ho : ∀ id b, o id = some b → o' id = some b) (hm : ∀ b, b < w.heap.size → M' b → M b) :
    ∀ {v c}, VRs w o M v c → VRs w' o' M' v c
  | _, _, .nil => .nil
  | _, _, .cons h t => .cons (VR.step hs ho hm h) (VRs.step hs ho hm t)
end
end Go.Proofs.YtipnedhclbopdaaDoorEv

/- Laws of what values stand for; the inventory of blocks. -/
set_option linter.unusedVariables false
set_option linter.unusedSimpArgs false
namespace Go.Proofs.YtipnedhclbopdaaDoorEv
section
variable {w : World} {o o' : Nat → Option Nat} {M M' : Nat → Prop}

theorem VRs.length : ∀ {cs vs}, VRs w o M cs vs → cs.length = vs.length
  | _, _, .nil => rfl
  | _, _, .cons _ t => congrArg (· + 1) t.length
theorem VRs.get : ∀ {cs vs}, VRs w o M cs vs → ∀ {i : Nat} {c : PV}, cs[i]? = some c → ∃ v, vs[i]? = some v ∧ VR w o M c v
  | _, _, .nil, i, c, h => by simp at h
  | _, _, .cons h t, 0, c, e => by simp at e; exact ⟨_, by simp, e ▸ h⟩
  | _, _, .cons h t, i + 1, c, e => by simp at e; obtain ⟨v, h1, h2⟩ := t.get e; exact ⟨v, by simpa using h1, h2⟩
theorem VRs.get' : ∀ {cs vs}, VRs w o M cs vs → ∀ {i : Nat} {v : Value}, vs[i]? = some v → ∃ c, cs[i]? = some c ∧ VR w o M c v
  | _, _, .nil, i, c, h => by simp at h
  | _, _, .cons h t, 0, c, e => by simp at e; exact ⟨_, by simp, e ▸ h⟩
  | _, _, .cons h t, i + 1, c, e => by simp at e; obtain ⟨v, h1, h2⟩ := t.get' e; exact ⟨v, by simpa using h1, h2⟩
theorem VRs.append : ∀ {cs vs ds us}, VRs w o M cs vs → VRs w o M ds us → VRs w o M (cs ++ ds) (vs ++ us)
  | _, _, _, _, .nil, h => h
  | _, _, _, _, .cons h t, k => .cons h (t.append k)
theorem VRs.take : ∀ {cs vs} (n : Nat), VRs w o M cs vs → VRs w o M (cs.take n) (vs.take n)
  | _, _, 0, _ => by simpa using VRs.nil
  | _, _, n + 1, .nil => by simpa using VRs.nil
  | _, _, n + 1, .cons h t => .cons h (t.take n)
theorem VRs.drop : ∀ {cs vs} (n : Nat), VRs w o M cs vs → VRs w o M (cs.drop n) (vs.drop n)
  | _, _, 0, h => h
  | _, _, n + 1, .nil => by simpa using VRs.nil
  | _, _, n + 1, .cons h t => t.drop n
theorem VRs.setRange {cs vs ns ms} (off : Nat) (h : VRs w o M cs vs) (k : VRs w o M ns ms) : VRs w o M (setRange cs off ns) (vs.take off ++ ms ++ vs.drop (off + ms.length)) := by
  unfold Go.Proofs.YtipnedhclbopdaaDoorEv.setRange
  rw [k.length]
  exact ((h.take off).append k).append (h.drop _)
theorem VRs.set : ∀ {cs vs} {c v} (i : Nat), VRs w o M cs vs → VR w o M c v → VRs w o M (cs.set i c) (vs.set i v)
  | _, _, _, _, _, .nil, _ => by simpa using VRs.nil
  | _, _, _, _, 0, .cons h t, k => .cons k t
  | _, _, _, _, i + 1, .cons h t, k => .cons h (t.set i k)
theorem VRs.replicate {c v} (h : VR w o M c v) : ∀ n, VRs w o M (List.replicate n c) (List.replicate n v)
  | 0 => .nil
  | n + 1 => .cons h (VRs.replicate h n)
theorem VRs.undefs : ∀ vs, VRs w o M (List.replicate vs.length .undef) vs
  | [] => .nil
  | v :: vs => .cons (.undef v) (VRs.undefs vs)

mutual
theorem VR.reo : ∀ {v c}, VR w o M v c → v.closed = true → VR w o' M v c
  | _, _, .int k n, _ => .int k n
  | _, _, .bool b, _ => .bool b
  | _, _, .str s, _ => .str s
  | _, _, .flt k b, _ => .flt k b
  | _, _, .cpx k a b, _ => .cpx k a b
  | _, _, .agg h h1, q => .agg (VRs.reo h (by simpa [PV.closed] using q)) h1
  | _, _, .tup h, q => .tup (VRs.reo h (by simpa [PV.closed] using q))
  | _, _, .nil, _ => .nil
  | _, _, .slEmpty base cap tight h, _ => .slEmpty base cap tight h
  | _, _, .sl n hb h h1 hc ht hl hti, _ => .sl n hb (VRs.reo h hc) h1 hc ht hl hti
  | _, _, .ownEmpty id es off base, q => by simp [PV.closed] at q
  | _, _, .own _ _ _ _, q => by simp [PV.closed] at q
  | _, _, .ptr _ _, q => by simp [PV.closed] at q
  | _, _, .rop n hb h h1 hc ht, _ => .rop n hb (VRs.reo h hc) h1 hc ht
  | _, _, .cp n hb h h1 ht, q => .cp n hb (VR.reo h (by simpa [PV.closed] using q)) h1 ht
  | _, _, .nilp, _ => .nilp
  | _, _, .fn h1 h2, q => .fn (VRs.reo h1 (by simp [PV.closed] at q; exact q.1)) (VRs.reo h2 (by simp [PV.closed] at q; exact q.2))
  | _, _, .nilfn, _ => .nilfn
  | _, _, .map _ _, q => by simp [PV.closed] at q
  | _, _, .undef v, _ => .undef v
theorem VRs.reo : ∀ {v c}, VRs w o M v c → closedL v = true → VRs w o' M v c
  | _, _, .nil, _ => .nil
  | _, _, .cons h t, q => .cons (VR.reo h (by simp [closedL] at q; exact q.1)) (VRs.reo t (by simp [closedL] at q; exact q.2))
end

mutual
theorem VR.mapId {σ : Nat → Option Nat} (hσ : ∀ i j, σ i = some j → ∀ b, o i = some b → o' j = some b) : ∀ {v c}, VR w o M v c → VR w o' M (v.mapId σ) c
  | _, _, .int k n => .int k n
  | _, _, .bool b => .bool b
  | _, _, .str s => .str s
  | _, _, .flt k b => .flt k b
  | _, _, .cpx k a b => .cpx k a b
  | _, _, .agg h h1 => by simp only [PV.mapId]; exact .agg (VRs.mapId hσ h) h1
  | _, _, .tup h => by simp only [PV.mapId]; exact .tup (VRs.mapId hσ h)
  | _, _, .nil => .nil
  | _, _, .slEmpty base cap tight h => .slEmpty base cap tight h
  | _, _, .sl n hb h h1 hc ht hl hti => .sl n hb (VRs.reo h hc) h1 hc ht hl hti
  | _, _, .ownEmpty id es off base => by
    simp only [PV.mapId]
    cases h : σ id with
    | none => exact .undef _
    | some j => exact .ownEmpty _ _ _ _
  | _, _, .own (id := id) h1 h2 hl hf => by
    simp only [PV.mapId]
    cases h : σ id with
    | none => exact .undef _
    | some j => exact .own (hσ _ _ h _ h1) h2 hl hf
  | _, _, .ptr (id := id) h1 h2 => by
    simp only [PV.mapId]
    cases h : σ id with
    | none => exact .undef _
    | some j => exact .ptr (hσ _ _ h _ h1) h2
  | _, _, .rop n hb h h1 hc ht => .rop n hb (VRs.reo h hc) h1 hc ht
  | _, _, .cp n hb h h1 ht => .cp n hb (VR.mapId hσ h) h1 ht
  | _, _, .nilp => .nilp
  | _, _, .fn h1 h2 => by simp only [PV.mapId]; exact .fn (VRs.mapId hσ h1) (VRs.mapId hσ h2)
  | _, _, .nilfn => .nilfn
  | _, _, .map (id := id) h1 h2 => by
    simp only [PV.mapId]
    cases h : σ id with
    | none => exact .undef _
    | some j => exact .map (hσ _ _ h _ h1) h2
  | _, _, .undef v => .undef v
theorem VRs.mapId {σ : Nat → Option Nat} (hσ : ∀ i j, σ i = some j → ∀ b, o i = some b → o' j = some b) : ∀ {v c}, VRs w o M v c → VRs w o' M (mapIds σ v) c
  | _, _, .nil => .nil
  | _, _, .cons h t => .cons (VR.mapId hσ h) (VRs.mapId hσ t)
end

/-- none of a block's cells is frozen -/
def unfroz (fz : Nat × Nat) (n : Nat) : Prop := ∀ i, i < n → ¬ (fz.1 ≤ i ∧ i < fz.2)

def MR : List (PV × PV) → List MapEntry → Prop
  | [], [] => True
  | p :: es, m :: ms => (conc p.1 = some m.key ∧ ∀ (w : World) (o : Nat → Option Nat) (M : Nat → Prop), VR w o M p.2 m.val) ∧ MR es ms
  | [], _ :: _ => False
  | _ :: _, [] => False

def BR (w : World) (o : Nat → Option Nat) (M F : Nat → Prop) (id : Nat) : Blk → Prop
  | .box cs => ∃ b c el fz, o id = some b ∧ M b ∧ w.heap[b]? = some (.cells c el fz) ∧ unfroz fz c.size ∧ VRs w o F cs c.toList ∧ ∀ v ∈ c.toList, v.oneCell' = true
  | .row cs => (cs = [] ∧ o id = none) ∨ ∃ b c el fz vs, o id = some b ∧ M b ∧ w.heap[b]? = some (.cells c el fz) ∧ unfroz fz c.size ∧ VRs w o F cs vs ∧ (∀ v ∈ vs, v.oneCell' = true) ∧ closedL cs = true ∧ vs <+: c.toList
  | .froz cs => (cs = [] ∧ o id = none) ∨ ∃ b c el fz vs, o id = some b ∧ ¬ F b ∧ w.heap[b]? = some (.cells c el fz) ∧ VRs w o F cs vs ∧ (∀ v ∈ vs, v.oneCell' = true) ∧ closedL cs = true ∧ vs <+: c.toList
  | .mp es => ∃ b ms k, o id = some b ∧ M b ∧ w.heap[b]? = some (.map ms k) ∧ MR es ms.toList

/-- the laid package table -/
def tabC : Array Value := (Lib.pow10Tab.map fun z => Value.int .u64 z).toArray
structure TabF (w : World) (F : Nat → Prop) : Prop where
  at0 : ∃ el fz, w.heap[0]? = some (.cells tabC el fz)
  off : ¬ F 0
structure MT (w : World) (F : Nat → Prop) : Prop where
  lt : ∀ b, F b → b < w.heap.size
  tab : TabF w F
theorem MT.step {w w' : World} {F F' M : Nat → Prop} (h : MT w F) (hs : Stp M w w') (hm : ∀ b, M b → F b) (hless : ∀ b, b < w.heap.size → F' b → F b) (hlt : ∀ b, F' b → b < w'.heap.size) : MT w' F' := by
  obtain ⟨el, fz, hb⟩ := h.tab.at0
  have h0 := heap_lt hb
  exact ⟨hlt, ⟨el, fz, (hs.keep 0 h0 fun q => h.tab.off (hm 0 q)).trans hb⟩, fun q => h.tab.off (hless 0 h0 q)⟩
theorem MT.same {w w' : World} {F M : Nat → Prop} (h : MT w F) (hs : Stp M w w') (hm : ∀ b, M b → F b) : MT w' F :=
  h.step hs hm (fun _ _ q => q) (fun b q => Nat.lt_of_lt_of_le (h.lt b q) hs.size)
theorem MT.mono {w : World} {F F' : Nat → Prop} (h : MT w F) (hm : ∀ b, F' b → F b) : MT w F' :=
  ⟨fun b q => h.lt b (hm b q), h.tab.at0, fun q => h.tab.off (hm 0 q)⟩
/-- M: the blocks that are one's own; F: the blocks that are somebody's own (no shared slice lies there) -/
structure Inv (w : World) (o : Nat → Option Nat) (M F : Nat → Prop) (h : Heap) : Prop where
  blk : ∀ id B, hget h id = some B → BR w o M F id B
  mlt : MT w F
  sub : ∀ b, M b → F b
  inj : ∀ i j b B C, hget h i = some B → hget h j = some C → o i = some b → o j = some b → i = j
end

section
variable {w : World} {o : Nat → Option Nat} {M F F' : Nat → Prop} {h : Heap}

theorem prefix_window {vs l : List Value} (off k : Nat) (hp : vs <+: l) : (vs.drop off).take k <+: l.drop off :=
  (List.take_prefix _ _).trans (by obtain ⟨r, rfl⟩ := hp; rw [List.drop_append]; exact List.prefix_append _ _)
theorem all_window {vs : List Value} (off k : Nat) (h : ∀ v ∈ vs, v.oneCell' = true) : ∀ v ∈ (vs.drop off).take k, v.oneCell' = true :=
  fun v hv => h v (List.mem_of_mem_drop (List.mem_of_mem_take hv))
theorem closedL_iff : ∀ {cs : List PV}, closedL cs = true ↔ ∀ c ∈ cs, c.closed = true
  | [] => by simp [closedL]
  | c :: cs => by simp [closedL, closedL_iff (cs := cs)]
theorem closedL_window {cs : List PV} (off k : Nat) (h : closedL cs = true) : closedL ((cs.drop off).take k) = true :=
  closedL_iff.2 fun c hc => closedL_iff.1 h c (List.mem_of_mem_drop (List.mem_of_mem_take hc))
theorem closedL_append {a b : List PV} (h : closedL a = true) (k : closedL b = true) : closedL (a ++ b) = true :=
  closedL_iff.2 fun c hc => (List.mem_append.1 hc).elim (closedL_iff.1 h c) (closedL_iff.1 k c)
theorem closedL_take {cs : List PV} (k : Nat) (h : closedL cs = true) : closedL (cs.take k) = true :=
  closedL_iff.2 fun c hc => closedL_iff.1 h c (List.mem_of_mem_take hc)
theorem closedL_drop {cs : List PV} (k : Nat) (h : closedL cs = true) : closedL (cs.drop k) = true :=
  closedL_iff.2 fun c hc => closedL_iff.1 h c (List.mem_of_mem_drop hc)

/-- what 'peek' tells -/
def PeekOk (w : World) (o : Nat → Option Nat) (F' : Nat → Prop) (v' : PV) (c : Value) : Prop := VR w o F' v' c ∧ v'.closed = true
def PeeksOk (w : World) (o : Nat → Option Nat) (F' : Nat → Prop) (v' : List PV) (c : List Value) : Prop := VRs w o F' v' c ∧ closedL v' = true

theorem peek_own (hI : Inv w o M F h) (hm : ∀ b, b < w.heap.size → F' b → F b) {id es off len b el n cap v'} (ho : o id = some b) (hs : w.shape? b = some (el, n)) (hl : len ≤ cap) (hf : off + cap * es ≤ n)
    (hp : PV.peek h (.own id es off len) = some v') (hx : ∀ b, o id = some b → ¬ F' b) : PeekOk w o F' v' (.slice (some ⟨b, off, none⟩) len cap) := by
  simp only [PV.peek] at hp
  have key : ∀ cs c el fz vs, w.heap[b]? = some (.cells c el fz) → VRs w o F cs vs → (∀ v ∈ vs, v.oneCell' = true) → closedL cs = true → vs <+: c.toList →
      PeekOk w o F' (.sl len false ((cs.drop off).take (len * es))) (.slice (some ⟨b, off, none⟩) len cap) := fun cs c el fz vs h3 h4 h5 h6 h7 =>
    ⟨.sl (hx _ ho) h3 (((VRs.step (Stp.refl F w) (fun _ _ h => h) hm h4).drop off).take (len * es)) (all_window _ _ h5) (closedL_window _ _ h6) (prefix_window _ _ h7) hl (by simp), by simp [PV.closed]⟩
  cases hg : hget h id with
  | none => rw [hg] at hp; simp at hp
  | some B =>
    rw [hg] at hp
    have hB := hI.blk _ _ hg
    cases B with
    | box cs => simp at hp
    | mp es => simp at hp
    | row cs =>
      simp at hp; subst hp
      rcases hB with ⟨_, q⟩ | ⟨b', c, el', fz, vs, h1, h2, h3, h3', h4, h5, h6, h7⟩
      · rw [ho] at q; cases q
      · rw [ho] at h1; cases h1
        exact key cs c el' fz vs h3 h4 h5 h6 h7
    | froz cs =>
      simp at hp; subst hp
      rcases hB with ⟨_, q⟩ | ⟨b', c, el', fz, vs, h1, h2, h3, h4, h5, h6, h7⟩
      · rw [ho] at q; cases q
      · rw [ho] at h1; cases h1
        exact key cs c el' fz vs h3 h4 h5 h6 h7
theorem peek_ownEmpty {id es off v'} (base : Option Addr) (hp : PV.peek h (.own id es off 0) = some v') : PeekOk w o F' v' (.slice base 0 0) := by
  simp only [PV.peek] at hp
  cases hg : hget h id with
  | none => rw [hg] at hp; simp at hp
  | some B =>
    rw [hg] at hp
    cases B <;> simp at hp <;> subst hp <;> exact ⟨.slEmpty _ _ _ (by simp), by simp [PV.closed]⟩

mutual
theorem VR.peek (hI : Inv w o M F h) (hm : ∀ b, b < w.heap.size → F' b → F b) : ∀ {v c v'}, VR w o F v c → v.peek h = some v' → (∀ id ∈ v.ids, ∀ b, o id = some b → ¬ F' b) → PeekOk w o F' v' c
  | _, _, _, .int k n, hp, _ => by simp [PV.peek] at hp; subst hp; exact ⟨.int k n, rfl⟩
  | _, _, _, .bool b, hp, _ => by simp [PV.peek] at hp; subst hp; exact ⟨.bool b, rfl⟩
  | _, _, _, .str s, hp, _ => by simp [PV.peek] at hp; subst hp; exact ⟨.str s, rfl⟩
  | _, _, _, .flt k b, hp, _ => by simp [PV.peek] at hp; subst hp; exact ⟨.flt k b, rfl⟩
  | _, _, _, .cpx k a b, hp, _ => by simp [PV.peek] at hp; subst hp; exact ⟨.cpx k a b, rfl⟩
  | _, _, _, .agg (cs := cs) q q1, hp, hx => by
    simp only [PV.peek] at hp
    cases hl : peekL h cs with
    | none => rw [hl] at hp; cases hp
    | some l => rw [hl] at hp; cases hp; have := VRs.peek hI hm q hl (by simpa [PV.ids] using hx); exact ⟨.agg this.1 q1, by simp [PV.closed, this.2]⟩
  | _, _, _, .tup (cs := cs) q, hp, hx => by
    simp only [PV.peek] at hp
    cases hl : peekL h cs with
    | none => rw [hl] at hp; cases hp
    | some l => rw [hl] at hp; cases hp; have := VRs.peek hI hm q hl (by simpa [PV.ids] using hx); exact ⟨.tup this.1, by simp [PV.closed, this.2]⟩
  | _, _, _, .nil, hp, _ => by simp [PV.peek] at hp; subst hp; exact ⟨.nil, rfl⟩
  | _, _, _, .slEmpty base cap tight q, hp, _ => by simp [PV.peek] at hp; subst hp; exact ⟨.slEmpty base cap tight q, rfl⟩
  | _, _, _, .sl n hb q h1 hc ht hl hti, hp, _ => by
    simp [PV.peek] at hp; subst hp
    exact ⟨VR.step (Stp.refl F w) (fun _ _ h => h) hm (.sl n hb q h1 hc ht hl hti), rfl⟩
  | _, _, _, .ownEmpty id es off base, hp, _ => peek_ownEmpty base hp
  | _, _, _, .own (id := id) h1 h2 hl hf, hp, hx => peek_own hI hm h1 h2 hl hf hp (hx id (by simp [PV.ids]))
  | _, _, _, .ptr h1 h2, hp, _ => by simp [PV.peek] at hp
  | _, _, _, .rop n hb q h1 hc ht, hp, _ => by
    simp [PV.peek] at hp; subst hp
    exact ⟨VR.step (Stp.refl F w) (fun _ _ h => h) hm (.rop n hb q h1 hc ht), rfl⟩
  | _, _, _, .cp (v := v) n hb q h1 ht, hp, hx => by
    simp only [PV.peek] at hp
    cases hl : v.peek h with
    | none => rw [hl] at hp; cases hp
    | some v' =>
      rw [hl] at hp; cases hp
      have t1 := VR.peek hI hm q hl (by simpa [PV.ids] using hx)
      exact ⟨.cp (fun q => n (hm _ (heap_lt hb) q)) hb t1.1 h1 ht, by simp [PV.closed, t1.2]⟩
  | _, _, _, .nilp, hp, _ => by simp [PV.peek] at hp; subst hp; exact ⟨.nilp, rfl⟩
  | _, _, _, .fn (a := a) (b := b) q1 q2, hp, hx => by
    simp only [PV.peek] at hp
    cases hl : peekL h a with
    | none => rw [hl] at hp; cases hp
    | some l =>
      cases hl2 : peekL h b with
      | none => rw [hl, hl2] at hp; cases hp
      | some l2 =>
        rw [hl, hl2] at hp; cases hp
        have t1 := VRs.peek hI hm q1 hl (fun id hid => hx id (by simp [PV.ids, hid]))
        have t2 := VRs.peek hI hm q2 hl2 (fun id hid => hx id (by simp [PV.ids, hid]))
        exact ⟨.fn t1.1 t2.1, by simp [PV.closed, t1.2, t2.2]⟩
  | _, _, _, .nilfn, hp, _ => by simp [PV.peek] at hp; subst hp; exact ⟨.nilfn, rfl⟩
  | _, _, _, .map _ _, hp, _ => by simp [PV.peek] at hp
  | _, _, _, .undef v, hp, _ => by simp [PV.peek] at hp; subst hp; exact ⟨.undef v, rfl⟩
theorem VRs.peek (hI : Inv w o M F h) (hm : ∀ b, b < w.heap.size → F' b → F b) : ∀ {v c v'}, VRs w o F v c → peekL h v = some v' → (∀ id ∈ idsL v, ∀ b, o id = some b → ¬ F' b) → PeeksOk w o F' v' c
  | _, _, _, .nil, hp, _ => by simp [peekL] at hp; subst hp; exact ⟨.nil, rfl⟩
  | _, _, _, .cons (c := c) (cs := cs) q t, hp, hx => by
    simp only [peekL] at hp
    cases hl : c.peek h with
    | none => rw [hl] at hp; cases hp
    | some l =>
      cases hl2 : peekL h cs with
      | none => rw [hl, hl2] at hp; cases hp
      | some l2 =>
        rw [hl, hl2] at hp; cases hp
        have t1 := VR.peek hI hm q hl (fun id hid => hx id (by simp [idsL, hid]))
        have t2 := VRs.peek hI hm t hl2 (fun id hid => hx id (by simp [idsL, hid]))
        exact ⟨.cons t1.1 t2.1, by simp [closedL, t1.2, t2.2]⟩
end
end
end Go.Proofs.YtipnedhclbopdaaDoorEv

/- How the inventory of blocks goes on. -/
set_option linter.unusedVariables false
set_option linter.unusedSimpArgs false
namespace Go.Proofs.YtipnedhclbopdaaDoorEv

theorem hget_hset (h : Heap) (k : Nat) (b : Blk) (j : Nat) : hget (hset h k b) j = if k = j then some b else hget h j := by
  induction h with
  | nil => simp [hset, hget]
  | cons p h ih =>
    obtain ⟨i, c⟩ := p
    simp only [hset]
    by_cases e : i = k
    · subst e; simp [hget]
      split <;> simp_all
    · simp only [e, if_false, hget]
      by_cases e2 : i = j
      · subst e2; simp [Ne.symm e]
      · simp [e2, ih]
theorem hget_hdel (h : Heap) (k j : Nat) : hget (hdel h k) j = if k = j then none else hget h j := by
  induction h with
  | nil => simp [hdel, hget]
  | cons p h ih =>
    obtain ⟨i, c⟩ := p
    simp only [hdel]
    by_cases e : i = k
    · subst e
      simp only [if_true, ih, hget]
      split <;> simp_all
    · simp only [e, if_false, hget, ih]
      by_cases e2 : i = j
      · subst e2; simp [Ne.symm e]
      · simp [e2]
def uget : Upd → Nat → Option (Option Blk)
  | [], _ => none
  | (k, b) :: u, j => match uget u j with | some x => some x | none => if k = j then some b else none
theorem hget_applyU : ∀ (u : Upd) (h : Heap) (j : Nat), hget (applyU h u) j = match uget u j with | some x => x | none => hget h j
  | [], h, j => rfl
  | (k, some b) :: u, h, j => by
    simp only [applyU, uget, hget_applyU u]
    cases uget u j with
    | some x => rfl
    | none => simp only [hget_hset]; split <;> simp_all
  | (k, none) :: u, h, j => by
    simp only [applyU, uget, hget_applyU u]
    cases uget u j with
    | some x => rfl
    | none => simp only [hget_hdel]; split <;> simp_all

section
variable {w w' : World} {o o' : Nat → Option Nat} {M M' F F' X : Nat → Prop} {h h' : Heap}

theorem BR.step {id : Nat} {B : Blk} (hs : Stp X w w') (hX : ∀ b, X b → F b) (ho : ∀ id b, o id = some b → o' id = some b) (hm : ∀ b, b < w.heap.size → F' b → F b)
    (hid : ∀ b, o id = some b → ¬ X b ∧ (M b → M' b)) (hn : o id = none → o' id = none) (hB : BR w o M F id B) : BR w' o' M' F' id B := by
  have hs' : Stp F w w' := hs.mono fun b _ q => hX b q
  cases B with
  | box cs =>
    obtain ⟨b, c, el, fz, h1, h2, h3, h4, h5, h6⟩ := hB
    exact ⟨b, c, el, fz, ho _ _ h1, (hid b h1).2 h2, (hs.keep b (heap_lt h3) (hid b h1).1).trans h3, h4, VRs.step hs' ho hm h5, h6⟩
  | row cs =>
    rcases hB with ⟨e, q⟩ | ⟨b, c, el, fz, vs, h1, h2, h3, h4, h5, h6, h7, h8⟩
    · exact .inl ⟨e, hn q⟩
    · exact .inr ⟨b, c, el, fz, vs, ho _ _ h1, (hid b h1).2 h2, (hs.keep b (heap_lt h3) (hid b h1).1).trans h3, h4, VRs.step hs' ho hm h5, h6, h7, h8⟩
  | froz cs =>
    rcases hB with ⟨e, q⟩ | ⟨b, c, el, fz, vs, h1, h2, h3, h5, h6, h7, h8⟩
    · exact .inl ⟨e, hn q⟩
    · exact .inr ⟨b, c, el, fz, vs, ho _ _ h1, fun q => h2 (hm _ (heap_lt h3) q), (hs.keep b (heap_lt h3) (hid b h1).1).trans h3, VRs.step hs' ho hm h5, h6, h7, h8⟩
  | mp es =>
    obtain ⟨b, ms, k, h1, h2, h3, h4⟩ := hB
    exact ⟨b, ms, k, ho _ _ h1, (hid b h1).2 h2, (hs.keep b (heap_lt h3) (hid b h1).1).trans h3, h4⟩

theorem BR.lt {id : Nat} {B : Blk} {b : Nat} (hB : BR w o M F id B) (hb : o id = some b) : b < w.heap.size := by
  cases B with
  | box cs => obtain ⟨b', c, el, fz, h1, h2, h3, _⟩ := hB; rw [h1] at hb; cases hb; exact heap_lt h3
  | row cs =>
    rcases hB with ⟨_, q⟩ | ⟨b', c, el, fz, vs, h1, h2, h3, _⟩
    · rw [q] at hb; cases hb
    · rw [h1] at hb; cases hb; exact heap_lt h3
  | froz cs =>
    rcases hB with ⟨_, q⟩ | ⟨b', c, el, fz, vs, h1, h2, h3, _⟩
    · rw [q] at hb; cases hb
    · rw [h1] at hb; cases hb; exact heap_lt h3
  | mp es => obtain ⟨b', ms, k, h1, h2, h3, _⟩ := hB; rw [h1] at hb; cases hb; exact heap_lt h3

/-- The next state, as far as blocks go: numbers from n1 up to n2 may have come in. -/
structure Nxt (w : World) (o : Nat → Option Nat) (M F : Nat → Prop) (h : Heap) (n1 n2 : Nat) (w' : World) (o' : Nat → Option Nat) (M' F' : Nat → Prop) (h' : Heap) : Prop where
  inv : Inv w' o' M' F' h'
  stp : Stp M w w'
  ext : ∀ id b, o id = some b → o' id = some b
  out : ∀ id, ¬ (n1 ≤ id ∧ id < n2) → o' id = o id
  hout : ∀ id, ¬ (n1 ≤ id ∧ id < n2) → hget h id = none → hget h' id = none
  less : ∀ b, b < w.heap.size → F' b → F b
  lessM : ∀ b, b < w.heap.size → M' b → M b
  keepF : ∀ b, F b → ¬ M b → F' b
  prov : ∀ id b B, hget h' id = some B → o' id = some b → w.heap.size ≤ b ∨ ∃ j C, hget h j = some C ∧ o j = some b

theorem Nxt.of_same (hI : Inv w o M F h) (n1 n2 : Nat) : Nxt w o M F h n1 n2 w o M F h :=
  ⟨hI, .refl _ _, fun _ _ h => h, fun _ _ => rfl, fun _ _ h => h, fun _ _ h => h, fun _ _ h => h, fun _ h _ => h, fun id b B q r => .inr ⟨id, B, q, r⟩⟩

/-- only draws, or other things that touch no block -/
theorem Inv.heap_same (hI : Inv w o M F h) (hs : Stp (fun _ => False) w w') : Inv w' o M F h :=
  ⟨fun id B hB => BR.step hs (fun _ q => q.elim) (fun _ _ h => h) (fun _ _ h => h) (fun b _ => ⟨fun h => h, fun h => h⟩) (fun h => h) (hI.blk id B hB),
   hI.mlt.same hs (fun _ q => q.elim), hI.sub, hI.inj⟩
theorem Nxt.draws (hI : Inv w o M F h) (hs : Stp (fun _ => False) w w') (n1 n2 : Nat) : Nxt w o M F h n1 n2 w' o M F h :=
  ⟨hI.heap_same hs, hs.mono (fun _ _ q => q.elim), fun _ _ h => h, fun _ _ => rfl, fun _ _ h => h, fun _ _ h => h, fun _ _ h => h, fun _ h _ => h, fun id b B q r => .inr ⟨id, B, q, r⟩⟩

def putO (o : Nat → Option Nat) (new b : Nat) : Nat → Option Nat := fun id => if id = new then some b else o id

theorem Stp.push {w w' : World} {ob : Obj} (hw : w'.heap = w.heap.push ob) (h1 : w'.os = w.os) (h2 : w'.tape = w.tape) (h3 : w'.output = w.output) : Stp (fun _ => False) w w' := by
  have hk : ∀ b, b < w.heap.size → w'.heap[b]? = w.heap[b]? := fun b hb => by
    rw [hw, Array.getElem?_push]; simp [Nat.ne_of_lt hb]
  exact ⟨by rw [hw]; simp, fun b hb _ => hk b hb, fun b hb => by unfold World.shape?; rw [hk b hb], h1, h2, h3⟩

/-- a new block -/
theorem Inv.alloc {ob : Obj} {new n2 : Nat} {B : Blk} (hI : Inv w o M F h) (hw : w'.heap = w.heap.push ob) (h1 : w'.os = w.os) (h2 : w'.tape = w.tape) (h3 : w'.output = w.output)
    (hn : o new = none) (hg : hget h new = none) (hr : new < n2)
    (hB : BR w' (putO o new w.heap.size) (fun b => M b ∨ b = w.heap.size) (fun b => F b ∨ b = w.heap.size) new B) :
    Nxt w o M F h new n2 w' (putO o new w.heap.size) (fun b => M b ∨ b = w.heap.size) (fun b => F b ∨ b = w.heap.size) (hset h new B) := by
  have hs := Stp.push hw h1 h2 h3
  have hext : ∀ id b, o id = some b → putO o new w.heap.size id = some b := fun id b q => by
    unfold putO; split
    · next e => subst e; rw [hn] at q; cases q
    · exact q
  have hless : ∀ b, b < w.heap.size → (F b ∨ b = w.heap.size) → F b := fun b hb q => q.elim id (fun e => by omega)
  refine ⟨⟨fun id C hC => ?_, hI.mlt.step hs (fun _ q => q.elim) hless (fun b q => ?_), fun b q => q.imp (hI.sub b) id, fun i j b C D hC hD hi hj => ?_⟩, hs.mono (fun _ _ q => q.elim), hext, fun id q => ?_, fun id q hid => ?_, hless, fun b hb q => q.elim id (fun e => by omega), fun b q _ => .inl q, fun id b B q r => ?_⟩
  · rw [hget_hset] at hC
    split at hC
    · next e => subst e; cases hC; exact hB
    · next e =>
      exact BR.step hs (fun _ q => q.elim) hext hless (fun b _ => ⟨fun q => q, fun q => .inl q⟩) (fun q => by unfold putO; rw [if_neg (Ne.symm e)]; exact q) (hI.blk id C hC)
  · rw [hw]; simp
    rcases q with q | q
    · have := hI.mlt.lt b q; omega
    · omega
  · rw [hget_hset] at hC hD
    unfold putO at hi hj
    by_cases e1 : new = i <;> by_cases e2 : new = j
    · omega
    · rw [if_pos e1.symm] at hi; rw [if_neg (Ne.symm e2)] at hj; rw [if_neg e2] at hD
      have := (hI.blk j D hD).lt hj; cases hi; omega
    · rw [if_pos e2.symm] at hj; rw [if_neg (Ne.symm e1)] at hi; rw [if_neg e1] at hC
      have := (hI.blk i C hC).lt hi; cases hj; omega
    · rw [if_neg (Ne.symm e1)] at hi; rw [if_neg (Ne.symm e2)] at hj; rw [if_neg e1] at hC; rw [if_neg e2] at hD
      exact hI.inj i j b C D hC hD hi hj
  · unfold putO; rw [if_neg]; rintro rfl; exact q ⟨Nat.le_refl _, hr⟩
  · rw [hget_hset, if_neg]
    · exact hid
    · rintro rfl; exact q ⟨Nat.le_refl _, hr⟩
  · rw [hget_hset] at q
    unfold putO at r
    by_cases e : new = id
    · rw [if_pos e.symm] at r; cases r; exact .inl (Nat.le_refl _)
    · rw [if_neg (Ne.symm e)] at r; rw [if_neg e] at q; exact .inr ⟨id, B, q, r⟩

/-- a block written -/
theorem Inv.write {id b : Nat} {A B : Blk} {n1 n2 : Nat} (hI : Inv w o M F h) (hs : Stp (fun x => x = b) w w') (hA : hget h id = some A) (hb : o id = some b) (hM : M b) (hB : BR w' o M F id B) :
    Nxt w o M F h n1 n2 w' o M F (hset h id B) := by
  have hX : ∀ x, x = b → M x := fun x e => e ▸ hM
  refine ⟨⟨fun j C hC => ?_, hI.mlt.same hs (fun x e => hI.sub x (hX x e)), hI.sub, fun i j x C D hC hD hi hj => ?_⟩, hs.mono (fun x _ q => hX x q), fun _ _ q => q, fun _ _ => rfl, fun j q hj => ?_, fun _ _ q => q, fun _ _ q => q, fun _ q _ => q, fun j x C q r => ?_⟩
  · rw [hget_hset] at hC
    split at hC
    · next e => subst e; cases hC; exact hB
    · next e => exact BR.step hs (fun x q => hI.sub x (hX x q)) (fun _ _ q => q) (fun _ _ q => q) (fun x hx => ⟨fun q => e (hI.inj id j b A C hA hC hb (q ▸ hx)), fun q => q⟩) (fun q => q) (hI.blk j C hC)
  · rw [hget_hset] at hC hD
    by_cases e1 : id = i <;> by_cases e2 : id = j
    · omega
    · rw [if_neg e2] at hD; subst e1; exact hI.inj _ _ x A D hA hD hi hj
    · rw [if_neg e1] at hC; subst e2; exact hI.inj _ _ x C A hC hA hi hj
    · rw [if_neg e1] at hC; rw [if_neg e2] at hD; exact hI.inj i j x C D hC hD hi hj
  · rw [hget_hset, if_neg]
    · exact hj
    · rintro rfl; rw [hA] at hj; cases hj
  · rw [hget_hset] at q
    split at q
    · next e => subst e; exact .inr ⟨_, A, hA, r⟩
    · exact .inr ⟨j, C, q, r⟩

theorem Inv.del (hI : Inv w o M F h) (id : Nat) : Inv w o M F (hdel h id) :=
  ⟨fun j C hC => by rw [hget_hdel] at hC; split at hC; cases hC; exact hI.blk j C hC, hI.mlt, hI.sub,
   fun i j b C D hC hD hi hj => by rw [hget_hdel] at hC hD; split at hC; cases hC; split at hD; cases hD; exact hI.inj i j b C D hC hD hi hj⟩

/-- rows that are shared from here on -/
theorem Inv.freeze (hI : Inv w o M F h) (hm : ∀ b, F' b → F b) (hsub : ∀ b, M' b → F' b) : ∀ (l : List Nat),
    (∀ id B b, hget h id = some B → o id = some b → M b → (M' b ∨ id ∈ l ∧ ∃ cs, B = .row cs)) → (∀ id ∈ l, ∀ b cs, hget h id = some (.row cs) → o id = some b → ¬ F' b) → Inv w o M' F' (applyU h (frz h l)) := by
  intro l h1 h2
  have hu : ∀ l j, uget (frz h l) j = if j ∈ l then (match hget h j with | some (.row cs) => some (some (.froz cs)) | _ => none) else none := by
    intro l
    induction l with
    | nil => intro j; simp [Go.Proofs.YtipnedhclbopdaaDoorEv.frz, uget]
    | cons i l ih =>
      intro j
      simp only [Go.Proofs.YtipnedhclbopdaaDoorEv.frz]
      cases hi : hget h i with
      | none => simp only [ih]; by_cases e : j = i
                · subst e; simp [hi]
                · simp [e]
      | some B =>
        cases B with
        | row cs =>
          simp only [uget, ih]
          by_cases e : i = j
          · subst e; by_cases q : i ∈ l <;> simp [hi, q]
          · have e' : ¬ j = i := fun q => e q.symm
            by_cases q : j ∈ l
            · simp only [e, e', q, if_true, if_false, List.mem_cons, or_true, false_or]
              cases hj : hget h j with
              | none => rfl
              | some D => cases D <;> rfl
            · simp [e, e', q]
        | box cs => simp only [ih]; by_cases e : j = i
                    · subst e; simp [hi]
                    · simp [e]
        | froz cs => simp only [ih]; by_cases e : j = i
                     · subst e; simp [hi]
                     · simp [e]
        | mp cs => simp only [ih]; by_cases e : j = i
                   · subst e; simp [hi]
                   · simp [e]
  have hgt : ∀ j C, hget (applyU h (Go.Proofs.YtipnedhclbopdaaDoorEv.frz h l)) j = some C → ∃ D, hget h j = some D ∧ (D = C ∧ (∀ cs, D = .row cs → j ∉ l) ∨ j ∈ l ∧ ∃ cs, D = .row cs ∧ C = .froz cs) := by
    intro j C hC
    rw [hget_applyU, hu] at hC
    by_cases e : j ∈ l
    · simp only [e, if_true] at hC
      cases hj : hget h j with
      | none => rw [hj] at hC; simp [hj] at hC
      | some D =>
        rw [hj] at hC
        cases D with
        | row cs => simp at hC; exact ⟨_, rfl, .inr ⟨e, cs, rfl, hC.symm⟩⟩
        | box cs => simp [hj] at hC; exact ⟨_, rfl, .inl ⟨hC, by simp⟩⟩
        | froz cs => simp [hj] at hC; exact ⟨_, rfl, .inl ⟨hC, by simp⟩⟩
        | mp cs => simp [hj] at hC; exact ⟨_, rfl, .inl ⟨hC, by simp⟩⟩
    · simp only [e, if_false] at hC
      exact ⟨C, hC, .inl ⟨rfl, fun _ _ => e⟩⟩
  refine ⟨fun j C hC => ?_, hI.mlt.mono hm, hsub, fun i j b C D hC hD hi hj => ?_⟩
  · obtain ⟨D, hD, hx⟩ := hgt j C hC
    rcases hx with ⟨rfl, hx⟩ | ⟨hl, cs, rfl, rfl⟩
    · refine BR.step (Stp.refl (fun _ => False) w) (fun _ q => q.elim) (fun _ _ q => q) (fun b _ q => hm b q) (fun b hb => ⟨fun q => q, fun q => ?_⟩) (fun q => q) (hI.blk j D hD)
      rcases h1 j D b hD hb q with r | ⟨r1, cs, rfl⟩
      · exact r
      · exact absurd r1 (hx cs rfl)
    · rcases hI.blk j _ hD with q | ⟨b, c, el, fz, vs, q1, q2, q3, q4, q5, q6, q7, q8⟩
      · exact .inl q
      · exact .inr ⟨b, c, el, fz, vs, q1, h2 j hl b cs hD q1, q3, VRs.step (Stp.refl _ _) (fun _ _ q => q) (fun b _ q => hm b q) q5, q6, q7, q8⟩
  · obtain ⟨D1, hD1, _⟩ := hgt i C hC
    obtain ⟨D2, hD2, _⟩ := hgt j D hD
    exact hI.inj i j b D1 D2 hD1 hD2 hi hj
end
end Go.Proofs.YtipnedhclbopdaaDoorEv

/- Cells read and written, in the words of the evaluator. -/
set_option linter.unusedVariables false
set_option linter.unusedSimpArgs false
namespace Go.Proofs.YtipnedhclbopdaaDoorEv

theorem setCell_heap {w : World} {b i : Nat} {c : Array Value} {el : TypeId} {fz : Nat × Nat} (v : Value) (h : w.heap[b]? = some (.cells c el fz)) :
    (w.setCell ⟨b, i, none⟩ v).heap[b]? = some (.cells (c.setIfInBounds i v) el fz) ∧ Stp (fun x => x = b) w (w.setCell ⟨b, i, none⟩ v) := by
  have hb := heap_lt h
  have hh : ∀ x, (w.setCell ⟨b, i, none⟩ v).heap[x]? = if b = x then some (.cells (c.setIfInBounds i v) el fz) else w.heap[x]? := by
    intro x
    unfold World.setCell
    simp only [Array.getElem?_modify]
    by_cases e : b = x
    · subst e; simp [h]
    · simp [e]
  refine ⟨by rw [hh]; simp, ⟨by simp [World.setCell], fun x hx hn => by rw [hh, if_neg (fun e => hn e.symm)], fun x hx => ?_, rfl, rfl, rfl⟩⟩
  unfold World.shape?
  rw [hh]
  by_cases e : b = x
  · subst e; simp [h]
  · simp [e]

theorem setCells_heap {b : Nat} {el : TypeId} {fz : Nat × Nat} : ∀ (vs : List Value) (off : Nat) (w : World) (c : Array Value), w.heap[b]? = some (.cells c el fz) → off + vs.length ≤ c.size →
    ∃ c', (w.setCells b off vs).heap[b]? = some (.cells c' el fz) ∧ c'.size = c.size ∧ c'.toList = c.toList.take off ++ vs ++ c.toList.drop (off + vs.length) ∧ Stp (fun x => x = b) w (w.setCells b off vs)
  | [], off, w, c, h, _ => ⟨c, h, rfl, by simp, .refl _ _⟩
  | v :: vs, off, w, c, h, hl => by
    obtain ⟨h1, h2⟩ := setCell_heap (i := off) v h
    simp at hl
    obtain ⟨c', q1, q2, q3, q4⟩ := setCells_heap vs (off + 1) _ _ h1 (by simp; omega)
    refine ⟨c', q1, by simpa using q2, ?_, h2.trans q4 (fun _ _ q => q)⟩
    rw [q3]
    have ho : off < c.toList.length := by simp; omega
    have e1 : (c.setIfInBounds off v).toList = c.toList.set off v := by simp
    rw [e1, List.take_set, List.drop_set, if_pos (by omega)]
    have e2 : (List.take (off + 1) c.toList).set off v = c.toList.take off ++ [v] := by
      rw [List.take_succ_eq_append_getElem ho, List.set_append_right _ _ (by simp; omega)]
      have ho' : min off c.size = off := by simp at ho; omega
      simp [ho']
    rw [e2]
    simp [Nat.add_assoc, Nat.add_comm 1]

theorem there_of {w : World} {b : Nat} {c : Array Value} {el : TypeId} {fz : Nat × Nat} (h : w.heap[b]? = some (.cells c el fz)) (hu : unfroz fz c.size) (o n : Nat) (hn : o + n ≤ c.size) : w.there b o n := by
  intro j hj
  refine ⟨?_, ?_⟩
  · unfold World.cell?; simp [h]; omega
  · unfold World.frozen?; rw [h]
    have := hu (o + j) (by omega)
    simp only [Bool.and_eq_false_iff, decide_eq_false_iff_not]
    by_cases q : fz.1 ≤ o + j
    · exact .inr fun q2 => this ⟨q, q2⟩
    · exact .inl q

theorem cell_of_prefix {w : World} {b off : Nat} {c : Array Value} {el : TypeId} {fz : Nat × Nat} {vs : List Value} (h : w.heap[b]? = some (.cells c el fz)) (hp : vs <+: c.toList.drop off) :
    ∀ (j : Nat) (v : Value), vs[j]? = some v → w.cell? ((⟨b, off, none⟩ : Addr).add j) = some v := by
  intro j v hj
  rw [Addr.add_mid]
  obtain ⟨r, hr⟩ := hp
  have : (c.toList.drop off)[j]? = some v := by
    rw [← hr, List.getElem?_append_left]
    · exact hj
    · exact (List.getElem?_eq_some_iff.1 hj).1
  rw [List.getElem?_drop] at this
  unfold World.cell?
  simp only [h]
  simpa using this

theorem run_load_cells (P : Program) {w : World} {b off : Nat} {c : Array Value} {el : TypeId} {fz : Nat × Nat} {vs : List Value} (h : w.heap[b]? = some (.cells c el fz)) (hp : vs <+: c.toList.drop off) {n : Nat} (hn : vs.length = n) :
    (loadCells ⟨b, off, none⟩ n).run P w = .ok vs.toArray w := by
  subst hn; exact run_loadCells_list (P := P) w _ vs (cell_of_prefix h hp)

theorem prefix_take {vs l : List Value} {off : Nat} (hp : vs <+: l.drop off) (k : Nat) : (vs.take k) <+: l.drop off := (List.take_prefix _ _).trans hp

def aggT (P : Program) (t : TypeId) : Option Bool :=
  match P.underlying t with
  | some (.struct _) => some true
  | some (.array _ _) => some true
  | some _ => some false
  | none => none
def szT (P : Program) (t : TypeId) : Option Nat := (P.info? t).map (·.size)

theorem run_isAgg_of {P : Program} {t : TypeId} {b : Bool} (h : aggT P t = some b) (w : World) : (isAgg t).run P w = .ok b w := by
  unfold aggT at h
  unfold isAgg
  cases hu : P.underlying t with
  | none => rw [hu] at h; cases h
  | some d =>
    rw [hu] at h
    simp only [Sem.run_bind, run_underlying hu, Result.andThen_ok]
    cases d <;> simp at h <;> subst h <;> rfl
theorem run_sizeOf_of {P : Program} {t : TypeId} {n : Nat} (h : szT P t = some n) (w : World) : (sizeOf t).run P w = .ok n w := by
  unfold szT at h
  cases hi : P.info? t with
  | none => rw [hi] at h; cases h
  | some i => rw [hi] at h; simp at h; subst h; simp [sizeOf, typeInfo, hi]

theorem run_loadVar_of {P : Program} {w : World} {t : TypeId} {agg : Bool} {size b off : Nat} {c : Array Value} {el : TypeId} {fz : Nat × Nat} {vs : List Value} (ha : aggT P t = some agg) (hs : szT P t = some size)
    (h : w.heap[b]? = some (.cells c el fz)) (hp : vs <+: c.toList.drop off) (hl : vs.length = size) (h1 : agg = true ∨ size = 1) :
    (loadVar t ⟨b, off, none⟩).run P w = .ok (if agg then .agg vs.toArray else vs.headD undef) w := by
  unfold loadVar
  simp only [Sem.run_bind, run_isAgg_of ha, Result.andThen_ok]
  cases agg with
  | true => simp [run_sizeOf_of hs, run_load_cells P h hp hl]
  | false =>
    have hone : size = 1 := by rcases h1 with q | q; cases q; exact q
    match vs, hl with
    | [v], _ =>
      have := cell_of_prefix h hp 0 v rfl
      have e : (⟨b, off, none⟩ : Addr).add 0 = ⟨b, off, none⟩ := rfl
      rw [e] at this
      simp [this]
    | [], hl => simp at hl; omega
    | _ :: _ :: _, hl => simp at hl; omega

theorem cells_array (v : Value) : ∃ l : List Value, v.cells = l.toArray ∧ (v = .agg l.toArray ∨ l = [v] ∧ ∀ x, v ≠ .agg x) := by
  cases v with
  | agg cs => exact ⟨cs.toList, by simp [Value.cells], .inl (by simp)⟩
  | _ => exact ⟨[_], rfl, .inr ⟨rfl, by simp⟩⟩

theorem run_storeVar_of {P : Program} {w : World} {t : TypeId} {size b off : Nat} {c : Array Value} {el : TypeId} {fz : Nat × Nat} {v : Value} {vs : List Value} (hs : szT P t = some size)
    (h : w.heap[b]? = some (.cells c el fz)) (hu : unfroz fz c.size) (hv : v.cells.toList = vs) (h1 : ∀ u ∈ vs, u.oneCell' = true) (hl : vs.length = size) (hf : off + size ≤ c.size) :
    (storeVar t ⟨b, off, none⟩ v).run P w = .ok () (w.setCells b off vs) := by
  unfold storeVar
  subst hl
  subst hv
  have e : (v.cells.size ≠ v.cells.toList.length) = False := by simp
  have ht := there_of h hu off v.cells.toList.length hf
  have hst := run_storeCells_cells (P := P) b off v.cells.toList 0 w (fun j hj => by simpa using (ht j hj).1) (fun j hj => by simpa using (ht j hj).2) h1
  simp only [Nat.add_zero] at hst
  simp only [Sem.run_bind, run_sizeOf_of hs, Result.andThen_ok]
  simp only [e, if_false, Sem.run_bind, hst]

/-- cells of a value that the evaluator knows -/
theorem VR.cells {w : World} {o : Nat → Option Nat} {M : Nat → Prop} {v : PV} {c : Value} (h : VR w o M v c) (hc : v.cellish = true) : VRs w o M v.cells c.cells.toList ∧ ∀ u ∈ c.cells.toList, u.oneCell' = true := by
  cases h <;> first
    | (simp [PV.cellish] at hc; done)
    | (rename_i h1 h2; exact ⟨by simpa [PV.cells, Value.cells] using h1, by simpa [Value.cells] using h2⟩)
    | (refine ⟨?_, by simp [Value.cells, Value.oneCell']⟩; simp only [PV.cells, Value.cells]; exact .cons (by constructor <;> assumption) .nil)
    | skip
end Go.Proofs.YtipnedhclbopdaaDoorEv

/- An operation of the program, as the evaluator's. -/
set_option linter.unusedVariables false
set_option linter.unusedSimpArgs false
namespace Go.Proofs.YtipnedhclbopdaaDoorEv

def ofConst : Value → Option PV
  | .agg cs => match cs.toList.mapM valOf with | some l => some (.agg l) | none => none
  | .func (.func f) a b => if a.size = 0 ∧ b.size = 0 then some (.fn f [] []) else none
  | v => valOf v
def copX : Operand → Option X
  | .tmp t => some (.t t)
  | .const v => match ofConst v with | some p => some (.c p) | none => none
  | .global _ => none
  | .func f => some (.c (.fn f [] []))
def copXO : Option Operand → Option (Option X)
  | none => some none
  | some x => match copX x with | some y => some (some y) | none => none
def zeroT (P : Program) (t : TypeId) : Option (List PV) :=
  match P.info? t with
  | some i => match i.zero with
    | some z => if z.cells.size = i.size then z.cells.toList.mapM valOf else none
    | none => none
  | none => none
/-- data without slices, maps, functions, pointers -/
def scalarT (P : Program) : Nat → TypeId → Bool
  | 0, _ => false
  | n + 1, t => match P.underlying t with
    | some .bool => true
    | some (.int _) => true
    | some (.float _) => true
    | some (.complex _) => true
    | some .string => true
    | some (.struct fs) => fs.toList.all fun f => scalarT P n f.type
    | some (.array _ e) => scalarT P n e
    | some (.tuple ts) => ts.toList.all fun e => scalarT P n e
    | _ => false
def isNilS : Operand → Bool
  | .const (.slice none 0 0) => true
  | _ => false
def isNilF : Operand → Bool
  | .const .nilFunc => true
  | _ => false
def eqFsW (P : Program) (e : TypeId → Bool) : Nat → List Field → Option Nat
  | off, [] => some off
  | off, f :: fs => if f.name ≠ "_" ∧ f.offset = off ∧ e f.type = true then (match szT P f.type with | some s => eqFsW P e (off + s) fs | none => none) else none
/-- a type whose values are told apart cell by cell -/
def eqT (P : Program) : Nat → TypeId → Bool
  | 0, _ => false
  | n + 1, t => match P.underlying t with
    | some (.int _) => szT P t == some 1
    | some .bool => szT P t == some 1
    | some .string => szT P t == some 1
    | some (.struct fs) => !P.stoodInHeld t && (match szT P t with | some s => eqFsW P (eqT P n) 0 fs.toList == some s | none => false)
    | _ => false
abbrev eqFs (P : Program) (n : Nat) : Nat → List Field → Option Nat := eqFsW P (eqT P n)
def ksFsW (k : TypeId → List Nat) : List Field → List Nat
  | [] => []
  | f :: fs => k f.type ++ ksFsW k fs
def ksT (P : Program) : Nat → TypeId → List Nat
  | 0, _ => []
  | n + 1, t => match P.underlying t with
    | some (.int _) => [0]
    | some .bool => [1]
    | some .string => [2]
    | some (.struct fs) => ksFsW (ksT P n) fs.toList
    | _ => []
abbrev ksFs (P : Program) (n : Nat) : List Field → List Nat := ksFsW (ksT P n)
def kkD : TypeDesc → Option Nat
  | .int _ => some 0
  | .bool => some 1
  | .string => some 2
  | _ => none
def kkT (P : Program) (t : TypeId) : Option Nat := (P.underlying t).bind kkD
def zero1 (P : Program) (t : TypeId) : Option PV := ((P.info? t).bind (·.zero)).bind valOf
def copPart (place : Nat → Option (Nat × Nat)) (p : Nat × Operand) : Option (Nat × Nat × X) :=
  match place p.1, copX p.2 with
  | some q, some x => some (q.1, q.2, x)
  | _, _ => none
def copPart1 (p : Nat × Operand) : Option (Nat × X) :=
  match copX p.2 with
  | some x => some (p.1, x)
  | none => none
def copK (P : Program) (raws : Nat → List Bool) (o : Oper) : Option K :=
  match o.op with
  | .move x => do some (.mv (← copX x))
  | .assign x => do some (.mv (← copX x))
  | .pick c a b => do some (.pick (← copX c) (← copX a) (← copX b))
  | .alloc e => do some (.alloc (← zeroT P e))
  | .box e x => match P.underlying e with
    | some (.pointer _) => do some (.cbox (← copX x))
    | _ => do some (.box (← copX x))
  | .build t ps => match P.underlying t with
    | some (.struct fields) => do
      let z ← zeroT P t
      let places ← fields.toList.mapM (fun f => (P.info? f.type).map fun i => (f.offset, i.size))
      let l ← ps.toList.mapM (copPart (fun i => places.toArray[i]?))
      some (.build z l)
    | some (.array _ elem) => do
      let z ← zeroT P t
      let s ← szT P elem
      let l ← ps.toList.mapM (copPart (fun i => some (i * s, s)))
      some (.build z l)
    | _ => none
  | .buildSlice t n ps => match P.underlying t with
    | some (.slice e) => do
      let z ← zeroT P e
      let s ← szT P e
      let l ← ps.toList.mapM copPart1
      if 0 < s then some (.bslice s n z l) else none
    | _ => none
  | .load t a => do
    let g ← aggT P t
    let s ← szT P t
    if g = true ∨ s = 1 then some (.load g s (← copX a)) else none
  | .store t a x => do some (.store (← szT P t) (← copX a) (← copX x))
  | .nilCheck x => do some (.nilck (← copX x))
  | .panic _ => some .no
  | .makeInterface _ _ => some .no
  | .binOp op t x y _ => match P.underlying t with
    | some (.int _) => do some (.bin op (← copX x) (← copX y))
    | some (.float _) => do some (.bin op (← copX x) (← copX y))
    | some .string => do some (.bin op (← copX x) (← copX y))
    | some .bool => match op with
      | .eql => do some (.eqB false (← copX x) (← copX y))
      | .neq => do some (.eqB true (← copX x) (← copX y))
      | _ => none
    | some (.struct _) => if eqT P 4 t && !(P.eqGuardType P.depth t) then (match op with
      | .eql => do some (.eqS false (ksT P 4 t) (← copX x) (← copX y))
      | .neq => do some (.eqS true (ksT P 4 t) (← copX x) (← copX y))
      | _ => none) else none
    | some (.slice _) => if isNilS y then (match op with
      | .eql => do some (.eqNil false false (← copX x))
      | .neq => do some (.eqNil false true (← copX x))
      | _ => none) else none
    | some (.func _ _ _) => if isNilF y then (match op with
      | .eql => do some (.eqNil true false (← copX x))
      | .neq => do some (.eqNil true true (← copX x))
      | _ => none) else none
    | _ => none
  | .unOp op t x => do some (.un op (← copX x))
  | .convert src dst x => match P.underlying src, P.underlying dst with
    | some (.int _), some (.int k) => do some (.conv k (← copX x))
    | some .string, some .string => do some (.strS (← copX x))
    | some (.int _), some (.float k) => do some (.i2f k (← copX x))
    | some .string, some (.slice e) => match P.underlying e with | some (.int .u8) => do some (.s2b (← copX x)) | _ => none
    | some (.slice e), some .string => match P.underlying e with | some (.int .u8) => do some (.b2s (← copX x)) | _ => none
    | _, _ => none
  | .makeFunc (.func f) a b => do some (.mkfunc f (← a.toList.mapM copX) (← b.toList.mapM copX))
  | .makeSlice t l c => match P.underlying t with
    | some (.slice e) => do
      let s ← szT P e
      if 0 < s ∧ ((P.info? e).map (·.bytes)).getD 16777217 ≤ 65536 then some (.mkslice s (← zeroT P e) (← copX l) (← copX c)) else none
    | _ => none
  | .slice t x lo hi mx => if mx.isSome && hi.isNone then none else match P.underlying t with
    | some .string => do some (.slice true 1 (← copX x) (← copXO lo) (← copXO hi) (← copXO mx))
    | some (.slice e) => do some (.slice false (← szT P e) (← copX x) (← copXO lo) (← copXO hi) (← copXO mx))
    | _ => none
  | .fieldAddr t x i => match P.underlying t with
    | some (.struct fs) => do
      let f ← fs[i]?
      let s ← szT P f.type
      if 0 < s then some (.faddr f.offset (← copX x)) else none
    | _ => none
  | .field t x i => match P.underlying t with
    | some (.struct fs) => do
      let f ← fs[i]?
      let g ← aggT P f.type
      let s ← szT P f.type
      if 0 < s ∧ (g = true ∨ s = 1) then some (.field g f.offset s (← copX x)) else none
    | _ => none
  | .indexAddr t x i => match P.underlying t with
    | some (.slice e) => do some (.iaddr (← szT P e) (← copX x) (← copX i))
    | some (.array n e) => do some (.iaddrA (← szT P e) n (← copX x) (← copX i))
    | _ => none
  | .index t x i => match P.underlying t with
    | some .string => do some (.index (← copX x) (← copX i))
    | _ => none
  | .extract x i => do some (.ext (← copX x) i)
  | .makeMap _ none => some .mkmap
  | .lookup t m k ok => match P.underlying t with
    | some (.map kt et) => do some (.lookup (← kkT P kt) [← zero1 P et] ok (← copX m) (← copX k))
    | _ => none
  | .mapUpdate t m k v => match P.underlying t with
    | some (.map kt _) => do some (.mapup (← kkT P kt) (← copX m) (← copX k) (← copX v))
    | _ => none
  | .call c => match c.callee with
    | .value (.func f) => do
      let fn ← P.funcs[f]?
      if fn.body.isSome && !(fn.name == "runtime.NumGoroutine") then some (.call f (scalarT P 5 o.type && !(raws f).any id) (raws f) (← c.args.toList.mapM copX)) else none
    | .value x => do some (.callv false [] (← copX x) (← c.args.toList.mapM copX))
    | .builtin .len => match c.args.toList, c.argTypes.toList with
      | [x], [t] => match P.underlying t with
        | some .string => do some (.len true (← copX x))
        | some (.slice _) => do some (.len false (← copX x))
        | _ => none
      | _, _ => none
    | .builtin .cap => match c.args.toList, c.argTypes.toList with
      | [x], [t] => match P.underlying t with
        | some (.slice _) => do some (.cap (← copX x))
        | _ => none
      | _, _ => none
    | .builtin .append => match c.args.toList, c.argTypes.toList with
      | [x, y], [t, u] => match P.underlying t, P.underlying u with
        | some (.slice e), some (.slice _) => do
          let s ← szT P e
          let i ← P.info? e
          let _ ← zeroT P e
          if 0 < s ∧ i.bytes ≤ 16384 then some (.append s (← copX x) (← copX y)) else none
        | some (.slice e), some .string => do
          let s ← szT P e
          let i ← P.info? e
          let _ ← zeroT P e
          if s = 1 ∧ i.bytes ≤ 16384 then some (.append s (← copX x) (← copX y)) else none
        | some (.slice e), some (.int _) => do
          let s ← szT P e
          let i ← P.info? e
          let z ← zeroT P e
          if 0 < s ∧ i.bytes ≤ 16384 then some (.appmk s z (← copX x) (← copX y)) else none
        | _, _ => none
      | _, _ => none
    | .builtin .copy => match c.args.toList, c.argTypes.toList with
      | [x, y], [t, _] => match P.underlying t with
        | some (.slice e) => do
          let s ← szT P e
          if 0 < s then some (.copy s (← copX x) (← copX y)) else none
        | _ => none
      | _, _ => none
    | .builtin .clear => match c.args.toList, c.argTypes.toList with
      | [x], [t] => match P.underlying t with
        | some (.slice e) => do some (.clear (← szT P e) (← zeroT P e) (← copX x))
        | _ => none
      | _, _ => none
    | .builtin .complex => match c.args.toList, c.argTypes.toList with
      | [x, y], [_, _] => do some (.cplx (← copX x) (← copX y))
      | _, _ => none
    | .builtin .real => match c.args.toList, c.argTypes.toList with
      | [x], [_] => do some (.cpart false (← copX x))
      | _, _ => none
    | .builtin .imag => match c.args.toList, c.argTypes.toList with
      | [x], [_] => do some (.cpart true (← copX x))
      | _, _ => none
    | .builtin .max => do some (.minmax true (← c.args.toList.mapM copX))
    | .builtin .min => do some (.minmax false (← c.args.toList.mapM copX))
    | _ => none
  | _ => none
end Go.Proofs.YtipnedhclbopdaaDoorEv

/- Small laws for the operations. -/
set_option linter.unusedVariables false
set_option linter.unusedSimpArgs false
namespace Go.Proofs.YtipnedhclbopdaaDoorEv

theorem VR.valOf {w : World} {o : Nat → Option Nat} {M : Nat → Prop} {v : Value} {p : PV} (h : valOf v = some p) : VR w o M p v ∧ v.oneCell' = true ∧ p.closed = true := by
  unfold Go.Proofs.YtipnedhclbopdaaDoorEv.valOf at h
  split at h <;> first | (cases h; done) | (cases h; exact ⟨by constructor, rfl, rfl⟩)
theorem VRs.valOf {w : World} {o : Nat → Option Nat} {M : Nat → Prop} : ∀ {vs : List Value} {ps : List PV}, vs.mapM valOf = some ps → VRs w o M ps vs ∧ (∀ v ∈ vs, v.oneCell' = true) ∧ closedL ps = true
  | [], ps, h => by simp at h; subst h; exact ⟨.nil, by simp, rfl⟩
  | v :: vs, ps, h => by
    rw [List.mapM_cons] at h
    cases hv : Go.Proofs.YtipnedhclbopdaaDoorEv.valOf v with
    | none => rw [hv] at h; cases h
    | some p =>
      cases hr : vs.mapM Go.Proofs.YtipnedhclbopdaaDoorEv.valOf with
      | none => rw [hv, hr] at h; cases h
      | some l =>
        rw [hv, hr] at h; cases h
        have h1 := VR.valOf (w := w) (o := o) (M := M) hv
        have h2 := VRs.valOf (w := w) (o := o) (M := M) hr
        exact ⟨.cons h1.1 h2.1, by intro x hx; rcases List.mem_cons.1 hx with e | e; exact e ▸ h1.2.1; exact h2.2.1 x e, by simp [closedL, h1.2.2, h2.2.2]⟩
theorem VR.ofConst {w : World} {o : Nat → Option Nat} {M : Nat → Prop} {v : Value} {p : PV} (h : ofConst v = some p) : VR w o M p v := by
  unfold Go.Proofs.YtipnedhclbopdaaDoorEv.ofConst at h
  split at h
  · next cs =>
    cases hm : cs.toList.mapM Go.Proofs.YtipnedhclbopdaaDoorEv.valOf with
    | none => rw [hm] at h; cases h
    | some l =>
      rw [hm] at h; cases h
      have := VRs.valOf (w := w) (o := o) (M := M) hm
      have := VR.agg this.1 this.2.1
      simpa using this
  · next f a b =>
    split at h
    · next q =>
      cases h
      have ha : a = #[] := Array.eq_empty_of_size_eq_zero q.1
      have hb : b = #[] := Array.eq_empty_of_size_eq_zero q.2
      subst ha; subst hb
      exact .fn .nil .nil
    · cases h
  · exact (VR.valOf h).1

/-- the frame's temporaries -/
structure TR (w : World) (o : Nat → Option Nat) (M : Nat → Prop) (ts : List PV) (cs : Array Value) : Prop where
  vs : VRs w o M ts cs.toList
theorem TR.val {w : World} {o : Nat → Option Nat} {M : Nat → Prop} {s : St} {a : Act} (h : TR w o M s.tmps a.tmps) {x : Operand} {y : X} (hx : copX x = some y) : VR w o M (s.val y) (a.eval x) := by
  cases x with
  | tmp t =>
    simp [copX] at hx; subst hx
    simp only [St.val, Act.eval]
    cases hq : s.tmps[t]? with
    | none =>
      rw [List.getD_eq_getElem?_getD, hq]
      exact .undef _
    | some p =>
      obtain ⟨v, h1, h2⟩ := h.vs.get hq
      rw [List.getD_eq_getElem?_getD, hq]
      have : a.tmps.getD t undef = v := by
        have h1' : a.tmps[t]? = some v := by simpa using h1
        rw [Array.getD_eq_getD_getElem?, h1']; rfl
      rw [this]; exact h2
  | const v =>
    simp only [copX] at hx
    cases hc : Go.Proofs.YtipnedhclbopdaaDoorEv.ofConst v with
    | none => rw [hc] at hx; cases hx
    | some p => rw [hc] at hx; cases hx; exact VR.ofConst hc
  | global g => simp [copX] at hx
  | func f => simp [copX] at hx; subst hx; exact .fn .nil .nil

section
variable {w : World} {O : Nat → Option Nat} {M : Nat → Prop} {e : X → PV} {ρ : Operand → Value}
theorem mapM_cop (hρ : ∀ x y, copX x = some y → VR w O M (e y) (ρ x)) : ∀ {xs : List Operand} {ys : List X}, xs.mapM copX = some ys → VRs w O M (ys.map e) (xs.map ρ)
  | [], ys, h => by simp at h; subst h; exact .nil
  | x :: xs, ys, h => by
    rw [List.mapM_cons] at h
    cases hv : copX x with
    | none => rw [hv] at h; cases h
    | some p =>
      cases hr : xs.mapM copX with
      | none => rw [hv, hr] at h; cases h
      | some l => rw [hv, hr] at h; cases h; exact .cons (hρ _ _ hv) (mapM_cop hρ hr)
end

theorem zeroT_spec {P : Program} {t : TypeId} {z : List PV} (h : zeroT P t = some z) : ∃ i v, P.info? t = some i ∧ i.zero = some v ∧ v.cells.size = i.size ∧ z.length = i.size ∧
    (∀ (w : World) (o : Nat → Option Nat) (M : Nat → Prop), VRs w o M z v.cells.toList) ∧ (∀ u ∈ v.cells.toList, u.oneCell' = true) ∧ closedL z = true := by
  unfold zeroT at h
  cases hi : P.info? t with
  | none => rw [hi] at h; cases h
  | some i =>
    rw [hi] at h
    cases hz : i.zero with
    | none => simp [hz] at h
    | some v =>
      simp only [hz] at h
      split at h
      · next q =>
        have := fun w o M => VRs.valOf (w := w) (o := o) (M := M) h
        exact ⟨i, v, rfl, hz, q, by have := (this default (fun _ => none) (fun _ => False)).1.length; simp at this; omega, fun w o M => (this w o M).1, (this default (fun _ => none) (fun _ => False)).2.1, (this default (fun _ => none) (fun _ => False)).2.2⟩
      · cases h
theorem szT_spec {P : Program} {t : TypeId} {s : Nat} (h : szT P t = some s) : ∃ i, P.info? t = some i ∧ i.size = s := by
  unfold szT at h
  cases hi : P.info? t with
  | none => rw [hi] at h; cases h
  | some i => rw [hi] at h; simp at h; exact ⟨i, rfl, h⟩

inductive All2 {α β : Type} (R : α → β → Prop) : List α → List β → Prop
  | nil : All2 R [] []
  | cons {a b asV bs} (h : R a b) (t : All2 R asV bs) : All2 R (a :: asV) (b :: bs)

theorem foldl_sets (off : Nat) : ∀ (vs : List Value) (k : Nat) (cells : Array Value), off + k + vs.length ≤ cells.size →
    ((vs.zipIdx k).foldl (fun (cs : Array Value) (p : Value × Nat) => cs.setIfInBounds (off + p.2) p.1) cells).toList = cells.toList.take (off + k) ++ vs ++ cells.toList.drop (off + k + vs.length)
  | [], k, cells, h => by simp
  | v :: vs, k, cells, h => by
    simp at h
    simp only [List.zipIdx_cons, List.foldl_cons]
    rw [foldl_sets off vs (k + 1) _ (by simp; omega)]
    have ho : off + k < cells.toList.length := by simp; omega
    have e1 : (cells.setIfInBounds (off + k) v).toList = cells.toList.set (off + k) v := by simp
    rw [e1, ← Nat.add_assoc, List.take_set, List.drop_set, if_pos (by omega)]
    have e2 : (List.take (off + k + 1) cells.toList).set (off + k) v = cells.toList.take (off + k) ++ [v] := by
      rw [List.take_succ_eq_append_getElem ho, List.set_append_right _ _ (by simp; omega)]
      have ho' : min (off + k) cells.size = off + k := by simp at ho; omega
      simp [ho']
    rw [e2]
    simp [Nat.add_assoc, Nat.add_comm 1]

theorem fill_sound {w : World} {O : Nat → Option Nat} {M : Nat → Prop} (place : Nat → Option (Nat × Nat)) : ∀ (ps : List (Nat × Value)) (bs : List (Nat × Nat × PV)) (cs : List PV) (c : Array Value) (cs' : List PV),
    VRs w O M cs c.toList → (∀ v ∈ c.toList, v.oneCell' = true) → All2 (fun (b : Nat × Nat × PV) (p : Nat × Value) => place p.1 = some (b.1, b.2.1) ∧ VR w O M b.2.2 p.2) bs ps → fillB cs bs = some cs' →
    ∃ c', Instr.fill place c ps = some c' ∧ VRs w O M cs' c'.toList ∧ ∀ v ∈ c'.toList, v.oneCell' = true
  | [], bs, cs, c, cs', h1, h2, h3, h4 => by cases h3; simp [fillB] at h4; subst h4; exact ⟨c, rfl, h1, h2⟩
  | (i, v) :: ps, bs, cs, c, cs', h1, h2, h3, h4 => by
    cases h3 with
    | cons hd tl =>
      rename_i b bs
      obtain ⟨off, size, p⟩ := b
      simp only [fillB] at h4
      split at h4
      · next q =>
        obtain ⟨q1, q2, q3⟩ := q
        obtain ⟨hp1, hp2⟩ := hd
        simp only at hp1 hp2
        obtain ⟨k1, k2⟩ := hp2.cells q1
        have hl := k1.length
        have hl1 := h1.length
        have e : v.cells.size = size := by have : v.cells.toList.length = v.cells.size := by simp
                                           omega
        have hset : (v.cells.zipIdx.foldl (fun (cs : Array Value) (x : Value × Nat) => cs.setIfInBounds (off + x.2) x.1) c).toList = c.toList.take off ++ v.cells.toList ++ c.toList.drop (off + v.cells.toList.length) := by
          rw [← Array.foldl_toList, Array.toList_zipIdx]
          have := foldl_sets off v.cells.toList 0 c (by simp at hl1 ⊢; omega)
          simpa using this
        obtain ⟨c', r1, r2, r3⟩ := fill_sound place ps bs (setRange cs off p.cells) (v.cells.zipIdx.foldl (fun (cs : Array Value) (x : Value × Nat) => cs.setIfInBounds (off + x.2) x.1) c) cs'
          (by rw [hset]; exact h1.setRange off k1)
          (by
            rw [hset]
            intro u hu
            rcases List.mem_append.1 hu with hu | hu
            · rcases List.mem_append.1 hu with hu | hu
              · exact h2 u (List.mem_of_mem_take hu)
              · exact k2 u hu
            · exact h2 u (List.mem_of_mem_drop hu)) tl h4
        refine ⟨c', ?_, r2, r3⟩
        unfold Instr.fill
        simp only [hp1]
        rw [if_neg]
        · exact r1
        · simp only [Bool.or_eq_true, decide_eq_true_eq, not_or]
          simp at hl1
          exact ⟨by simp [e], by omega⟩
      · cases h4

theorem range_mod {α : Type} [Inhabited α] (z : Array α) : ∀ n, ((List.range (n * z.size)).map fun i => z[i % z.size]!) = (List.replicate n z.toList).flatten
  | 0 => by simp
  | n + 1 => by
    rw [Nat.succ_mul, List.range_add, List.map_append, range_mod z n, List.replicate_succ', List.flatten_append]
    congr 1
    simp only [List.map_map, List.flatten_cons, List.flatten_nil, List.append_nil]
    apply List.ext_getElem
    · simp
    · intro i h1 h2
      simp at h1 h2
      have e : (n * z.size + i) % z.size = i := by rw [Nat.mul_comm, Nat.mul_add_mod, Nat.mod_eq_of_lt h1]
      simp [e, h1]
theorem VRs.flat {w : World} {o : Nat → Option Nat} {M : Nat → Prop} {cs : List PV} {vs : List Value} (h : VRs w o M cs vs) : ∀ n, VRs w o M (List.replicate n cs).flatten (List.replicate n vs).flatten
  | 0 => by simpa using VRs.nil
  | n + 1 => by simp only [List.replicate_succ, List.flatten_cons]; exact h.append (VRs.flat h n)
theorem closedL_flat {cs : List PV} (h : closedL cs = true) (n : Nat) : closedL (List.replicate n cs).flatten = true :=
  closedL_iff.2 fun c hc => by
    obtain ⟨l, hl, hc⟩ := List.mem_flatten.1 hc
    rw [(List.mem_replicate.1 hl).2] at hc
    exact closedL_iff.1 h c hc
theorem mem_flat {vs : List Value} (h : ∀ v ∈ vs, v.oneCell' = true) (n : Nat) : ∀ v ∈ (List.replicate n vs).flatten, v.oneCell' = true := fun v hv => by
  obtain ⟨l, hl, hc⟩ := List.mem_flatten.1 hv
  rw [(List.mem_replicate.1 hl).2] at hc
  exact h v hc
end Go.Proofs.YtipnedhclbopdaaDoorEv

