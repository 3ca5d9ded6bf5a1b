/-
  THE ABSTRACT INTERPRETER, ITS WORDS: values, a heap with names of its own, and 'ev': what a Go body does, without a tape and without capacities. Nothing is claimed here.
-/
import GoSem.Dispatch
set_option linter.unusedVariables false
set_option linter.unusedSimpArgs false
namespace Go.Ai

/-- Values. 'bot': not known (it stands for every value). 'one': not known, of one cell. 'rng': a number within bounds. A slice bears its elements' size in cells, and its capacity where that is known. -/
inductive AV where
  | bot
  | bool (b : Bool)
  | int (k : IntKind) (n : Int)
  | str (s : List Nat)
  | nilp
  | ptr (l off : Nat)
  | nils
  | slice (l off len : Nat) (cap : Option Nat) (sz : Nat)
  | nilm
  | map (l : Nat)
  | nilf
  | func (f : Nat) (first captured : List AV)
  | yield (l : Nat)
  | nili
  | agg (cs : List AV)
  | tup (vs : List AV)
  | rng (k : IntKind) (lo hi : Int)
  | one
  deriving Inhabited

/-- What lies at a name. 'loop': a loop over an iterator: which one, what it holds of the frame's slots, its state (0 ready, 1 busy, 2 done, 3 exhausted), and how it left. -/
inductive Ex where
  | normal
  | exit (id : Nat)
  | goto (l : Nat)
  | ret

/- 'tab': a row that is only read -/
inductive Obj where
  | cells (cs : List AV)
  | tab (cs : List AV)
  | map (es : List (AV × AV))
  | loop (id : Nat) (vs : List AV) (st : Nat) (pend : Ex)

/-! ### Lists -/
def tget : List AV → Nat → AV
  | [], _ => .bot
  | a :: _, 0 => a
  | _ :: l, n + 1 => tget l n
def tset : List AV → Nat → AV → List AV
  | [], _, _ => []
  | _ :: l, 0, v => v :: l
  | a :: l, n + 1, v => a :: tset l n v
def nth {α : Type} : List α → Nat → Option α
  | [], _ => none
  | a :: _, 0 => some a
  | _ :: l, n + 1 => nth l n
/-- the n elements from a place on; none: there are not so many -/
def takeN {α : Type} : List α → Nat → Option (List α)
  | _, 0 => some []
  | [], _ + 1 => none
  | a :: l, n + 1 => match takeN l n with | some r => some (a :: r) | none => none
def sub {α : Type} : List α → Nat → Nat → Option (List α)
  | l, 0, n => takeN l n
  | [], _ + 1, n => takeN [] (n + 1)
  | _ :: l, o + 1, n => sub l o n
/-- these written over what stands from a place on; none: it does not fit -/
def over {α : Type} : List α → Nat → List α → Option (List α)
  | l, 0, [] => some l
  | [], 0, _ :: _ => none
  | _ :: l, 0, v :: vs => match over l 0 vs with | some r => some (v :: r) | none => none
  | [], _ + 1, _ => none
  | a :: l, o + 1, vs => match over l o vs with | some r => some (a :: r) | none => none
def rep {α : Type} : Nat → List α → List α
  | 0, _ => []
  | n + 1, z => z ++ rep n z

/-! ### The heap -/
inductive Tr where
  | e
  | n (v : Option Obj) (l r : Tr)
def Tr.get : Tr → Nat → Option Obj
  | .e, _ => none
  | .n v l r, k => bif Nat.beq k 0 then v else bif Nat.beq (Nat.mod k 2) 1 then l.get (Nat.div k 2) else r.get (Nat.pred (Nat.div k 2))
def Tr.setF : Nat → Tr → Nat → Option Obj → Tr
  | 0, t, _, _ => t
  | f + 1, .e, k, o => bif Nat.beq k 0 then .n o .e .e else bif Nat.beq (Nat.mod k 2) 1 then .n none (Tr.setF f .e (Nat.div k 2) o) .e else .n none .e (Tr.setF f .e (Nat.pred (Nat.div k 2)) o)
  | f + 1, .n v l r, k, o => bif Nat.beq k 0 then .n o l r else bif Nat.beq (Nat.mod k 2) 1 then .n v (Tr.setF f l (Nat.div k 2) o) r else .n v l (Tr.setF f r (Nat.pred (Nat.div k 2)) o)
structure Heap where
  next : Nat
  tree : Tr
def Heap.get (h : Heap) (l : Nat) : Option Obj := h.tree.get l
def Heap.set (h : Heap) (l : Nat) (o : Obj) : Heap := ⟨h.next, Tr.setF (Nat.succ l) h.tree l (some o)⟩
def Heap.del (h : Heap) (l : Nat) : Heap := ⟨h.next, Tr.setF (Nat.succ l) h.tree l none⟩
def Heap.push (h : Heap) (o : Obj) : Heap := ⟨Nat.succ h.next, Tr.setF (Nat.succ h.next) h.tree h.next (some o)⟩

/-! ### Numbers -/
def idx : IntKind → Nat
  | .i8 => 0 | .i16 => 1 | .i32 => 2 | .i64 => 3 | .u8 => 4 | .u16 => 5 | .u32 => 6 | .u64 => 7
def keq (a b : IntKind) : Bool := Nat.beq (idx a) (idx b)
/-- IntKind.wrap, quick where nothing is to be done -/
def wr : IntKind → Int → Int
  | .i64, .ofNat n => bif Nat.blt n 9223372036854775808 then .ofNat n else IntKind.i64.wrap (.ofNat n)
  | .i64, .negSucc n => bif Nat.blt n 9223372036854775808 then .negSucc n else IntKind.i64.wrap (.negSucc n)
  | .u64, .ofNat n => .ofNat (Nat.mod n 18446744073709551616)
  | .u8, .ofNat n => .ofNat (Nat.mod n 256)
  | k, n => k.wrap n
def ieq : Int → Int → Bool
  | .ofNat a, .ofNat b => Nat.beq a b
  | .negSucc a, .negSucc b => Nat.beq a b
  | _, _ => false
def ilt : Int → Int → Bool
  | .ofNat a, .ofNat b => Nat.blt a b
  | .negSucc a, .negSucc b => Nat.blt b a
  | .negSucc _, .ofNat _ => true
  | .ofNat _, .negSucc _ => false
/-- a number's lowest bits -/
def low (m : Nat) : Int → Nat
  | .ofNat a => Nat.mod a m
  | .negSucc a => Nat.sub (Nat.sub m 1) (Nat.mod a m)
def bits (k : IntKind) : Nat := match k with
  | .i8 => 256 | .u8 => 256 | .i16 => 65536 | .u16 => 65536 | .i32 => 4294967296 | .u32 => 4294967296 | .i64 => 18446744073709551616 | .u64 => 18446744073709551616
def ibit (op : BinOp) (k : IntKind) (a b : Int) : Option AV :=
  match op with
  | .and => some (.int k (wr k (.ofNat (Nat.land (low (bits k) a) (low (bits k) b)))))
  | .or => some (.int k (wr k (.ofNat (Nat.lor (low (bits k) a) (low (bits k) b)))))
  | .xor => some (.int k (wr k (.ofNat (Nat.xor (low (bits k) a) (low (bits k) b)))))
  | .andNot => some (.int k (wr k (.ofNat (Nat.land (low (bits k) a) (Nat.xor (low (bits k) b) (Nat.pred (bits k)))))))
  | _ => none
def idiv (op : BinOp) (k : IntKind) (a b : Int) : Option AV :=
  bif ieq b 0 then none else match op with
  | .quo => some (.int k (wr k (a.tdiv b)))
  | .rem => some (.int k (a.tmod b))
  | _ => none
def ishift (op : BinOp) (k : IntKind) (a : Int) : Int → Option AV
  | .negSucc _ => none
  | .ofNat n => match op with
    | .shl => some (.int k (wr k (Int.mul a (.ofNat (Nat.pow 2 (bif Nat.ble n k.bits then n else k.bits))))))
    | .shr => some (.int k (a.fdiv (.ofNat (Nat.pow 2 (bif Nat.ble n k.bits then n else k.bits)))))
    | _ => none
def seq : List Nat → List Nat → Bool
  | [], [] => true
  | a :: l, b :: r => bif Nat.beq a b then seq l r else false
  | _, _ => false
/-- are two values of one plain type the same? (bool, numbers, texts, nil) -/
def aeq1 : AV → AV → Option Bool
  | .bool a, .bool b => some (bif a then b else not b)
  | .int k a, .int k' b => bif keq k k' then some (ieq a b) else none
  | .str a, .str b => some (seq a b)
  | .nilp, .nilp => some true
  | .nilp, .ptr _ _ => some false
  | .ptr _ _, .nilp => some false
  | .nils, .nils => some true
  | .nils, .slice _ _ _ _ _ => some false
  | .slice _ _ _ _ _, .nils => some false
  | .nilm, .nilm => some true
  | .nilm, .map _ => some false
  | .map _, .nilm => some false
  | .nilf, .nilf => some true
  | .nilf, .func _ _ _ => some false
  | .func _ _ _, .nilf => some false
  | _, _ => none
/-- '==', where two things that were loaded are held against each other: more may be told apart, nothing wrong is told the same -/
def same1 : AV → AV → Bool
  | .bool a, .bool b => bif a then b else not b
  | .int k a, .int k' b => bif keq k k' then ieq a b else false
  | .str a, .str b => seq a b
  | .nilp, .nilp => true
  | .ptr l o, .ptr l' o' => bif Nat.beq l l' then Nat.beq o o' else false
  | .nils, .nils => true
  | .slice l o n none s, .slice l' o' n' none s' => bif Nat.beq l l' then bif Nat.beq o o' then bif Nat.beq n n' then Nat.beq s s' else false else false else false
  | .slice l o n (some c) s, .slice l' o' n' (some c') s' => bif Nat.beq l l' then bif Nat.beq o o' then bif Nat.beq n n' then bif Nat.beq c c' then Nat.beq s s' else false else false else false else false
  | .nilm, .nilm => true
  | .map l, .map l' => Nat.beq l l'
  | .nilf, .nilf => true
  | _, _ => false
def sames : List AV → List AV → Bool
  | [], [] => true
  | a :: l, b :: r => bif same1 a b then sames l r else false
  | _, _ => false
def same : AV → AV → Bool
  | .agg a, .agg b => sames a b
  | a, b => same1 a b

/-- two numbers of one kind -/
def two (x y : AV) (f : IntKind → Int → Int → Option AV) : Option AV := match x, y with
  | .int k a, .int k' b => bif keq k k' then f k a b else none
  | _, _ => none
def shf (op : BinOp) (x y : AV) : Option AV := match x, y with
  | .int k a, .int _ b => ishift op k a b
  | _, _ => none
/-- a number's bounds -/
def bnds : AV → Option (IntKind × Int × Int)
  | .int k a => some (k, a, a)
  | .rng k a b => some (k, a, b)
  | _ => none
/-- is it less? -/
def ltS (x y : AV) : Option Bool := match bnds x, bnds y with
  | some (k, a, b), some (k', c, d) => bif keq k k' then (bif ilt b c then some true else bif ilt a d then none else some false) else none
  | _, _ => none
def ltR (x y : AV) : Option Bool := match x, y with
  | .int k a, .int k' b => bif keq k k' then some (ilt a b) else none
  | x, y => ltS x y
def cmpB (o : Option Bool) (neg : Bool) : Option AV := match o with
  | some b => some (.bool (bif neg then not b else b))
  | none => none
def bin (op : BinOp) (x y : AV) : Option AV :=
  match op with
  | .add => two x y fun k a b => some (.int k (wr k (Int.add a b)))
  | .sub => two x y fun k a b => some (.int k (wr k (Int.sub a b)))
  | .mul => two x y fun k a b => some (.int k (wr k (Int.mul a b)))
  | .lss => cmpB (ltR x y) false
  | .leq => cmpB (ltR y x) true
  | .gtr => cmpB (ltR y x) false
  | .geq => cmpB (ltR x y) true
  | .shl => shf .shl x y
  | .shr => shf .shr x y
  | .quo => two x y fun k a b => idiv .quo k a b
  | .rem => two x y fun k a b => idiv .rem k a b
  | .eql => none
  | .neq => none
  | op => two x y fun k a b => ibit op k a b
def una (op : UnOp) (x : AV) : Option AV :=
  match op, x with
  | .neg, .int k n => some (.int k (wr k (Int.sub 0 n)))
  | .xor, .int k n => ibit .xor k (bif k.signed then -1 else k.max) n
  | .not, .bool b => some (.bool (not b))
  | _, _ => none

/-! ### Steps: each hands on what it comes to, or gives none -/
/-- what is called: an iterator, which has a body; a round of the loop whose record lies at a name; a function, with a body or without -/
inductive Key where
  | fn (f : Nat)
  | round (l : Nat)
  | call (f : Nat)
section
variable {R : Type}
abbrev Rec := Key → List AV → Heap → Option (AV × Heap)
def bnd (o : Option (AV × Heap)) (k : AV → Heap → Option R) : Option R := match o with | some (v, h) => k v h | none => none
def get1 (o : Option AV) (k : AV → Option R) : Option R := match o with | some v => k v | none => none
def getL (o : Option (List AV)) (k : List AV → Option R) : Option R := match o with | some v => k v | none => none
/-- may a cell hold it? -/
def cell1 : AV → Bool
  | .bot => false | .agg _ => false | .tup _ => false | _ => true
def all1 : List AV → Bool
  | [] => true
  | a :: l => bif cell1 a then all1 l else false
def cellsAt (h : Heap) (l : Nat) (k : List AV → Option R) : Option R := match h.get l with
  | some (.cells cs) => k cs
  | some (.tab cs) => k cs
  | _ => none
/-- a row that may be written -/
def rowAt (h : Heap) (l : Nat) (k : List AV → Option R) : Option R := match h.get l with | some (.cells cs) => k cs | _ => none
def ld (h : Heap) (p : AV) (k : AV → Option R) : Option R := match p with
  | .ptr l o => cellsAt h l fun cs => get1 (nth cs o) k
  | _ => none
def ldn (n : Nat) (h : Heap) (p : AV) (k : AV → Option R) : Option R := match p with
  | .ptr l o => cellsAt h l fun cs => getL (sub cs o n) fun vs => k (.agg vs)
  | _ => none
def putL (h : Heap) (l o : Nat) (vs : List AV) (k : Heap → Option R) : Option R :=
  bif all1 vs then rowAt h l fun cs => getL (over cs o vs) fun cs' => k (h.set l (.cells cs')) else none
def st (h : Heap) (p v : AV) (k : Heap → Option R) : Option R := match p with
  | .ptr l o => putL h l o [v] k
  | _ => none
def stn (n : Nat) (h : Heap) (p v : AV) (k : Heap → Option R) : Option R := match p, v with
  | .ptr l o, .agg vs => bif Nat.beq vs.length n then putL h l o vs k else none
  | _, _ => none
/-- a new row of cells -/
def mk (h : Heap) (cs : List AV) (k : AV → Heap → Option R) : Option R :=
  bif all1 cs then k (.ptr h.next 0) (h.push (.cells cs)) else none
def mkSlice (h : Heap) (cs : List AV) (n sz : Nat) (c : Option Nat) (k : AV → Heap → Option R) : Option R :=
  bif all1 cs then k (.slice h.next 0 n c sz) (h.push (.cells cs)) else none
/-- a value's cells -/
def cellsOf : AV → Option (List AV)
  | .agg cs => some cs
  | .bot => none
  | .tup _ => none
  | v => some [v]
/-- a test -/
def tst (c : AV) (x y : Option R) : Option R := match c with | .bool b => bif b then x else y | _ => none
def pickB (c x y : AV) (k : AV → Option R) : Option R := match c with | .bool b => k (bif b then x else y) | _ => none
def nil? (v : AV) (k : AV → Option R) : Option R := match v with
  | .ptr l o => k (.ptr l o)
  | .func f a b => k (.func f a b)
  | .yield l => k (.yield l)
  | _ => none
def natOf : AV → Option Nat
  | .int _ (.ofNat n) => some n
  | _ => none
def ixS (sz : Nat) (x i : AV) (k : AV → Option R) : Option R := match x, natOf i with
  | .slice l o n _ s, some j => bif Nat.beq s sz then bif Nat.blt j n then k (.ptr l (Nat.add o (Nat.mul j sz))) else none else none
  | _, _ => none
def ixA (n sz : Nat) (x i : AV) (k : AV → Option R) : Option R := match x, natOf i with
  | .ptr l o, some j => bif Nat.blt j n then k (.ptr l (Nat.add o (Nat.mul j sz))) else none
  | _, _ => none
def fa (off : Nat) (x : AV) (k : AV → Option R) : Option R := match x with
  | .ptr l o => k (.ptr l (Nat.add o off))
  | _ => none
def part1 (x : AV) (o : Nat) (k : AV → Option R) : Option R := match x with
  | .agg cs => get1 (nth cs o) k
  | _ => none
def partN (n : Nat) (x : AV) (o : Nat) (k : AV → Option R) : Option R := match x with
  | .agg cs => getL (sub cs o n) fun vs => k (.agg vs)
  | _ => none
def ixG (agg : Bool) (n sz : Nat) (x i : AV) (k : AV → Option R) : Option R := match natOf i with
  | some j => bif Nat.blt j n then (bif agg then partN sz x (Nat.mul j sz) k else part1 x (Nat.mul j sz) k) else none
  | none => none
def ixT (x i : AV) (k : AV → Option R) : Option R := match x, natOf i with
  | .str s, some j => (match nth s j with | some b => k (.int .u8 (.ofNat b)) | none => none)
  | _, _ => none
def ext (x : AV) (i : Nat) (k : AV → Option R) : Option R := match x with
  | .tup vs => get1 (nth vs i) k
  | _ => none
def optNat (d : Nat) : Option AV → Option Nat
  | none => some d
  | some v => natOf v
def capOr (n : Nat) : Option Nat → Nat
  | some c => c
  | none => n
/-- x[lo:hi:mx] of a slice -/
def slS (sz : Nat) (x : AV) (lo hi mx : Option AV) (k : AV → Option R) : Option R := match x with
  | .slice l o n c s => bif Nat.beq s sz then (match optNat 0 lo, optNat n hi with
    | some a, some b => (match mx with
      | none => bif Nat.ble a b then bif Nat.ble b (capOr n c) then k (.slice l (Nat.add o (Nat.mul a sz)) (Nat.sub b a) (match c with | some c => some (Nat.sub c a) | none => none) sz) else none else none
      | some m => (match natOf m, hi with
        | some m, some _ => bif Nat.ble a b then bif Nat.ble b m then bif Nat.ble m (capOr n c) then k (.slice l (Nat.add o (Nat.mul a sz)) (Nat.sub b a) (some (Nat.sub m a)) sz) else none else none else none
        | _, _ => none))
    | _, _ => none) else none
  | .nils => (match optNat 0 lo, optNat 0 hi, mx with
    | some 0, some 0, none => k .nils
    | _, _, _ => none)
  | _ => none
/-- x[lo:hi] of an array of n elements, by its address -/
def slA (n sz : Nat) (h : Heap) (x : AV) (lo hi mx : Option AV) (k : AV → Option R) : Option R := match x with
  | .ptr l o => (match optNat 0 lo, optNat n hi, mx with
    | some a, some b, none => bif Nat.ble a b then bif Nat.ble b n then cellsAt h l fun cs => bif Nat.ble (Nat.add o (Nat.mul n sz)) cs.length then
        k (.slice l (Nat.add o (Nat.mul a sz)) (Nat.sub b a) (some (Nat.sub n a)) sz) else none else none else none
    | _, _, _ => none)
  | _ => none
def slT (x : AV) (lo hi : Option AV) (k : AV → Option R) : Option R := match x with
  | .str s => (match optNat 0 lo, optNat s.length hi with
    | some a, some b => bif Nat.ble a b then bif Nat.ble b s.length then (match sub s a (Nat.sub b a) with | some r => k (.str r) | none => none) else none else none
    | _, _ => none)
  | _ => none
/-- the cells of a slice's first n elements, or of a text's first n bytes -/
def rowOf (sz : Nat) (h : Heap) (x : AV) (n : Nat) (k : List AV → Option R) : Option R := match x with
  | .slice l o m _ s => bif Nat.beq s sz then bif Nat.ble n m then cellsAt h l fun cs => getL (sub cs o (Nat.mul n sz)) k else none else none
  | .nils => bif Nat.beq n 0 then k [] else none
  | .str s => bif Nat.beq sz 1 then (match takeN s n with | some r => k (r.map fun b => .int .u8 (.ofNat b)) | none => none) else none
  | _ => none
def lenOf : AV → Option Nat
  | .slice _ _ n _ _ => some n
  | .nils => some 0
  | .str s => some s.length
  | _ => none
def roomy (n b : Nat) : Bool := Nat.ble (Nat.mul (Nat.add (Nat.mul 2 n) 256) (Nat.succ b)) 140737488355328
/-- append: in place where the capacity is known and suffices; else in a new row. Where it is not known the old row may be written over: nothing of it is read any more. -/
def app (sz by_ : Nat) (h : Heap) (s x : AV) (k : AV → Heap → Option R) : Option R :=
  match lenOf x with
  | none => none
  | some 0 => (match s with
    | .nils => k .nils h
    | .slice l o n c z => bif Nat.beq z sz then k (.slice l o n c z) h else none
    | _ => none)
  | some m => rowOf sz h x m fun new => match s with
    | .nils => bif roomy m by_ then mkSlice h new m sz none k else none
    | .slice l o n (some c) z => bif Nat.beq z sz then (bif Nat.ble (Nat.add n m) c then putL h l (Nat.add o (Nat.mul n sz)) new (fun h' => k (.slice l o (Nat.add n m) (some c) sz) h')
        else (bif roomy (Nat.add n m) by_ then cellsAt h l fun cs => getL (sub cs o (Nat.mul n sz)) fun old => mkSlice h (old ++ new) (Nat.add n m) sz none k else none)) else none
    | .slice l o n none z => bif Nat.beq z sz then (bif roomy (Nat.add n m) by_ then rowAt h l fun cs => getL (sub cs o (Nat.mul n sz)) fun old => mkSlice (h.del l) (old ++ new) (Nat.add n m) sz none k else none) else none
    | _ => none
def cpy (sz : Nat) (h : Heap) (d x : AV) (k : AV → Heap → Option R) : Option R := match d, lenOf x with
  | .slice l o n _ z, some m => bif Nat.beq z sz then (bif Nat.ble m n then rowOf sz h x m fun vs => putL h l o vs fun h' => k (.int .i64 (.ofNat m)) h'
      else rowOf sz h x n fun vs => putL h l o vs fun h' => k (.int .i64 (.ofNat n)) h') else none
  | .nils, some _ => k (.int .i64 0) h
  | _, _ => none
def clr (z : List AV) (sz : Nat) (h : Heap) (x : AV) (k : AV → Heap → Option R) : Option R := match x with
  | .nils => k (.tup []) h
  | .slice _ _ 0 _ _ => k (.tup []) h
  | .slice l o n _ s => bif Nat.beq s sz then putL h l o (rep n z) fun h' => k (.tup []) h' else none
  | _ => none
def mapAt (h : Heap) (l : Nat) (k : List (AV × AV) → Option R) : Option R := match h.get l with | some (.map es) => k es | _ => none
/-- a key's value: only numbers are keys -/
def mfind (key : AV) : List (AV × AV) → Option (Option AV)
  | [] => some none
  | (q, v) :: l => match aeq1 key q with
    | some true => some (some v)
    | some false => mfind key l
    | none => none
def mput (key v : AV) : List (AV × AV) → Option (List (AV × AV))
  | [] => some [(key, v)]
  | (q, u) :: l => match aeq1 key q with
    | some true => some ((key, v) :: l)
    | some false => (match mput key v l with | some r => some ((q, u) :: r) | none => none)
    | none => none
def mdel (key : AV) : List (AV × AV) → Option (List (AV × AV))
  | [] => some []
  | (q, u) :: l => match aeq1 key q with
    | some true => some l
    | some false => (match mdel key l with | some r => some ((q, u) :: r) | none => none)
    | none => none
def isInt : AV → Bool
  | .int _ _ => true
  | _ => false
def lkp (z : AV) (ok : Bool) (h : Heap) (x key : AV) (k : AV → Option R) : Option R :=
  bif isInt key then (match x with
  | .nilm => k (bif ok then .tup [z, .bool false] else z)
  | .map l => mapAt h l fun es => (match mfind key es with
    | some (some v) => k (bif ok then .tup [v, .bool true] else v)
    | some none => k (bif ok then .tup [z, .bool false] else z)
    | none => none)
  | _ => none) else none
def good : AV → Bool
  | .agg cs => all1 cs
  | v => cell1 v
def mup (h : Heap) (x key v : AV) (k : Heap → Option R) : Option R :=
  bif isInt key then (bif good v then (match x with
  | .map l => mapAt h l fun es => (match mput key v es with | some es' => k (h.set l (.map es')) | none => none)
  | _ => none) else none) else none
def mdl (h : Heap) (x key : AV) (k : Heap → Option R) : Option R :=
  bif isInt key then (match x with
  | .nilm => k h
  | .map l => mapAt h l fun es => (match mdel key es with | some es' => k (h.set l (.map es')) | none => none)
  | _ => none) else none
def mln (h : Heap) (x : AV) (k : AV → Option R) : Option R := match x with
  | .nilm => k (.int .i64 0)
  | .map l => mapAt h l fun es => k (.int .i64 (.ofNat es.length))
  | _ => none
def ln (x : AV) (k : AV → Option R) : Option R := match lenOf x with | some n => k (.int .i64 (.ofNat n)) | none => none
def mm (mx : Bool) (x y : AV) (k : AV → Option R) : Option R := match x, y with
  | .int a n, .int b m => bif keq a b then k (.int a (bif mx then (bif ilt n m then m else n) else (bif ilt m n then m else n))) else none
  | _, _ => none
def cvI (d : IntKind) (x : AV) (k : AV → Option R) : Option R := match x with
  | .int _ n => k (.int d (wr d n))
  | _ => none
def mks (z : List AV) (sz by_ : Nat) (h : Heap) (n c : AV) (k : AV → Heap → Option R) : Option R := match natOf n, natOf c with
  | some n, some c => bif Nat.ble n c then bif Nat.ble (Nat.mul c by_) 140737488355328 then bif Nat.blt c 9223372036854775808 then mkSlice h (rep c z) n sz (some c) k else none else none else none
  | _, _ => none
def callv (rec : Rec) (f : AV) (args : List AV) (h : Heap) (k : AV → Heap → Option R) : Option R := match f with
  | .func f a b => bnd (rec (.call f) (a ++ (args ++ b)) h) k
  | .yield l => bnd (rec (.round l) args h) k
  | _ => none
/-- an iterator is called -/
def callf (rec : Rec) (f : AV) (args : List AV) (h : Heap) (k : AV → Heap → Option R) : Option R := match f with
  | .func f a b => bnd (rec (.fn f) (a ++ (args ++ b)) h) k
  | _ => none
end
end Go.Ai
/-
  THE ABSTRACT INTERPRETER, 'ev': what an operation, a region, a code, a function's body, a round of a loop over an iterator comes to, in continuation style. Nothing is claimed here.
-/
namespace Go.Ai

def ofFlat : Value → AV
  | .bool b => .bool b
  | .int k n => .int k n
  | .string s => .str (s.data.toList.map UInt8.toNat)
  | .pointer none => .nilp
  | .slice none 0 0 => .nils
  | .map none => .nilm
  | .nilFunc => .nilf
  | .nilIface => .nili
  | _ => .bot
def ofV : Value → AV
  | .agg cs => .agg (cs.toList.map ofFlat)
  | .tuple vs => .tup (vs.toList.map ofFlat)
  | v => ofFlat v
/-- the package-level variables that are looked at: tables of bytes -/
def kg (P : Program) (g : Nat) : Bool := match P.globals[g]? with
  | some v => (match P.underlying v.type with
    | some (.array n e) => bif Nat.ble 64 n then (match P.underlying e with | some (.int .u8) => true | _ => false) else false
    | _ => false)
  | none => false
def evX (P : Program) (tm : List AV) : Operand → AV
  | .tmp t => tget tm t
  | .const v => ofV v
  | .global g => bif kg P g then .ptr g 0 else .bot
  | .func f => .func f [] []
def tput (tm : List AV) : Option Tmp → AV → List AV
  | none, _ => tm
  | some d, v => tset tm d v

section types
variable (P : Program)
def szOf (t : TypeId) : Nat := match P.info? t with | some i => i.size | none => 0
def byOf (t : TypeId) : Nat := match P.info? t with | some i => i.bytes | none => 0
def aggT (t : TypeId) : Bool := match P.underlying t with
  | some (.struct _) => true
  | some (.array _ _) => true
  | _ => false
/-- a row, or one cell -/
def aggB {R : Type} (t : TypeId) (x y : Option R) : Option R := match P.underlying t with
  | some (.struct _) => x
  | some (.array _ _) => x
  | some _ => y
  | none => none
def fieldsOk (fs : List Field) : Bool := fs.all fun f => Nat.blt 0 (szOf P f.type)
def zeroT (t : TypeId) : Option (List AV) := match P.info? t with
  | some i => (match i.zero with | some v => cellsOf (ofV v) | none => none)
  | none => none
def isU8 (t : TypeId) : Bool := match P.underlying t with | some (.int .u8) => true | _ => false
/-- a struct of numbers and bools, and of such structs: for each cell, one behind the other, whether it is a bool -/
def kindsF (K : TypeId → Option (List Bool)) : Nat → List Field → Option (List Bool)
  | _, [] => some []
  | o, f :: fs => bif f.name == "_" then none else bif Nat.beq f.offset o then (match K f.type with
    | some ks => bif Nat.beq ks.length (szOf P f.type) then (match kindsF K (o + szOf P f.type) fs with | some r => some (ks ++ r) | none => none) else none
    | none => none) else none
def kindsT : Nat → TypeId → Option (List Bool)
  | 0, _ => none
  | d + 1, t => match P.underlying t with
    | some .bool => some [true]
    | some (.int _) => some [false]
    | some (.struct fs) => bif P.stoodInHeld t then none else kindsF P (kindsT d) 0 fs.toList
    | _ => none
end types

def aeqB : AV → AV → Option Bool
  | .bool a, .bool b => some (bif a then b else not b)
  | _, _ => none
def eqS (x y : AV) : Option Bool := match bnds x, bnds y with
  | some (k, a, b), some (k', c, d) => bif keq k k' then (bif ilt b c then some false else bif ilt d a then some false else none) else none
  | _, _ => none
def aeqI (x y : AV) : Option Bool := match x, y with
  | .int k a, .int k' b => bif keq k k' then some (ieq a b) else none
  | x, y => eqS x y
def aeqT : AV → AV → Option Bool
  | .str a, .str b => some (seq a b)
  | _, _ => none
def aeqP : AV → AV → Option Bool
  | .nilp, .nilp => some true
  | .nilp, .ptr _ _ => some false
  | .ptr _ _, .nilp => some false
  | _, _ => none
def aeqS : AV → AV → Option Bool
  | .nils, .nils => some true
  | .nils, .slice _ _ _ _ _ => some false
  | .slice _ _ _ _ _, .nils => some false
  | _, _ => none
def aeqM : AV → AV → Option Bool
  | .nilm, .nilm => some true
  | .nilm, .map _ => some false
  | .map _, .nilm => some false
  | _, _ => none
def aeqF : AV → AV → Option Bool
  | .nilf, .nilf => some true
  | .nilf, .func _ _ _ => some false
  | .func _ _ _, .nilf => some false
  | _, _ => none
/-- rows of bools and numbers -/
def aeqK : List Bool → List AV → List AV → Option Bool
  | [], [], [] => some true
  | true :: ks, .bool a :: l, .bool b :: r => bif (bif a then b else not b) then aeqK ks l r else some false
  | false :: ks, .int k a :: l, .int k' b :: r => bif keq k k' then (bif ieq a b then aeqK ks l r else some false) else none
  | _, _, _ => none
def aeqG (ks : List Bool) : AV → AV → Option Bool
  | .agg a, .agg b => bif Nat.beq a.length ks.length then bif Nat.beq b.length ks.length then aeqK ks a b else none else none
  | _, _ => none

section
variable {R : Type}
def yes (neg : Bool) (o : Option Bool) (k : AV → Option R) : Option R := match o with
  | some b => k (.bool (bif neg then not b else b))
  | none => none
def eqOp (P : Program) (neg : Bool) (t : TypeId) (x y : AV) (k : AV → Option R) : Option R :=
  match P.underlying t with
  | some .bool => yes neg (aeqB x y) k
  | some (.int _) => yes neg (aeqI x y) k
  | some .string => yes neg (aeqT x y) k
  | some (.pointer _) => yes neg (aeqP x y) k
  | some (.slice _) => yes neg (aeqS x y) k
  | some (.map _ _) => yes neg (aeqM x y) k
  | some (.func _ _ _) => yes neg (aeqF x y) k
  | some (.struct _) => (match kindsT P 4 t with
    | some ks => bif Nat.ble 4 P.depth then yes neg (aeqG ks x y) k else none
    | none => none)
  | _ => none
def fill (P : Program) (place : Nat → Option (Nat × Nat)) (tm : List AV) (cells : List AV) : List (Nat × Operand) → (List AV → Option R) → Option R
  | [], k => k cells
  | (i, x) :: rest, k => match place i with
    | none => none
    | some (off, size) => getL (cellsOf (evX P tm x)) fun vs => bif Nat.beq vs.length size then getL (over cells off vs) fun cs => fill P place tm cs rest k else none
def lenS (x : AV) (k : AV → Option R) : Option R := match x with
  | .slice _ _ n _ _ => k (.int .i64 (.ofNat n))
  | .nils => k (.int .i64 0)
  | _ => none
def lenT (x : AV) (k : AV → Option R) : Option R := match x with
  | .str s => k (.int .i64 (.ofNat s.length))
  | _ => none
def strX (x : AV) (k : AV → Option R) : Option R := match x with
  | .str s => k (.str s)
  | _ => none
/-- bytes as a text -/
def chars : List AV → Option (List Nat)
  | [] => some []
  | .int q (.ofNat n) :: l => bif keq q .u8 then bif Nat.blt n 256 then (match chars l with | some r => some (n :: r) | none => none) else none else none
  | _ :: _ => none
def txt (h : Heap) (x : AV) (k : AV → Option R) : Option R := match x with
  | .nils => k (.str [])
  | .slice l o n _ s => bif Nat.beq s 1 then cellsAt h l fun cs => getL (sub cs o n) fun vs => (match chars vs with | some r => k (.str r) | none => none) else none
  | _ => none
def newMap (h : Heap) (k : AV → Heap → Option R) : Option R := k (.map h.next) (h.push (.map []))
def int? (x : AV) (k : Option R) : Option R := match x with | .int _ _ => k | _ => none

def evB (P : Program) (b : Builtin) (ts : List TypeId) (args : List AV) (h : Heap) (k : AV → Heap → Option R) : Option R :=
  match b, ts, args with
  | .len, t :: _, [x] => (match P.underlying t with
    | some (.slice _) => lenS x fun v => k v h
    | some .string => lenT x fun v => k v h
    | some (.array n _) => k (.int .i64 (.ofNat n)) h
    | some (.map _ _) => mln h x fun v => k v h
    | some (.pointer a) => (match P.underlying a with | some (.array n _) => k (.int .i64 (.ofNat n)) h | _ => none)
    | _ => none)
  | .append, t :: u :: _, [s, x] => (match P.underlying t, P.underlying u with
    | some (.slice e), some (.slice _) => bif Nat.blt 0 (szOf P e) then (match zeroT P e with | some z => bif Nat.beq z.length (szOf P e) then app (szOf P e) (byOf P e) h s x k else none | none => none) else none
    | some (.slice e), some .string => bif Nat.blt 0 (szOf P e) then (match zeroT P e with | some z => bif Nat.beq z.length (szOf P e) then app (szOf P e) (byOf P e) h s x k else none | none => none) else none
    | _, _ => none)
  | .copy, t :: _, [d, x] => (match P.underlying t with
    | some (.slice e) => bif Nat.blt 0 (szOf P e) then cpy (szOf P e) h d x k else none
    | _ => none)
  | .clear, t :: _, [x] => (match P.underlying t with
    | some (.slice e) => (match zeroT P e with | some z => bif Nat.blt 0 (szOf P e) then bif Nat.beq z.length (szOf P e) then clr z (szOf P e) h x k else none else none | none => none)
    | _ => none)
  | .delete, t :: _, [m, x] => (match P.underlying t with
    | some (.map q _) => (match P.underlying q with | some (.int _) => mdl h m x fun h => k (.tup []) h | _ => none)
    | _ => none)
  | .min, _, [x, y] => mm false x y fun v => k v h
  | .max, _, [x, y] => mm true x y fun v => k v h
  | _, _, _ => none

def evOp (P : Program) (rec : Rec) (tm : List AV) (o : Op) (h : Heap) (k : AV → Heap → Option R) : Option R :=
  match o with
  | .move x => k (evX P tm x) h
  | .assign x => k (evX P tm x) h
  | .pick c a b => pickB (evX P tm c) (evX P tm a) (evX P tm b) fun v => k v h
  | .alloc e => (match zeroT P e with | some z => mk h z k | none => none)
  | .box _ x => getL (cellsOf (evX P tm x)) fun cs => mk h cs k
  | .build t parts => (match zeroT P t with
    | some z => (match P.underlying t with
      | some (.struct fs) => bif fieldsOk P fs.toList then fill P (fun i => match fs.toList[i]? with | some f => some (f.offset, szOf P f.type) | none => none) tm z parts.toList fun cs => k (.agg cs) h else none
      | some (.array _ e) => bif Nat.blt 0 (szOf P e) then fill P (fun i => some (Nat.mul i (szOf P e), szOf P e)) tm z parts.toList fun cs => k (.agg cs) h else none
      | _ => none)
    | none => none)
  | .buildSlice t n parts => (match P.underlying t with
    | some (.slice e) => (match zeroT P e with
      | some z => bif Nat.blt 0 (szOf P e) then bif Nat.beq z.length (szOf P e) then bif Nat.ble (Nat.mul n (szOf P e)) 16777216 then
          fill P (fun i => some (Nat.mul i (szOf P e), szOf P e)) tm (rep n z) parts.toList fun cs => mkSlice h cs n (szOf P e) (some n) k else none else none else none
      | none => none)
    | _ => none)
  | .load t a => aggB P t (ldn (szOf P t) h (evX P tm a) fun v => k v h) (ld h (evX P tm a) fun v => k v h)
  | .store t a x => aggB P t (stn (szOf P t) h (evX P tm a) (evX P tm x) fun h => k (.tup []) h)
      (bif Nat.beq (szOf P t) 1 then st h (evX P tm a) (evX P tm x) fun h => k (.tup []) h else none)
  | .nilCheck x => nil? (evX P tm x) fun v => k v h
  | .binOp op t x y _ => (match op with
    | .eql => eqOp P false t (evX P tm x) (evX P tm y) fun v => k v h
    | .neq => eqOp P true t (evX P tm x) (evX P tm y) fun v => k v h
    | op => get1 (bin op (evX P tm x) (evX P tm y)) fun v => k v h)
  | .unOp op _ x => get1 (una op (evX P tm x)) fun v => k v h
  | .convert s d x => (match P.underlying d with
    | some (.int q) => (match P.underlying s with | some _ => cvI q (evX P tm x) fun v => k v h | none => none)
    | some .string => (match P.underlying s with
      | some .string => strX (evX P tm x) fun v => k v h
      | some (.slice e) => bif isU8 P e then txt h (evX P tm x) fun v => k v h else none
      | _ => none)
    | _ => none)
  | .makeFunc fn a b => (match fn with | .func f => k (.func f (a.toList.map (evX P tm)) (b.toList.map (evX P tm))) h | _ => none)
  | .makeMap t r => (match P.underlying t with
    | some (.map _ _) => (match r with | none => newMap h k | some x => int? (evX P tm x) (newMap h k))
    | _ => none)
  | .makeSlice t n c => (match P.underlying t with
    | some (.slice e) => (match zeroT P e with
      | some z => bif Nat.blt 0 (szOf P e) then bif Nat.beq z.length (szOf P e) then mks z (szOf P e) (byOf P e) h (evX P tm n) (evX P tm c) k else none else none
      | none => none)
    | _ => none)
  | .slice t x lo hi mx => (match P.underlying t with
    | some (.array n e) => bif Nat.blt 0 (szOf P e) then slA n (szOf P e) h (evX P tm x) (lo.map (evX P tm)) (hi.map (evX P tm)) (mx.map (evX P tm)) fun v => k v h else none
    | some (.slice e) => bif Nat.blt 0 (szOf P e) then slS (szOf P e) (evX P tm x) (lo.map (evX P tm)) (hi.map (evX P tm)) (mx.map (evX P tm)) fun v => k v h else none
    | some .string => (match mx with | none => slT (evX P tm x) (lo.map (evX P tm)) (hi.map (evX P tm)) fun v => k v h | some _ => none)
    | _ => none)
  | .fieldAddr s x f => (match P.underlying s with
    | some (.struct fs) => (match fs.toList[f]? with
      | some f => bif Nat.blt 0 (szOf P f.type) then fa f.offset (evX P tm x) fun v => k v h else none
      | none => none)
    | _ => none)
  | .field t x f => (match P.underlying t with
    | some (.struct fs) => (match fs.toList[f]? with
      | some f => aggB P f.type (partN (szOf P f.type) (evX P tm x) f.offset fun v => k v h) (part1 (evX P tm x) f.offset fun v => k v h)
      | none => none)
    | _ => none)
  | .indexAddr t x i => (match P.underlying t with
    | some (.array n e) => bif Nat.blt 0 (szOf P e) then ixA n (szOf P e) (evX P tm x) (evX P tm i) fun v => k v h else none
    | some (.slice e) => bif Nat.blt 0 (szOf P e) then ixS (szOf P e) (evX P tm x) (evX P tm i) fun v => k v h else none
    | _ => none)
  | .index t x i => (match P.underlying t with
    | some (.array n e) => bif Nat.blt 0 (szOf P e) then aggB P e (ixG true n (szOf P e) (evX P tm x) (evX P tm i) fun v => k v h) (ixG false n (szOf P e) (evX P tm x) (evX P tm i) fun v => k v h) else none
    | some .string => ixT (evX P tm x) (evX P tm i) fun v => k v h
    | _ => none)
  | .lookup t x i ok => (match P.underlying t with
    | some (.map q e) => (match P.underlying q, P.info? e with
      | some (.int _), some info => (match info.zero with
        | some z => lkp (ofV z) ok h (evX P tm x) (evX P tm i) fun v => k v h
        | none => none)
      | _, _ => none)
    | _ => none)
  | .mapUpdate t m i x => (match P.underlying t with
    | some (.map q _) => (match P.underlying q with | some (.int _) => mup h (evX P tm m) (evX P tm i) (evX P tm x) fun h => k (.tup []) h | _ => none)
    | _ => none)
  | .extract t i => ext (evX P tm t) i fun v => k v h
  | .call c => (match c.callee with
    | .value f => callv rec (evX P tm f) (c.args.toList.map (evX P tm)) h k
    | .builtin b => evB P b c.argTypes.toList (c.args.toList.map (evX P tm)) h k
    | .invoke _ _ => none)
  | _ => none

/-- is it carried out? -/
def wantV (v : AV) (w : Bool) (x y : Option R) : Option R := match v with
  | .bool b => (match w with
    | true => bif b then x else y
    | false => bif b then y else x)
  | .tup _ => y
  | _ => none
def want (ops : Array Oper) (o : Oper) (tm : List AV) (x y : Option R) : Option R := match o.guard with
  | none => x
  | some (j, w) => (match (ops[j]?).bind (·.dst) with
    | none => y
    | some d => wantV (tget tm d) w x y)
/-- a region, in the order of the text -/
def evOps (P : Program) (rec : Rec) (ops : Array Oper) : List Oper → List AV → Heap → (List AV → Heap → Option R) → Option R
  | [], tm, h, k => k tm h
  | o :: rest, tm, h, k => bif o.guard.isSome then bnd (want ops o tm (evOp P rec tm o.op h fun v h => some (v, h)) (some (.tup [], h))) fun v h => evOps P rec ops rest (tput tm o.dst v) h k
      else evOp P rec tm o.op h fun v h => evOps P rec ops rest (tput tm o.dst v) h k

/-! ### A region that draws its order: each operation as soon as it may be; those that act, in their order; what was loaded must still be the same behind each that acts and is not ordered behind the load -/
def effB : Builtin → Bool
  | .min => false
  | .max => false
  | _ => true
def isEff (P : Program) : Op → Bool
  | .assign _ => true
  | .store _ _ _ => true
  | .lookup _ _ _ _ => true
  | .slice t _ _ _ _ => (match P.underlying t with | some (.array _ _) => true | _ => false)
  | .mapUpdate _ _ _ _ => true
  | .convert _ d _ => (match P.underlying d with | some .string => true | _ => false)
  | .call c => (match c.callee with
    | .builtin .len => (match c.argTypes[0]? with
      | some t => (match P.underlying t with | some (.map _ _) => true | _ => false)
      | none => true)
    | .builtin b => effB b
    | _ => true)
  | _ => false
/-- the slots that an operation looks at; and that which it writes -/
def looksOf (ops : Array Oper) (o : Oper) : List Nat :=
  (o.op.operands.toList.filterMap fun | .tmp t => some t | _ => none) ++
    (match o.guard with | some (j, _) => ((ops[j]?).bind (·.dst)).toList | none => [])
def namesOf (ops : Array Oper) (o : Oper) : List Nat := o.dst.toList ++ looksOf ops o
def befOf (ops : Array Oper) (i j : Nat) : Bool := ((Region.before ops).getD j 0).testBit i
/-- the same, of a list in which it is written down -/
def lnth : List Nat → Nat → Nat
  | [], _ => 0
  | a :: _, 0 => a
  | _ :: l, n + 1 => lnth l n
def befL (B : List Nat) (i j : Nat) : Bool := Nat.testBit (lnth B j) i
def effAt (P : Program) (ops : Array Oper) (i : Nat) : Bool := match ops[i]? with | some o => isEff P o.op | none => true
def namesAt (ops : Array Oper) (i : Nat) : List Nat := match ops[i]? with | some o => namesOf ops o | none => []
def looksAt (ops : Array Oper) (i : Nat) : List Nat := match ops[i]? with | some o => looksOf ops o | none => []
def dstAt (ops : Array Oper) (i : Nat) : Option Nat := match ops[i]? with | some o => o.dst | none => none
def offD (d : Option Nat) (l : List Nat) : Bool := match d with | some d => !l.contains d | none => true
/-- each stands in it once, behind what it comes after; those that act are ordered, and what stands behind one of them comes after it; slots: who names a slot comes after its writer; nobody that doesn't act writes a slot that one ahead that doesn't act names -/
def planGo (P : Program) (ops : Array Oper) (B : List Nat) : List Nat → List Nat → Bool
  | _, [] => true
  | seen, i :: rest =>
    (match ops[i]? with
      | some o => o.after.toList.all fun e => !Region.binds .any e || (seen.contains e.on && Nat.blt e.on i)
      | none => false) &&
    !seen.contains i && (effAt P ops i || offD (dstAt ops i) (looksAt ops i)) &&
    (seen.all fun j => !effAt P ops j || befL B j i) &&
    (seen.all fun j => (offD (dstAt ops j) (namesAt ops i) || befL B j i) && (offD (dstAt ops i) (namesAt ops j) || effAt P ops j || (effAt P ops i && befL B j i))) &&
    planGo P ops B (i :: seen) rest
def planOk (P : Program) (ops : Array Oper) (order B : List Nat) : Bool :=
  seq B (Region.before ops).toList && (Nat.beq order.length ops.size && (List.range ops.size).all (fun i => order.contains i) && planGo P ops B [] order)
def rchk (agg : Bool) (n : Nat) (h : Heap) (p v : AV) (k : Option R) : Option R :=
  bif agg then ldn n h p fun u => bif same u v then k else none
  else ld h p fun u => bif same u v then k else none
/-- what has been loaded: which operation, of how many cells, from where, what -/
structure Seen where
  i : Nat
  agg : Bool
  n : Nat
  p : AV
  v : AV
/-- is it still the same? (where nothing was loaded there is nothing to ask) -/
def chkS (agg : Bool) (n : Nat) (h : Heap) (p v : AV) : Bool := match v with
  | .tup _ => true
  | v => (rchk agg n h p v (some ())).isSome
def rchks (B : List Nat) (i : Nat) (h : Heap) : List Seen → Option R → Option R
  | [], k => k
  | s :: l, k => bif befL B s.i i then rchks B i h l k else bif chkS s.agg s.n h s.p s.v then rchks B i h l k else none
def note (P : Program) (i : Nat) (o : Op) (tm : List AV) (v : AV) (l : List Seen) : List Seen := match o with
  | .load t a => { i := i, agg := aggT P t, n := szOf P t, p := evX P tm a, v := v } :: l
  | _ => l
def evD (P : Program) (rec : Rec) (ops : Array Oper) (B : List Nat) : List Nat → List Seen → List AV → Heap → (List AV → Heap → Option R) → Option R
  | [], _, tm, h, k => k tm h
  | i :: rest, l, tm, h, k => match ops[i]? with
    | none => none
    | some o => bnd (want ops o tm (evOp P rec tm o.op h fun v h => some (v, h)) (some (.tup [], h))) fun v h =>
        bif isEff P o.op then rchks B i h l (evD P rec ops B rest l (tput tm o.dst v) h k)
        else evD P rec ops B rest (note P i o.op tm v l) (tput tm o.dst v) h k

/-! ### Codes -/
def iter : Nat → ((List AV → Heap → Option R) → List AV → Heap → Option R) → List AV → Heap → Option R
  | 0, _ => fun _ _ => none
  | n + 1, F => F (iter n F)
def un (l : List AV) (k : AV → List AV → Option R) : Option R := match l with | a :: l => k a l | [] => none
def unc : Nat → List AV → (List AV → Option R) → Option R
  | 0, _, k => k []
  | n + 1, l, k => un l fun a l => unc n l fun r => k (a :: r)
def bots : Nat → List AV
  | 0 => []
  | n + 1 => .bot :: bots n
def unpack (tm : List AV) : List Nat → List AV → List AV
  | i :: is, v :: vs => unpack (tset tm i v) is vs
  | _, _ => tm
def pack (tm : List AV) (is : List Nat) : List AV := is.map (tget tm)
def firstReg : Code → Option Nat
  | .region id _ _ => some id
  | .seq a b => (match firstReg a with | some i => some i | none => firstReg b)
  | .cond _ a b => (match firstReg a with | some i => some i | none => firstReg b)
  | .block _ c => firstReg c
  | .loop c => firstReg c
  | .rangeFunc _ _ a b => (match firstReg a with | some i => some i | none => firstReg b)
  | .scope c => firstReg c
  | _ => none
def regId (c : Code) : Nat := match firstReg c with | some i => i | none => 0
def hasRet : Code → Bool
  | .ret => true
  | .seq a b => hasRet a || hasRet b
  | .cond _ a b => hasRet a || hasRet b
  | .block _ c => hasRet c
  | .loop c => hasRet c
  | .rangeFunc _ _ a b => hasRet a || hasRet b
  | .scope c => hasRet c
  | _ => false
def exitIds : Code → List Nat
  | .exit i => [i]
  | .seq a b => exitIds a ++ exitIds b
  | .cond _ a b => exitIds a ++ exitIds b
  | .block i c => (exitIds c).filter fun j => !Nat.beq i j
  | .loop c => exitIds c
  | .rangeFunc _ _ a b => exitIds a ++ exitIds b
  | .scope c => exitIds c
  | _ => []
def hasReg (c : Code) : Bool := (firstReg c).isSome
def cntExit (id : Nat) : Code → Nat
  | .exit i => bif Nat.beq i id then 1 else 0
  | .seq a b => Nat.add (cntExit id a) (cntExit id b)
  | .cond _ a b => Nat.add (cntExit id a) (cntExit id b)
  | .block i c => bif Nat.beq i id then 0 else cntExit id c
  | .loop c => cntExit id c
  | .rangeFunc _ _ a b => Nat.add (cntExit id a) (cntExit id b)
  | .scope c => cntExit id c
  | _ => 0
/-- how many ways lead behind a code -/
def norms : Code → Nat
  | .skip => 1
  | .region _ _ _ => 1
  | .label _ => 1
  | .seq a b => bif Nat.blt 1 (norms a) && hasReg b then norms b else Nat.mul (norms a) (norms b)
  | .cond _ a b => Nat.add (norms a) (norms b)
  | .block i c => Nat.add (norms c) (cntExit i c)
  | .scope c => norms c
  | .rangeFunc _ _ _ _ => 1
  | _ => 0
def joins (a b : Code) : Bool := Nat.blt 1 (norms a) && hasReg b
/-- where ways meet: what comes behind is laid once -/
def joinPt (J : List AV → Heap → Option R) (B : (List AV → Heap → Option R) → Option R) : Option R := B J
def outs : List Nat → Nat → (Nat → Option R) → Option R
  | [], _, _ => none
  | j :: l, i, k => bif Nat.beq i j then k j else outs l i k
/-- how a loop over an iterator was left -/
def leaveP (p : Ex) (x y : Option R) (z : Nat → Option R) : Option R := match p with
  | .normal => x
  | .ret => y
  | .exit i => z i
  | .goto _ => none
def leave (ret : Bool) (ids : List Nat) (p : Ex) (k : Ex → Option R) : Option R := leaveP p (k .normal) (bif ret then k .ret else none) fun i => outs ids i fun j => k (.exit j)
def loopAt (h : Heap) (l id : Nat) (k : List AV → Nat → Ex → Option R) : Option R := match h.get l with
  | some (.loop j vs st p) => bif Nat.beq j id then k vs st p else none
  | _ => none
def siteId (f : Nat) (body : Code) : Nat := Nat.add (Nat.mul f 1000) (regId body)

/-- what is written down of a function: how many rounds a loop has at most; each region's plan -/
structure Bk where
  n : Nat
  plan : Nat → List Nat × List Nat
def evC (P : Program) (rec : Rec) (N : Bk) (L : Nat → List Nat) (f nt : Nat) (top : Bool) : Code → List AV → Heap → (Ex → List AV → Heap → Option R) → Option R
  | .skip, tm, h, k => k .normal tm h
  | .region id ops draw, tm, h, k => (match draw with
    | false => evOps P rec ops ops.toList tm h fun tm h => k .normal tm h
    | true => bif planOk P ops (N.plan id).1 (N.plan id).2 then evD P rec ops (N.plan id).2 (N.plan id).1 [] tm h fun tm h => k .normal tm h else none)
  | .seq a b, tm, h, k => bif joins a b then joinPt (fun vs h => unc (L (regId b)).length vs fun vs => evC P rec N L f nt top b (unpack (bots nt) (L (regId b)) vs) h k) fun J =>
      evC P rec N L f nt top a tm h fun e tm h => (match e with
      | .normal => J (pack tm (L (regId b))) h
      | .exit i => k (.exit i) tm h
      | .goto i => k (.goto i) tm h
      | .ret => k .ret tm h)
    else evC P rec N L f nt top a tm h fun e tm h => (match e with
      | .normal => evC P rec N L f nt top b tm h k
      | .exit i => k (.exit i) tm h
      | .goto i => k (.goto i) tm h
      | .ret => k .ret tm h)
  | .cond c a b, tm, h, k => tst (evX P tm c) (evC P rec N L f nt top a tm h k) (evC P rec N L f nt top b tm h k)
  | .block id c, tm, h, k => evC P rec N L f nt top c tm h fun e tm h => (match e with
    | .normal => k .normal tm h
    | .exit i => bif Nat.beq i id then k .normal tm h else k (.exit i) tm h
    | .goto i => k (.goto i) tm h
    | .ret => k .ret tm h)
  | .loop c, tm, h, k => iter N.n (fun next vs h => unc (L (regId c)).length vs fun vs => evC P rec N L f nt top c (unpack (bots nt) (L (regId c)) vs) h fun e tm h => (match e with
    | .normal => next (pack tm (L (regId c))) h
    | .exit i => k (.exit i) tm h
    | .goto i => k (.goto i) tm h
    | .ret => k .ret tm h)) (pack tm (L (regId c))) h
  | .rangeFunc g _ _ body, tm, h, k => bif top then callf rec (evX P tm g) [.yield h.next] (h.push (.loop (siteId f body) (pack tm (L (regId body))) 0 .normal)) fun _ h' =>
      loopAt h' h.next (siteId f body) fun vs st p => bif Nat.beq st 1 then none
        else leave (hasRet body) (exitIds body) p fun e => k e tm (h'.set h.next (.loop (siteId f body) vs 3 p)) else none
  | .exit id, tm, h, k => k (.exit id) tm h
  | .scope c, tm, h, k => evC P rec N L f nt top c tm h fun e tm h => (match e with
    | .normal => k .normal tm h
    | .exit i => k (.exit i) tm h
    | .goto _ => none
    | .ret => k .ret tm h)
  | .label _, tm, h, k => k .normal tm h
  | .ret, tm, h, k => k .ret tm h
  | .goto _, _, _, _ => none
  | .refuse _, _, _, _ => none

/-- what a function hands back -/
def results1 (P : Program) (tm : List AV) (h : Heap) : List ResultVar → (List AV → Option R) → Option R
  | [], k => k []
  | .tmp t :: l, k => results1 P tm h l fun vs => k (tget tm t :: vs)
  | .cell a t :: l, k => aggB P t (ldn (szOf P t) h (tget tm a) fun v => results1 P tm h l fun vs => k (v :: vs))
      (ld h (tget tm a) fun v => results1 P tm h l fun vs => k (v :: vs))
def one : List AV → AV
  | [v] => v
  | vs => .tup vs
end
def frame (nt : Nat) (args : List AV) : List AV := args ++ bots (Nat.sub nt args.length)
/-- A FUNCTION's BODY. -/
def evF (P : Program) (rec : Rec) (N : Bk) (L : Nat → List Nat) (f : Nat) (fn : Func) (args : List AV) (h : Heap) : Option (AV × Heap) :=
  match fn.body with
  | none => none
  | some c => bif Nat.ble args.length fn.ntmps then evC P rec N L f fn.ntmps true c (frame fn.ntmps args) h fun e tm h => (match e with
    | .normal => results1 P tm h fn.results.toList fun vs => some (one vs, h)
    | .ret => results1 P tm h fn.results.toList fun vs => some (one vs, h)
    | _ => none) else none
/-- A ROUND of a loop over an iterator, whose record lies at l. -/
def evY (P : Program) (rec : Rec) (N : Bk) (L : Nat → List Nat) (f : Nat) (fn : Func) (ps : List Tmp) (asg body : Code) (l : Nat) (vs args : List AV) (h : Heap) : Option (AV × Heap) :=
  unc (L (regId body)).length vs fun vs => bif Nat.beq args.length ps.length then unc ps.length args fun args =>
    evC P rec N L f fn.ntmps false asg (unpack (unpack (bots fn.ntmps) (L (regId body)) vs) ps args) h fun e tm h => (match e with
      | .normal => loopAt h l (siteId f body) fun ws st p => bif Nat.beq st 0 then
          evC P rec N L f fn.ntmps false body tm (h.set l (.loop (siteId f body) ws 1 p)) fun e _ h => loopAt h l (siteId f body) fun ws _ _ => (match e with
            | .normal => some (.bool true, h.set l (.loop (siteId f body) ws 0 .normal))
            | e => some (.bool false, h.set l (.loop (siteId f body) ws 2 e)))
        else none
      | _ => none)
    else none
end Go.Ai
