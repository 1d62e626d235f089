/-
  An evaluator of Go code on closed data, proved sound: part 1 of 5 (merged by merge.py).
-/
import Derived.Calls
import Derived.Defers
import Derived.KernelRfl
/-
  An evaluator of Go code on closed data, in a form that the kernel computes: definitions.
-/
namespace Go.Proofs.Ytddknmgajacofaa.Ev
open Go

/-! ### tries by number -/
inductive TT (α : Type) where
  | leaf
  | node (l : TT α) (v : Option α) (r : TT α)

noncomputable def TT.find {α : Type} (t : TT α) : Nat → Option α :=
  @TT.rec α (fun _ => Nat → Option α) (fun _ => none) (fun _ v _ fl fr k => @Nat.rec (fun _ => Option α) v (fun j _ => @Nat.rec (fun _ => Option α) (fl (Nat.div j 2)) (fun _ _ => fr (Nat.div j 2)) (Nat.mod j 2)) k) t
noncomputable def TT.set {α : Type} (n : Nat) : TT α → Nat → Option α → TT α :=
  @Nat.rec (fun _ => TT α → Nat → Option α → TT α) (fun t _ _ => t) (fun _ ih t k o =>
    @Nat.rec (fun _ => TT α) (@TT.rec α (fun _ => TT α) (.node .leaf o .leaf) (fun l _ r _ _ => .node l o r) t)
      (fun j _ => @Nat.rec (fun _ => TT α)
         (@TT.rec α (fun _ => TT α) (.node (ih .leaf (Nat.div j 2) o) none .leaf) (fun l v r _ _ => .node (ih l (Nat.div j 2) o) v r) t)
         (fun _ _ => @TT.rec α (fun _ => TT α) (.node .leaf none (ih .leaf (Nat.div j 2) o)) (fun l v r _ _ => .node l v (ih r (Nat.div j 2) o)) t) (Nat.mod j 2)) k) n
noncomputable def TT.ofList {α : Type} : Nat → List α → TT α → TT α
  | _, [], t => t
  | i, x :: l, t => TT.ofList (i + 1) l (TT.set 40 t i (some x))

/-! ### small tests -/
noncomputable def kNo : IntKind → Nat
  | .i8 => 0 | .i16 => 1 | .i32 => 2 | .i64 => 3 | .u8 => 4 | .u16 => 5 | .u32 => 6 | .u64 => 7
noncomputable def kEq (a b : IntKind) : Bool := Nat.beq (kNo a) (kNo b)
noncomputable def ile : Int → Int → Bool
  | .ofNat m, .ofNat n => Nat.ble m n
  | .ofNat _, .negSucc _ => false
  | .negSucc _, .ofNat _ => true
  | .negSucc m, .negSucc n => Nat.ble n m
noncomputable def ieq : Int → Int → Bool
  | .ofNat m, .ofNat n => Nat.beq m n
  | .negSucc m, .negSucc n => Nat.beq m n
  | _, _ => false
noncomputable def kMod : IntKind → Nat
  | .i8 | .u8 => 256
  | .i16 | .u16 => 65536
  | .i32 | .u32 => 4294967296
  | .i64 | .u64 => 18446744073709551616
noncomputable def kSigned : IntKind → Bool
  | .i8 | .i16 | .i32 | .i64 => true
  | _ => false
noncomputable def kBits : IntKind → Nat
  | .i8 | .u8 => 8
  | .i16 | .u16 => 16
  | .i32 | .u32 => 32
  | .i64 | .u64 => 64
/-- A number's bits. -/
noncomputable def uOf (k : IntKind) : Int → Nat
  | .ofNat m => m % kMod k
  | .negSucc m => kMod k - 1 - m % kMod k
noncomputable def ofU (k : IntKind) (m : Nat) : Int := bif kSigned k && Nat.ble (kMod k / 2) m then Int.negSucc (kMod k - 1 - m) else Int.ofNat m
noncomputable def wrapK (k : IntKind) (n : Int) : Int := ofU k (uOf k n)
noncomputable def beqL : List UInt8 → List UInt8 → Bool
  | [], [] => true
  | a :: x, b :: y => Nat.beq a.toNat b.toNat && beqL x y
  | _, _ => false
noncomputable def ltL : List UInt8 → List UInt8 → Bool
  | _, [] => false
  | [], _ :: _ => true
  | a :: x, b :: y => Nat.blt a.toNat b.toNat || (Nat.beq a.toNat b.toNat && ltL x y)
noncomputable def sL (s : ByteArray) : List UInt8 := s.data.toList
noncomputable def mkS (l : List UInt8) : ByteArray := ⟨⟨l⟩⟩
noncomputable def takeN {α : Type} : Nat → List α → Option (List α)
  | 0, _ => some []
  | _ + 1, [] => none
  | n + 1, x :: l => match takeN n l with
    | some r => some (x :: r)
    | none => none
noncomputable def dropN {α : Type} : Nat → List α → List α
  | 0, l => l
  | _ + 1, [] => []
  | n + 1, _ :: l => dropN n l
noncomputable def nth {α : Type} : Nat → List α → Option α
  | _, [] => none
  | 0, x :: _ => some x
  | n + 1, _ :: l => nth n l
noncomputable def lenL {α : Type} : List α → Nat
  | [] => 0
  | _ :: l => lenL l + 1
/-- Cells written over others from the front on. -/
noncomputable def overF : List Value → List Value → Option (List Value)
  | [], l => some l
  | _ :: _, [] => none
  | v :: vs, _ :: l => match overF vs l with
    | some r => some (v :: r)
    | none => none
noncomputable def over : Nat → List Value → List Value → Option (List Value)
  | 0, vs, l => overF vs l
  | _ + 1, _, [] => none
  | n + 1, vs, x :: l => match over n vs l with
    | some r => some (x :: r)
    | none => none
noncomputable def setN : Nat → Value → List Value → List Value
  | _, _, [] => []
  | 0, v, _ :: l => v :: l
  | n + 1, v, x :: l => x :: setN n v l
noncomputable def repN {α : Type} : Nat → α → List α
  | 0, _ => []
  | n + 1, x => x :: repN n x
noncomputable def repL {α : Type} : Nat → List α → List α
  | 0, _ => []
  | n + 1, x => x ++ repL n x

/-! ### values -/
noncomputable def undefV : Value := .tuple #[]
/-- From this on a capacity is that of a row with room behind it of which nothing is known. -/
noncomputable def OPEN : Nat := 1267650600228229401496703205376
noncomputable def optBeq : Option Nat → Option Nat → Bool
  | none, none => true
  | some a, some b => Nat.beq a b
  | _, _ => false
noncomputable def adBeq (a b : Addr) : Bool := Nat.beq a.block b.block && Nat.beq a.off b.off && optBeq a.spot b.spot
noncomputable def oadBeq : Option Addr → Option Addr → Bool
  | none, none => true
  | some a, some b => adBeq a b
  | _, _ => false
noncomputable def fnBeq : Fn → Fn → Bool
  | .func f, .func g => Nat.beq f g
  | .yield f, .yield g => Nat.beq f g
  | _, _ => false
noncomputable def allH (eq : Value → Value → Bool) : List Value → List Value → Bool
  | [], [] => true
  | a :: x, b :: y => eq a b && allH eq x y
  | _, _ => false
/-- Are two values the same? false says nothing. -/
noncomputable def veq : Nat → Value → Value → Bool
  | 0, _, _ => false
  | d + 1, x, y =>
    match x, y with
    | .bool a, .bool b => match a, b with | true, true => true | false, false => true | _, _ => false
    | .int k a, .int k' b => kEq k k' && ieq a b
    | .float .f32 a, .float .f32 b => Nat.beq a b
    | .string a, .string b => beqL (sL a) (sL b)
    | .pointer a, .pointer b => oadBeq a b
    | .slice a n c, .slice a' n' c' => oadBeq a a' && Nat.beq n n' && Nat.beq c c'
    | .map a, .map b => optBeq a b
    | .chan a, .chan b => optBeq a b
    | .func f a b, .func g a' b' => fnBeq f g && allH (veq d) a.toList a'.toList && allH (veq d) b.toList b'.toList
    | .nilFunc, .nilFunc => true
    | .nilIface, .nilIface => true
    | .iface t a, .iface u b => Nat.beq t u && veq d a b
    | .agg a, .agg b => allH (veq d) a.toList b.toList
    | .tuple a, .tuple b => allH (veq d) a.toList b.toList
    | _, _ => false
noncomputable def vDepth : Nat := 6

/-! ### the heap -/
/-- A frame: its slots. -/
abbrev Fr := TT Value
/-- What lies in a block: cells (opn: with room behind them); a map; an iterator over a map, with what is still to come, and what came last; the place of an entry; a channel; a range over a function (its frame, and what it jumps to); a package's table; what is known of symbols (an operation's number, its operands, what it gives). -/
inductive AObj where
  | cells (cs : List Value) (e : TypeId) (opn : Bool)
  | map (es : List (Value × Value))
  | iter (m : Option Nat) (left : List (Value × Value)) (cur : Option (Value × Value))
  | stamp (m : Nat) (k : Value)
  | chan (cap : Nat) (buf : List Value)
  | loop (state : LoopState) (pending : Option Code) (fn : Nat) (F : Fr) (params : List Nat) (assign body : Code)
  | dfrd
  | fixed (cs : List Value)
  | facts (l : List (Nat × Value × Value × Value))

/-- A heap: blocks by their names; the next name; the iterators and stamps with their maps. -/
structure HS where
  h : TT AObj
  n : Nat
  its : List (Nat × Nat)

/-- A call that is deferred. -/
structure ADef where
  f : Nat
  captured : List Value
  args : List Value
inductive EX where
  | normal
  | exit (id : Nat)
  | ret
structure St where
  F : Fr
  ds : List ADef
  H : HS
structure Out where
  ex : EX
  s : St

noncomputable def getC (H : HS) (id off n : Nat) : Option (List Value) :=
  match H.h.find id with
  | some (.cells cs _ _) => takeN n (dropN off cs)
  | some (.fixed cs) => takeN n (dropN off cs)
  | _ => none
noncomputable def putO (H : HS) (id : Nat) (o : Option AObj) : HS := { H with h := TT.set 40 H.h id o }
noncomputable def oneV : Value → Bool
  | .agg _ => false
  | .tuple _ => false
  | _ => true
noncomputable def allOne : List Value → Bool
  | [] => true
  | v :: l => oneV v && allOne l
noncomputable def setC (H : HS) (id off : Nat) (vs : List Value) : Option HS :=
  match H.h.find id with
  | some (.cells cs e o) => match (bif allOne vs then over off vs cs else none) with
    | some cs' => some (putO H id (some (.cells cs' e o)))
    | none => none
  | _ => none
noncomputable def idMost : Nat := 1000000000
noncomputable def newO (H : HS) (o : AObj) : Option HS := bif Nat.blt H.n idMost then some { H with h := TT.set 40 H.h H.n (some o), n := H.n + 1 } else none
/-- The iterators and stamps of a map are worth nothing any more. -/
noncomputable def depIs (m : Nat) : Option AObj → Bool
  | some (.iter (some m') _ _) => Nat.beq m' m
  | some (.stamp m' _) => Nat.beq m' m
  | _ => false
noncomputable def killL (m : Nat) : List (Nat × Nat) → TT AObj → TT AObj × List (Nat × Nat)
  | [], h => (h, [])
  | (z, m') :: l, h => bif Nat.beq m' m then killL m l (bif depIs m (h.find z) then TT.set 40 h z none else h) else match killL m l h with | (h', r) => (h', (z, m') :: r)
noncomputable def killM (m : Nat) (H : HS) : HS := match H.its with
  | [] => H
  | _ => match killL m H.its H.h with | (h, l) => { H with h := h, its := l }
noncomputable def dropI (z : Nat) : List (Nat × Nat) → List (Nat × Nat)
  | [] => []
  | (z', m) :: l => bif Nat.beq z' z then dropI z l else (z', m) :: dropI z l

section
variable (T : TT TypeInfo)
noncomputable def under (t : TypeId) : Option TypeDesc :=
  match T.find t with
  | some i => match i.desc with
    | .named _ u => match T.find u with
      | some j => some j.desc
      | none => none
    | d => some d
  | none => none
noncomputable def szOf (t : TypeId) : Option Nat := match T.find t with | some i => some i.size | none => none
noncomputable def byOf (t : TypeId) : Option Nat := match T.find t with | some i => some i.bytes | none => none
noncomputable def zeroOf (t : TypeId) : Option Value := match T.find t with | some i => i.zero | none => none
noncomputable def vcells : Value → List Value
  | .agg cs => cs.toList
  | v => [v]
/-- How many cells a variable has, if it is one of many; 0: it is one value. -/
noncomputable def aggOf (t : TypeId) : Option (Option Nat) :=
  match under T t with
  | some (.struct _) | some (.array _ _) => match szOf T t with | some n => some (some n) | none => none
  | some _ => some none
  | none => none
noncomputable def loadV (H : HS) (t : TypeId) (id off : Nat) : Option Value :=
  match aggOf T t with
  | some (some n) => match getC H id off n with | some l => some (.agg ⟨l⟩) | none => none
  | some none => match getC H id off 1 with | some [v] => some v | _ => none
  | none => none
noncomputable def storeV (H : HS) (t : TypeId) (id off : Nat) (v : Value) : Option HS :=
  match szOf T t with
  | some n => bif Nat.beq (lenL (vcells v)) n then setC H id off (vcells v) else none
  | none => none
noncomputable def partV (t : TypeId) (cs : List Value) (off : Nat) : Option Value :=
  match aggOf T t with
  | some (some n) => match takeN n (dropN off cs) with | some l => some (.agg ⟨l⟩) | none => none
  | some none => nth off cs
  | none => none

/-! ### operations on values -/
noncomputable def intBin (op : BinOp) (k : IntKind) (a b : Int) : Option Value :=
  match op with
  | .add => some (.int k (wrapK k (a + b)))
  | .sub => some (.int k (wrapK k (a - b)))
  | .mul => some (.int k (wrapK k (a * b)))
  | .quo => bif ieq b 0 then none else some (.int k (wrapK k (a.tdiv b)))
  | .rem => bif ieq b 0 then none else some (.int k (a.tmod b))
  | .and => some (.int k (ofU k (Nat.land (uOf k a) (uOf k b))))
  | .or => some (.int k (ofU k (Nat.lor (uOf k a) (uOf k b))))
  | .xor => some (.int k (ofU k (Nat.xor (uOf k a) (uOf k b))))
  | .eql => some (.bool (ieq a b))
  | .neq => some (.bool (!ieq a b))
  | .lss => some (.bool (!ile b a))
  | .leq => some (.bool (ile a b))
  | .gtr => some (.bool (!ile a b))
  | .geq => some (.bool (ile b a))
  | _ => none
noncomputable def shiftBin (left : Bool) (k : IntKind) (a b : Int) : Option Value :=
  match b with
  | .ofNat n => bif left then (bif Nat.ble (kBits k) n then some (.int k 0) else some (.int k (wrapK k (a * Int.ofNat (Nat.pow 2 n)))))
    else match a with
      | .ofNat m => some (.int k (.ofNat (Nat.shiftRight m (bif Nat.ble (kBits k) n then kBits k else n))))
      | .negSucc m => some (.int k (.negSucc (Nat.shiftRight m (bif Nat.ble (kBits k) n then kBits k else n))))
  | .negSucc _ => none
noncomputable def strBin (op : BinOp) (a b : ByteArray) : Option Value :=
  match op with
  | .add => bif Nat.ble (lenL (sL a) + lenL (sL b)) 9223372036854775807 then some (.string (mkS (sL a ++ sL b))) else none
  | .eql => some (.bool (beqL (sL a) (sL b)))
  | .neq => some (.bool (!beqL (sL a) (sL b)))
  | .lss => some (.bool (ltL (sL a) (sL b)))
  | .leq => some (.bool (ltL (sL a) (sL b) || beqL (sL a) (sL b)))
  | .gtr => some (.bool (!(ltL (sL a) (sL b) || beqL (sL a) (sL b))))
  | .geq => some (.bool (!ltL (sL a) (sL b)))
  | _ => none
noncomputable def eqFieldsH (eq : TypeId → Value → Value → Option Bool) (xs ys : List Value) : List Field → Option Bool
  | [] => some true
  | f :: fs => bif f.name == "_" then none else
    match partV T f.type xs f.offset, partV T f.type ys f.offset with
    | some a, some b => match eq f.type a b with
      | some true => eqFieldsH eq xs ys fs
      | r => r
    | _, _ => none
noncomputable def eqElemsH (eq : TypeId → Value → Value → Option Bool) (e : TypeId) (n : Nat) (xs ys : List Value) : Nat → Nat → Option Bool
  | 0, _ => some true
  | m + 1, off =>
    match partV T e xs off, partV T e ys off with
    | some a, some b => match eq e a b with
      | some true => eqElemsH eq e n xs ys m (off + n)
      | r => r
    | _, _ => none
/-- Equality by a type. -/
noncomputable def eqT : Nat → TypeId → Value → Value → Option Bool
  | 0, _, _, _ => none
  | d + 1, t, x, y =>
    match under T t with
    | some .bool => match x, y with | .bool a, .bool b => some (match a, b with | true, true => true | false, false => true | _, _ => false) | _, _ => none
    | some (.int _) => match x, y with | .int k a, .int k' b => bif kEq k k' then some (ieq a b) else none | _, _ => none
    | some .string => match x, y with | .string a, .string b => some (beqL (sL a) (sL b)) | _, _ => none
    | some (.pointer _) => match x, y with
      | .pointer none, .pointer none => some true
      | .pointer none, .pointer (some _) => some false
      | .pointer (some _), .pointer none => some false
      | _, _ => none
    | some (.slice _) => match x, y with
      | .slice none _ _, .slice none _ _ => some true
      | .slice none _ _, .slice (some _) _ _ => some false
      | .slice (some _) _ _, .slice none _ _ => some false
      | _, _ => none
    | some (.map _ _) => match x, y with
      | .map none, .map none => some true
      | .map none, .map (some _) => some false
      | .map (some _), .map none => some false
      | _, _ => none
    | some (.func _ _ _) => match x, y with
      | .nilFunc, .nilFunc => some true
      | .nilFunc, .func _ _ _ => some false
      | .func _ _ _, .nilFunc => some false
      | _, _ => none
    | some (.struct fs) => match x, y with | .agg xs, .agg ys => eqFieldsH T (eqT d) xs.toList ys.toList fs.toList | _, _ => none
    | some (.array n e) => match x, y with
      | .agg xs, .agg ys => match szOf T e with | some s => eqElemsH T (eqT d) e s xs.toList ys.toList n 0 | none => none
      | _, _ => none
    | _ => none
noncomputable def eqDepth : Nat := 20
/-- Has a type no interface among its parts? -/
noncomputable def guardF : Nat → TypeId → Bool
  | 0, _ => false
  | d + 1, t => match under T t with
    | some (.struct fs) => fs.toList.all fun f => guardF d f.type
    | some (.array _ e) => guardF d e
    | some (.interface _) => false
    | some _ => true
    | none => false
noncomputable def binV (op : BinOp) (t : TypeId) (x y : Value) : Option Value :=
  match x, y with
  | .int k a, .int k' b => match op with
    | .shl => shiftBin true k a b
    | .shr => shiftBin false k a b
    | _ => bif kEq k k' then intBin op k a b else none
  | .string a, .string b => strBin op a b
  | x, y => match op with
    | .eql => bif guardF T eqDepth t then (match eqT T eqDepth t x y with | some b => some (.bool b) | none => none) else none
    | .neq => bif guardF T eqDepth t then (match eqT T eqDepth t x y with | some b => some (.bool (!b)) | none => none) else none
    | _ => none
noncomputable def unV : UnOp → Value → Option Value
  | .neg, .int k n => some (.int k (wrapK k (0 - n)))
  | .xor, .int k n => some (.int k (ofU k (kMod k - 1 - uOf k n)))
  | .not, .bool b => some (.bool (!b))
  | _, _ => none

/-! ### operations on memory -/
noncomputable def byteV : Value → Option UInt8
  | .int .u8 (.ofNat n) => some (UInt8.ofNat n)
  | _ => none
noncomputable def bytesOf : List Value → Option (List UInt8)
  | [] => some []
  | v :: l => match byteV v, bytesOf l with
    | some b, some r => some (b :: r)
    | _, _ => none
noncomputable def cellsOfS (l : List UInt8) : List Value := l.map fun b => .int .u8 (.ofNat b.toNat)
noncomputable def capKnown (c : Nat) : Nat := bif Nat.ble OPEN c then c - OPEN else c
noncomputable def isOpen (c : Nat) : Bool := Nat.ble OPEN c
/-- A bound of a slice expression. -/
noncomputable def bnd : Option Value → Nat → Option Nat
  | none, d => some d
  | some (.int _ (.ofNat i)), _ => some i
  | _, _ => none
/-- low, high and max within a length and a capacity that are known. -/
noncomputable def bnds (len cap : Nat) (lo hi mx : Option Value) : Option (Nat × Nat × Nat) :=
  match bnd mx cap with
  | none => none
  | some m => match bnd hi len with
    | none => none
    | some h => match bnd lo 0 with
      | none => none
      | some l => bif Nat.ble l h && (Nat.ble h m && Nat.ble m cap) then some (l, h, m) else none
noncomputable def addOff (a : Addr) (n : Nat) : Addr := ⟨a.block, a.off + n, none⟩
noncomputable def sliceS (s : Nat) (a : Option Addr) (len cap : Nat) (lo hi mx : Option Value) (H : HS) : Option (Value × HS) :=
  bif isOpen cap then
    match mx with
    | none => match bnds len (cap - OPEN) lo hi none with
      | some (l, h, m) => bif Nat.beq m l then
          (match a with
           | some _ => bif Nat.blt H.n idMost then some (.slice (some ⟨H.n, 0, none⟩) (h - l) OPEN, { H with n := H.n + 1 }) else none
           | none => none)
        else match a with
          | some a => some (.slice (some (addOff a (l * s))) (h - l) (OPEN + (m - l)), H)
          | none => none
      | none => none
    | some _ => match bnds len (cap - OPEN) lo hi mx with
      | some (l, h, m) => match a with
        | some a => bif Nat.blt m OPEN then some (.slice (some (bif Nat.beq m l then a else addOff a (l * s))) (h - l) (m - l), H) else none
        | none => none
      | none => none
  else
    match bnds len cap lo hi mx with
    | some (l, h, m) => match a with
      | some a => some (.slice (some (bif Nat.beq m l then a else addOff a (l * s))) (h - l) (m - l), H)
      | none => some (.slice none (h - l) (m - l), H)
    | none => none
noncomputable def sliceV (t : TypeId) (x : Value) (lo hi mx : Option Value) (H : HS) : Option (Value × HS) :=
  match under T t with
  | some .string => match x with
    | .string s => match mx with
      | none => match bnds (lenL (sL s)) (lenL (sL s)) lo hi none with
        | some (l, h, _) => match takeN (h - l) (dropN l (sL s)) with | some r => some (.string (mkS r), H) | none => none
        | none => none
      | some _ => none
    | _ => none
  | some (.slice e) => match x with
    | .slice a len cap => match szOf T e with | some s => sliceS s a len cap lo hi mx H | none => none
    | _ => none
  | some (.array n e) => match x with
    | .pointer (some a) => match szOf T e with
      | some s => match bnds n n lo hi mx with
        | some (l, h, m) => bif Nat.blt n OPEN then some (.slice (some (bif Nat.beq m l then a else addOff a (l * s))) (h - l) (m - l), H) else none
        | none => none
      | none => none
    | _ => none
  | _ => none
/-- The cells that are appended, or copied: the first n elements. -/
noncomputable def firstsV (s n : Nat) (x : Value) (H : HS) : Option (List Value) :=
  match x with
  | .slice (some a) _ _ => bif Nat.beq n 0 then some [] else getC H a.block a.off (n * s)
  | .slice none _ _ => some []
  | .string b => match takeN n (sL b) with | some l => some (cellsOfS l) | none => none
  | _ => none
noncomputable def lenV : Value → Option Nat
  | .slice _ n _ => some n
  | .string s => some (lenL (sL s))
  | _ => none
noncomputable def appMost : Nat := 1000000
/-- The heap in which a row that grows is made: if it may grow in its place, the old one is worth nothing any more. -/
noncomputable def growFrom (e : TypeId) (s : Nat) (a : Option Addr) (cap : Nat) (H : HS) : Option HS :=
  match a with
  | none => bif isOpen cap then none else some H
  | some a => bif isOpen cap then
      (match H.h.find a.block with
       | some (.cells cs e' true) => bif Nat.beq e' e && Nat.beq (a.off + (cap - OPEN) * s) (lenL cs) then some (putO H a.block none) else none
       | _ => none)
    else some H
noncomputable def appendGrow (e : TypeId) (s by_ len n cap : Nat) (a : Option Addr) (x : Value) (new : List Value) (H : HS) : Option (Value × HS) :=
  match zeroOf T e with
  | some z => bif Nat.ble (len + n) appMost && (Nat.ble by_ 1000000 && (Nat.beq (lenL (vcells z)) s && Nat.blt 0 s)) then
      match firstsV s len x H with
      | none => none
      | some old => match growFrom e s a cap H with
        | none => none
        | some H1 => match newO H1 (.cells (old ++ new) e true) with
          | some H2 => bif allOne new && (Nat.beq (lenL old) (len * s) && Nat.beq (lenL new) (n * s)) then some (.slice (some ⟨H1.n, 0, none⟩) (len + n) (OPEN + (len + n)), H2) else none
          | none => none
    else none
  | none => none
noncomputable def appendIn (s len n cap : Nat) (a : Option Addr) (new : List Value) (H : HS) : Option (Value × HS) :=
  match a with
  | none => some (.slice none (len + n) cap, H)
  | some a => match setC H a.block (a.off + len * s) new with
    | some H' => some (.slice (some a) (len + n) cap, H')
    | none => none
noncomputable def appendV (ts : TypeId) (x y : Value) (H : HS) : Option (Value × HS) :=
  match under T ts with
  | some (.slice e) => match szOf T e, byOf T e with
    | some s, some by_ => match x, lenV y with
      | .slice a len cap, some n =>
        match firstsV s n y H with
        | none => none
        | some new => bif Nat.ble (len + n) (capKnown cap) then appendIn s len n cap a new H else appendGrow T e s by_ len n cap a x new H
      | _, _ => none
    | _, _ => none
  | _ => none
noncomputable def copyV (ts : TypeId) (x y : Value) (H : HS) : Option (Value × HS) :=
  match under T ts with
  | some (.slice e) => match szOf T e, x, lenV y with
    | some s, .slice a len _, some m =>
      let n := Nat.min m len
      match firstsV s n y H with
      | none => none
      | some new => match a, new with
        | some a, _ :: _ => match setC H a.block a.off new with
          | some H' => some (.int .i64 (.ofNat n), H')
          | none => none
        | _, _ => some (.int .i64 (.ofNat n), H)
    | _, _, _ => none
  | _ => none

/-! ### maps -/
noncomputable def sameKey : Value → Value → Option Bool
  | .int k a, .int k' b => bif kEq k k' then some (ieq a b) else none
  | .string a, .string b => some (beqL (sL a) (sL b))
  | .bool a, .bool b => some (match a, b with | true, true => true | false, false => true | _, _ => false)
  | .agg ⟨[.int k a, .int l b]⟩, .agg ⟨[.int k' a', .int l' b']⟩ => bif kEq k k' && kEq l l' then some (ieq a a' && ieq b b') else none
  | _, _ => none
noncomputable def keyKind : TypeDesc → Value → Bool
  | .int _, .int _ _ => true
  | .string, .string _ => true
  | .bool, .bool _ => true
  | .array n e, .agg ⟨[.int _ _, .int _ _]⟩ => Nat.beq n 2 && (match under T e, aggOf T e, szOf T e with | some (.int _), some none, some s => Nat.beq s 1 | _, _, _ => false)
  | _, _ => false
/-- A key's value; none: the keys can't be held against each other. -/
noncomputable def lookE (k : Value) : List (Value × Value) → Option (Option Value)
  | [] => some none
  | (k', v) :: es => match sameKey k k' with
    | some b => match lookE k es with
      | some r => some (bif b then some v else r)
      | none => none
    | none => none
noncomputable def isKey (k k' : Value) : Bool := match sameKey k k' with | some b => b | none => false
noncomputable def keyLt : Value → Value → Bool
  | .int _ a, .int _ b => !ile b a
  | .string a, .string b => ltL (sL a) (sL b)
  | .agg ⟨[.int _ a, .int _ b]⟩, .agg ⟨[.int _ a', .int _ b']⟩ => !ile a' a || (ieq a a' && !ile b' b)
  | _, _ => false
noncomputable def repE (k v : Value) : List (Value × Value) → List (Value × Value)
  | [] => []
  | (k', v') :: es => (bif isKey k k' then (k, v) else (k', v')) :: repE k v es
noncomputable def insE (k v : Value) : List (Value × Value) → List (Value × Value)
  | [] => [(k, v)]
  | (k', v') :: es => bif keyLt k k' then (k, v) :: (k', v') :: es else (k', v') :: insE k v es
noncomputable def delE (k : Value) : List (Value × Value) → List (Value × Value)
  | [] => []
  | (k', v') :: es => bif isKey k k' then delE k es else (k', v') :: delE k es
noncomputable def putE (k v : Value) (es : List (Value × Value)) : Option (List (Value × Value)) :=
  match lookE k es with
  | some (some _) => some (repE k v es)
  | some none => some (insE k v es)
  | none => none
noncomputable def entsEq : List (Value × Value) → List (Value × Value) → Bool
  | [], [] => true
  | (a, b) :: x, (c, d) :: y => veq vDepth a c && veq vDepth b d && entsEq x y
  | _, _ => false
noncomputable def lookupV (t : TypeId) (x k : Value) (ok : Bool) (H : HS) : Option Value :=
  match under T t with
  | some (.map kt et) => match under T kt with
    | some kd => bif keyKind T kd k then
        match (match x with
          | .map none => some []
          | .map (some r) => match H.h.find r with | some (.map es) => some es | _ => none
          | _ => none) with
        | none => none
        | some es => match lookE k es with
          | none => none
          | some (some v) => some (bif ok then .tuple ⟨[v, .bool true]⟩ else v)
          | some none => match zeroOf T et with
            | some z => some (bif ok then .tuple ⟨[z, .bool false]⟩ else z)
            | none => none
      else none
    | none => none
  | _ => none
noncomputable def updateV (t : TypeId) (x k v : Value) (H : HS) : Option HS :=
  match under T t with
  | some (.map kt _) => match under T kt with
    | some kd => bif keyKind T kd k then
        match x with
        | .map (some r) => match H.h.find r with
          | some (.map es) => match putE k v es with
            | some es' => some (putO (killM r H) r (some (.map es')))
            | none => none
          | _ => none
        | _ => none
      else none
    | none => none
  | _ => none

/-! ### an operation -/
noncomputable def orUndef : Option Value → Value
  | some v => v
  | none => undefV
noncomputable def evalO (F : Fr) : Operand → Value
  | .tmp t => orUndef (F.find t)
  | .const v => v
  | .global g => .pointer (some ⟨g, 0, none⟩)
  | .func f => .func (.func f) #[] #[]
noncomputable def evalL (F : Fr) : List Operand → List Value
  | [] => []
  | x :: l => evalO F x :: evalL F l
noncomputable def putD (F : Fr) : Option Tmp → Value → Fr
  | none, _ => F
  | some d, v => TT.set 12 F d (some v)
noncomputable def fillV (place : Nat → Option (Nat × Nat)) : List (Nat × Value) → List Value → Option (List Value)
  | [], cells => some cells
  | (i, v) :: rest, cells => match place i with
    | some (off, size) => bif Nat.beq (lenL (vcells v)) size then
        match over off (vcells v) cells with
        | some cells' => fillV place rest cells'
        | none => none
      else none
    | none => none
noncomputable def placesV : List Field → Option (List (Nat × Nat))
  | [] => some []
  | f :: fs => match szOf T f.type, placesV fs with
    | some s, some r => some ((f.offset, s) :: r)
    | _, _ => none
noncomputable def evalP (F : Fr) : List (Nat × Operand) → List (Nat × Value)
  | [] => []
  | (i, x) :: l => (i, evalO F x) :: evalP F l

inductive OR where
  | val (v : Value) (H : HS)
  | call (f : Nat) (args : List Value)
  | yld (l : Nat) (args : List Value)
  | dfr (d : ADef)
  | vals (l : List (Value × HS))

noncomputable def rv : Option Value → HS → Option OR
  | some v, H => some (.val v H)
  | none, _ => none
noncomputable def rvh : Option (Value × HS) → Option OR
  | some (v, H) => some (.val v H)
  | none => none
noncomputable def rh : Option HS → Option OR
  | some H => some (.val undefV H)
  | none => none
noncomputable def newV (H : HS) (o : AObj) (mk : Nat → Value) : Option OR :=
  match newO H o with
  | some H' => some (.val (mk H.n) H')
  | none => none
noncomputable def ptrTo (id : Nat) : Value := .pointer (some ⟨id, 0, none⟩)
noncomputable def picks : List (Value × Value) → List (Value × Value) → List ((Value × Value) × List (Value × Value))
  | _, [] => []
  | pre, x :: l => (x, pre.reverse ++ l) :: picks (x :: pre) l
noncomputable def mmGo (big : Bool) (k : IntKind) (a : Int) : List Value → Option Value
  | [] => some (.int k a)
  | .int k' b :: l => bif kEq k k' then mmGo big k (bif big then (bif ile b a then a else b) else (bif ile a b then a else b)) l else none
  | _ => none
noncomputable def mmV (big : Bool) : List Value → Option Value
  | .int k a :: l => mmGo big k a l
  | _ => none
noncomputable def bAppend (ts : List TypeId) (args : List Value) (H : HS) : Option OR :=
  match ts, args with
  | [t, u], [x, y] => match under T u with
    | some (.int _) => none
    | some _ => rvh (appendV T t x y H)
    | none => none
  | _, _ => none
noncomputable def bCopy (ts : List TypeId) (args : List Value) (H : HS) : Option OR :=
  match ts, args with
  | t :: _, [x, y] => rvh (copyV T t x y H)
  | _, _ => none
noncomputable def bLen (ts : List TypeId) (args : List Value) (H : HS) : Option OR :=
  match ts, args with
  | t :: _, x :: _ => match under T t with
    | some .string => match x with | .string s => some (.val (.int .i64 (.ofNat (lenL (sL s)))) H) | _ => none
    | some (.array n _) => some (.val (.int .i64 (.ofNat n)) H)
    | some (.pointer e) => match under T e with
      | some (.array n _) => some (.val (.int .i64 (.ofNat n)) H)
      | _ => none
    | some (.slice _) => match x with | .slice _ n _ => some (.val (.int .i64 (.ofNat n)) H) | _ => none
    | some (.map _ _) => match x with
      | .map none => some (.val (.int .i64 0) H)
      | .map (some r) => match H.h.find r with
        | some (.map es) => some (.val (.int .i64 (.ofNat (lenL es))) H)
        | _ => none
      | _ => none
    | _ => none
  | _, _ => none
noncomputable def bClear (ts : List TypeId) (args : List Value) (H : HS) : Option OR :=
  match ts, args with
  | t :: _, x :: _ => match under T t, x with
    | some _, .map none => some (.val undefV H)
    | some _, .map (some r) => match H.h.find r with
      | some (.map _) => some (.val undefV (putO (killM r H) r (some (.map []))))
      | _ => none
    | some _, .slice none _ _ => some (.val undefV H)
    | some (.slice e), .slice (some a) n _ => bif Nat.beq n 0 then some (.val undefV H) else match zeroOf T e with
      | some z => rh (setC H a.block a.off (repL n (vcells z)))
      | none => none
    | _, _ => none
  | _, _ => none
noncomputable def bDelete (ts : List TypeId) (args : List Value) (H : HS) : Option OR :=
  match ts, args with
  | t :: _, x :: k :: _ => match under T t with
    | some (.map kt _) => match under T kt with
      | some kd => bif keyKind T kd k then
          match x with
          | .map none => some (.val undefV H)
          | .map (some r) => match H.h.find r with
            | some (.map es) => match lookE k es with
              | some _ => some (.val undefV (putO (killM r H) r (some (.map (delE k es)))))
              | none => none
            | _ => none
          | _ => none
        else none
      | none => none
    | _ => none
  | _, _ => none
noncomputable def builtinV (b : Builtin) (ts : List TypeId) (args : List Value) (H : HS) : Option OR :=
  match b with
  | .append => bAppend T ts args H
  | .copy => bCopy T ts args H
  | .len => bLen T ts args H
  | .max => rv (mmV true args) H
  | .min => rv (mmV false args) H
  | .clear => bClear T ts args H
  | .delete => bDelete T ts args H
  | _ => none
noncomputable def callV (f : Value) (args : List Value) : Option ADef :=
  match f with
  | .func (.func g) first captured => some ⟨g, captured.toList, first.toList ++ args⟩
  | _ => none
noncomputable def ev_pick (c : Operand) (a : Operand) (b : Operand) (F : Fr) (H : HS) : Option OR :=
  match evalO F c with
    | .bool true => some (.val (evalO F a) H)
    | .bool false => some (.val (evalO F b) H)
    | _ => none

noncomputable def ev_alloc (t : TypeId) (_F : Fr) (H : HS) : Option OR :=
  match zeroOf T t with
    | some z => newV H (.cells (vcells z) t false) ptrTo
    | none => none

noncomputable def ev_box (t : TypeId) (x : Operand) (F : Fr) (H : HS) : Option OR :=
  newV H (.cells (vcells (evalO F x)) t false) ptrTo

noncomputable def ev_build (t : TypeId) (ps : Array (Nat × Operand)) (F : Fr) (H : HS) : Option OR :=
  match zeroOf T t with
    | some z => match under T t with
      | some (.struct fs) => match placesV T fs.toList with
        | some pl => match fillV (fun i => nth i pl) (evalP F ps.toList) (vcells z) with
          | some l => some (.val (.agg ⟨l⟩) H)
          | none => none
        | none => none
      | some (.array _ e) => match szOf T e with
        | some s => match fillV (fun i => some (i * s, s)) (evalP F ps.toList) (vcells z) with
          | some l => some (.val (.agg ⟨l⟩) H)
          | none => none
        | none => none
      | _ => none
    | none => none

noncomputable def ev_buildSlice (t : TypeId) (len : Nat) (ps : Array (Nat × Operand)) (F : Fr) (H : HS) : Option OR :=
  match under T t with
    | some (.slice e) => match szOf T e, zeroOf T e with
      | some s, some z => bif Nat.ble len 1000000 && (Nat.ble (len * s) 1000000 && Nat.beq (lenL (vcells z)) s) then
          match fillV (fun i => some (i * s, s)) (evalP F ps.toList) (repL len (vcells z)) with
          | some l => newV H (.cells l e false) fun id => .slice (some ⟨id, 0, none⟩) len len
          | none => none
        else none
      | _, _ => none
    | _ => none

noncomputable def ev_load (t : TypeId) (a : Operand) (F : Fr) (H : HS) : Option OR :=
  match evalO F a with
    | .pointer (some ad) => rv (loadV T H t ad.block ad.off) H
    | _ => none

noncomputable def ev_store (t : TypeId) (a : Operand) (x : Operand) (F : Fr) (H : HS) : Option OR :=
  match evalO F a with
    | .pointer (some ad) => rh (storeV T H t ad.block ad.off (evalO F x))
    | _ => none

noncomputable def ev_nilCheck (x : Operand) (F : Fr) (H : HS) : Option OR :=
  match evalO F x with
    | .pointer (some a) => some (.val (.pointer (some a)) H)
    | .func (.func f) a b => some (.val (.func (.func f) a b) H)
    | _ => none

noncomputable def ev_binOp (op : BinOp) (t : TypeId) (x : Operand) (y : Operand) (_u4 : TypeId) (F : Fr) (H : HS) : Option OR :=
  rv (binV T op t (evalO F x) (evalO F y)) H

noncomputable def ev_unOp (op : UnOp) (_u1 : TypeId) (x : Operand) (F : Fr) (H : HS) : Option OR :=
  rv (unV op (evalO F x)) H

noncomputable def ev_convert (src : TypeId) (dst : TypeId) (x : Operand) (F : Fr) (H : HS) : Option OR :=
  match under T src, under T dst with
    | some sd, some dd => match dd, evalO F x with
      | .int k, .int _ n => some (.val (.int k (wrapK k n)) H)
      | .string, .string s => some (.val (.string s) H)
      | .slice e, .string s => match under T e, szOf T e with
        | some (.int .u8), some 1 => newV H (.cells (cellsOfS (sL s)) e true) fun id => .slice (some ⟨id, 0, none⟩) (lenL (sL s)) (OPEN + lenL (sL s))
        | _, _ => none
      | .string, .slice a n _ => match sd with
        | .slice e => match under T e with
          | some (.int .u8) => match a with
            | none => some (.val (.string (mkS [])) H)
            | some a => match (bif Nat.beq n 0 then some [] else getC H a.block a.off n) with
              | some l => match bytesOf l with
                | some bs => some (.val (.string (mkS bs)) H)
                | none => none
              | none => none
          | _ => none
        | _ => none
      | _, _ => none
    | _, _ => none

noncomputable def ev_makeFunc (fn : Fn) (first : Array Operand) (captured : Array Operand) (F : Fr) (H : HS) : Option OR :=
  match fn with
    | .func f => some (.val (.func (.func f) ⟨evalL F first.toList⟩ ⟨evalL F captured.toList⟩) H)
    | _ => none

noncomputable def ev_makeMap (t : TypeId) (r : Option Operand) (F : Fr) (H : HS) : Option OR :=
  match r with
    | none => newV H (.map []) fun id => .map (some id)
    | some x => match under T t, evalO F x with
      | some (.map _ _), .int _ _ => newV H (.map []) fun id => .map (some id)
      | _, _ => none

noncomputable def ev_makeSlice (t : TypeId) (l : Operand) (c : Operand) (F : Fr) (H : HS) : Option OR :=
  match under T t with
    | some (.slice e) => match evalO F l, evalO F c with
      | .int _ (.ofNat n), .int _ (.ofNat m) => match zeroOf T e, szOf T e, byOf T e with
        | some z, some s, some b => bif Nat.ble n m && (Nat.ble m 1000000 && (Nat.ble b 1000000 && Nat.beq (lenL (vcells z)) s)) then
            newV H (.cells (repL m (vcells z)) e false) fun id => .slice (some ⟨id, 0, none⟩) n m
          else none
        | _, _, _ => none
      | _, _ => none
    | _ => none

noncomputable def evalOp (F : Fr) : Option Operand → Option Value
  | some x => some (evalO F x)
  | none => none
noncomputable def ev_slice (t : TypeId) (x : Operand) (lo hi mx : Option Operand) (F : Fr) (H : HS) : Option OR :=
  match mx, hi with
  | some _, none => none
  | _, _ => rvh (sliceV T t (evalO F x) (evalOp F lo) (evalOp F hi) (evalOp F mx) H)
noncomputable def ev_fieldAddr (t : TypeId) (x : Operand) (i : Nat) (F : Fr) (H : HS) : Option OR :=
  match under T t with
    | some (.struct fs) => match nth i fs.toList, evalO F x with
      | some f, .pointer (some a) => match szOf T f.type with
        | some s => bif Nat.beq s 0 then none else some (.val (.pointer (some (addOff a f.offset))) H)
        | none => none
      | _, _ => none
    | _ => none

noncomputable def ev_field (t : TypeId) (x : Operand) (i : Nat) (F : Fr) (H : HS) : Option OR :=
  match under T t with
    | some (.struct fs) => match nth i fs.toList, evalO F x with
      | some f, .agg cs => rv (partV T f.type cs.toList f.offset) H
      | _, _ => none
    | _ => none

noncomputable def ev_indexAddr (t : TypeId) (x : Operand) (i : Operand) (F : Fr) (H : HS) : Option OR :=
  match evalO F i with
    | .int _ (.ofNat i) => match under T t, evalO F x with
      | some (.array n e), .pointer (some a) => match szOf T e with
        | some s => bif Nat.blt i n then some (.val (.pointer (some (addOff a (i * s)))) H) else none
        | none => none
      | some (.slice e), .slice (some a) n _ => match szOf T e with
        | some s => bif Nat.blt i n then some (.val (.pointer (some (addOff a (i * s)))) H) else none
        | none => none
      | _, _ => none
    | _ => none

noncomputable def ev_index (t : TypeId) (x : Operand) (i : Operand) (F : Fr) (H : HS) : Option OR :=
  match evalO F i with
    | .int _ (.ofNat i) => match under T t, evalO F x with
      | some (.array n e), .agg cs => match szOf T e with
        | some s => bif Nat.blt i n then rv (partV T e cs.toList (i * s)) H else none
        | none => none
      | some .string, .string s => match nth i (sL s) with
        | some b => some (.val (.int .u8 (.ofNat b.toNat)) H)
        | none => none
      | _, _ => none
    | _ => none

noncomputable def ev_lookup (t : TypeId) (x : Operand) (k : Operand) (ok : Bool) (F : Fr) (H : HS) : Option OR :=
  rv (lookupV T t (evalO F x) (evalO F k) ok H) H

noncomputable def ev_mapUpdate (t : TypeId) (m : Operand) (k : Operand) (v : Operand) (F : Fr) (H : HS) : Option OR :=
  rh (updateV T t (evalO F m) (evalO F k) (evalO F v) H)

noncomputable def ev_insert (t : TypeId) (m : Operand) (k : Operand) (v : Operand) (F : Fr) (H : HS) : Option OR :=
  rh (updateV T t (evalO F m) (evalO F k) (evalO F v) H)

noncomputable def ev_mapEntry (t : TypeId) (m : Operand) (k : Operand) (F : Fr) (H : HS) : Option OR :=
  match under T t with
    | some (.map kt et) => match under T kt, evalO F m, zeroOf T et with
      | some kd, .map (some r), some z => bif keyKind T kd (evalO F k) then match H.h.find r with
        | some (.map es) => match lookE (evalO F k) es with
          | some w => match putE (evalO F k) (match w with | some v => v | none => z) es with
            | some es' => match newO (putO (killM r H) r (some (.map es'))) (.stamp r (evalO F k)) with
              | some H' => some (.val (.tuple ⟨[match w with | some v => v | none => z, .complex .f32 H.n 0]⟩) { H' with its := (H.n, r) :: H'.its })
              | none => none
            | none => none
          | none => none
        | _ => none
        else none
      | _, _, _ => none
    | _ => none

noncomputable def ev_entryStore (_u0 : TypeId) (m : Operand) (st : Operand) (x : Operand) (F : Fr) (H : HS) : Option OR :=
  match evalO F m, evalO F st with
    | .map (some r), .complex .f32 z 0 => match H.h.find z, H.h.find r with
      | some (.stamp r' k), some (.map es) => bif Nat.beq r' r then match putE k (evalO F x) es with
        | some es' => rh (some (putO (killM r H) r (some (.map es'))))
        | none => none
        else none
      | _, _ => none
    | _, _ => none

noncomputable def ev_range (t : TypeId) (x : Operand) (F : Fr) (H : HS) : Option OR :=
  match under T t, evalO F x with
    | some (.map _ _), .map none => newV H (.iter none [] none) ptrTo
    | some (.map _ _), .map (some r) => match H.h.find r with
      | some (.map es) => newV { H with its := (H.n, r) :: H.its } (.iter (some r) es none) ptrTo
      | _ => none
    | _, _ => none

noncomputable def ev_next (it : Operand) (isS : Bool) (F : Fr) (H : HS) : Option OR :=
  match isS, evalO F it with
    | false, .pointer (some a) => bif Nat.beq a.off 0 then match H.h.find a.block with
      | some (.iter none _ _) => some (.val (.tuple ⟨[.bool false]⟩) H)
      | some (.iter (some m) left _) => match left with
        | [] => some (.val (.tuple ⟨[.bool false]⟩) { (putO H a.block none) with its := dropI a.block H.its })
        | _ => some (.vals ((picks [] left).map fun p => (.tuple ⟨[.bool true, p.1.1, p.1.2]⟩, putO H a.block (some (.iter (some m) p.2 (some p.1))))))
      | _ => none
      else none
    | _, _ => none

noncomputable def ev_makeInterface (t : TypeId) (x : Operand) (F : Fr) (H : HS) : Option OR :=
  match under T t with
    | some (.interface _) => none
    | some _ => some (.val (.iface t (evalO F x)) H)
    | none => none

noncomputable def ev_typeAssert (x : Operand) (_u1 : TypeId) (t : TypeId) (ok : Bool) (F : Fr) (H : HS) : Option OR :=
  match under T t, evalO F x with
    | some (.interface _), _ => none
    | some _, .iface u v => bif Nat.beq u t then some (.val (bif ok then .tuple ⟨[v, .bool true]⟩ else v) H) else none
    | _, _ => none

noncomputable def ev_entry (it : Operand) (F : Fr) (H : HS) : Option OR :=
  match evalO F it with
    | .pointer (some a) => bif Nat.beq a.off 0 then match H.h.find a.block with
      | some (.iter (some _) _ (some p)) => some (.val (.tuple ⟨[p.1, p.2]⟩) H)
      | _ => none
      else none
    | _ => none

noncomputable def ev_extract (t : Operand) (i : Nat) (F : Fr) (H : HS) : Option OR :=
  match evalO F t with
    | .tuple vs => rv (nth i vs.toList) H
    | _ => none

noncomputable def ev_call (c : Call) (F : Fr) (H : HS) : Option OR :=
  match c.callee with
    | .builtin b => builtinV T b c.argTypes.toList (evalL F c.args.toList) H
    | .value f => match evalO F f with
      | .func (.yield l) _ _ => some (.yld l (evalL F c.args.toList))
      | g => match callV g (evalL F c.args.toList) with
        | some d => some (.call d.f (d.args ++ d.captured))
        | none => none
    | _ => none

noncomputable def ev_defer (c : Call) (F : Fr) (_H : HS) : Option OR :=
  match c.callee with
    | .value f => match callV (evalO F f) (evalL F c.args.toList) with
      | some d => some (.dfr d)
      | none => none
    | _ => none
noncomputable def evOp (o : Op) (F : Fr) (H : HS) : Option OR :=
  match o with
  | .move x | .assign x => some (.val (evalO F x) H)
  | .pick c a b => ev_pick c a b F H
  | .alloc t => ev_alloc T t F H
  | .box t x => ev_box t x F H
  | .build t ps => ev_build T t ps F H
  | .buildSlice t len ps => ev_buildSlice T t len ps F H
  | .load t a => ev_load T t a F H
  | .store t a x => ev_store T t a x F H
  | .nilCheck x => ev_nilCheck x F H
  | .binOp op t x y _u4 => ev_binOp T op t x y _u4 F H
  | .unOp op _u1 x => ev_unOp op _u1 x F H
  | .convert src dst x => ev_convert T src dst x F H
  | .makeFunc fn first captured => ev_makeFunc fn first captured F H
  | .makeMap t r => ev_makeMap T t r F H
  | .makeSlice t l c => ev_makeSlice T t l c F H
  | .slice t x lo hi mx => ev_slice T t x lo hi mx F H
  | .fieldAddr t x i => ev_fieldAddr T t x i F H
  | .field t x i => ev_field T t x i F H
  | .indexAddr t x i => ev_indexAddr T t x i F H
  | .index t x i => ev_index T t x i F H
  | .lookup t x k ok => ev_lookup T t x k ok F H
  | .mapUpdate t m k v => ev_mapUpdate T t m k v F H
  | .insert t m k v => ev_insert T t m k v F H
  | .mapEntry t m k => ev_mapEntry T t m k F H
  | .entryStore _u0 m st x => ev_entryStore _u0 m st x F H
  | .range t x => ev_range T t x F H
  | .next it isS => ev_next it isS F H
  | .makeInterface t x => ev_makeInterface T t x F H
  | .typeAssert x _u1 t ok => ev_typeAssert T x _u1 t ok F H
  | .entry it => ev_entry it F H
  | .extract t i => ev_extract t i F H
  | .call c => ev_call T c F H
  | .defer c => ev_defer c F H
  | _ => none
end
end Go.Proofs.Ytddknmgajacofaa.Ev

/-
  An evaluator of Go code on closed data: regions, code, calls.
-/
namespace Go.Proofs.Ytddknmgajacofaa.Ev
open Go

/-! ### what is checked of code beforehand -/
noncomputable def closedB : Nat → Value → Bool
  | 0, _ => false
  | d + 1, v => match v with
    | .bool _ | .int _ _ | .string _ | .pointer none | .slice none _ _ | .map none | .chan none | .nilFunc | .nilIface => true
    | .agg cs => cs.toList.all (closedB d)
    | .tuple cs => cs.toList.all (closedB d)
    | _ => false
noncomputable def operB (G : Nat) : Operand → Bool
  | .const v => closedB 3 v
  | .global g => Nat.blt g G
  | _ => true
noncomputable def opB (G : Nat) (o : Op) : Bool := o.operands.toList.all (operB G)

noncomputable def bit (m i : Nat) : Bool := Nat.beq (Nat.land (Nat.shiftRight m i) 1) 1
noncomputable def maskOf (bs : List Nat) (i : Nat) : List Edge → Nat
  | [] => 0
  | e :: l => bif Region.binds .any e then
      match nth (i - 1 - e.on) bs with
      | some b => Nat.lor (Nat.lor (Nat.pow 2 e.on) b) (maskOf bs i l)
      | none => maskOf bs i l
    else maskOf bs i l
/-- Who is ahead of each, the last one first. -/
noncomputable def masksL : List Nat → Nat → List Oper → List Nat
  | acc, _, [] => acc
  | acc, i, o :: l => masksL (maskOf acc i o.after.toList :: acc) (i + 1) l
noncomputable def tmpsOf : List Operand → List Nat
  | [] => []
  | .tmp t :: l => t :: tmpsOf l
  | _ :: l => tmpsOf l
noncomputable def hasN (n : Nat) : List Nat → Bool
  | [] => false
  | m :: l => Nat.beq n m || hasN n l
noncomputable def looksOf (all : List Oper) (o : Oper) : List Nat :=
  match o.guard with
  | none => tmpsOf o.op.operands.toList
  | some (j, _) => match nth j all with
    | some g => match g.dst with
      | some d => d :: tmpsOf o.op.operands.toList
      | none => tmpsOf o.op.operands.toList
    | none => tmpsOf o.op.operands.toList
noncomputable def writersOf : Nat → List Oper → List (Nat × Nat)
  | _, [] => []
  | i, o :: l => match o.dst with
    | some d => (i, d) :: writersOf (i + 1) l
    | none => writersOf (i + 1) l
noncomputable def apartB (i b : Nat) (dst : Option Nat) (looks : List Nat) : List (Nat × Nat) → Bool
  | [] => true
  | (j, t) :: l => (Nat.beq j i || ((match dst with | some d => !Nat.beq d t | none => true) && (!hasN t looks || (Nat.blt i j || (Nat.blt j i && bit b j))))) && apartB i b dst looks l
/-- Who has looked at a place ahead of its writer in the text is ahead of it in any order. -/
noncomputable def lateB (all : List Oper) (i b t : Nat) : Nat → List Oper → Bool
  | _, [] => true
  | j, o :: l => bif Nat.blt j i then (!hasN t (looksOf all o) || bit b j) && lateB all i b t (j + 1) l else true
noncomputable def lateO (all : List Oper) (i b : Nat) : Option Nat → Bool
  | none => true
  | some t => lateB all i b t 0 all
noncomputable def edgesB (i : Nat) : List Edge → Bool
  | [] => true
  | e :: l => (!Region.binds .any e || Nat.blt e.on i) && edgesB i l
noncomputable def drawB (all : List Oper) (ws : List (Nat × Nat)) : List Nat → Nat → List Oper → Bool
  | _, _, [] => true
  | bs, i, o :: l => edgesB i o.after.toList && (apartB i (maskOf bs i o.after.toList) o.dst (looksOf all o) ws && (lateO all i (maskOf bs i o.after.toList) o.dst && drawB all ws (maskOf bs i o.after.toList :: bs) (i + 1) l))
noncomputable def dstB (N : Nat) : Option Nat → Bool
  | none => true
  | some d => Nat.blt d N && Nat.blt d 4000
noncomputable def opersB (G N : Nat) : List Oper → Bool
  | [] => true
  | o :: l => opB G o.op && (dstB N o.dst && opersB G N l)
noncomputable def parsB (N : Nat) : List Nat → Bool
  | [] => true
  | d :: l => dstB N (some d) && parsB N l
noncomputable def codeB (G N : Nat) : Code → Bool
  | .region _ ops draw => opersB G N ops.toList && (!draw || drawB ops.toList (writersOf 0 ops.toList) [] 0 ops.toList)
  | .seq a b => codeB G N a && codeB G N b
  | .cond c a b => operB G c && (codeB G N a && codeB G N b)
  | .block _ a => codeB G N a
  | .loop a => codeB G N a
  | .scope a => codeB G N a
  | .rangeFunc f _ a b => operB G f && (codeB G N a && codeB G N b)
  | _ => true

section
variable (T : TT TypeInfo)

/-! ### regions in the order of the text -/
noncomputable def yieldedB (ops : List Oper) (F : Fr) (j : Nat) (want : Bool) : Bool :=
  match nth j ops with
  | some o => match o.dst with
    | some d => match F.find d with
      | some (.bool true) => want
      | some (.bool false) => !want
      | _ => false
    | none => false
  | none => false
noncomputable def wantedB (ops : List Oper) (o : Oper) (F : Fr) : Bool :=
  match o.guard with
  | none => true
  | some (j, want) => yieldedB ops F j want

/-- What is asked for: a function, or a loop's body. -/
inductive Req where
  | fn (f : Nat) (args : List Value)
  | yld (l : Nat) (args : List Value)
abbrev CallF := Req → HS → Option (List (Value × HS))

/-- All ways of a list. -/
noncomputable def each {α β : Type} (f : α → Option (List β)) : List α → Option (List β)
  | [] => some []
  | x :: l => match f x with
    | some r => match each f l with
      | some r' => some (r ++ r')
      | none => none
    | none => none

/-- What is known of symbols. -/
noncomputable def cmpNo : BinOp → Nat
  | .lss => 1 | .leq => 2 | .gtr => 3 | .geq => 4 | .eql => 5 | .neq => 6 | .add => 7 | .sub => 8 | .mul => 9 | .rem => 10 | _ => 0
noncomputable def atomEq : Value → Value → Bool
  | .float .f32 i, .float .f32 j => Nat.beq i j
  | .int .i64 m, .int .i64 n => ieq m n
  | _, _ => false
noncomputable def factLook (c : Nat) (x y : Value) : List (Nat × Value × Value × Value) → Option Value
  | [] => none
  | (c', x', y', v) :: l => bif Nat.beq c' c && (atomEq x' x && atomEq y' y) then some v else factLook c x y l
noncomputable def factId : Nat := 3
noncomputable def factsOf (H : HS) : List (Nat × Value × Value × Value) := match H.h.find factId with
  | some (.facts l) => l
  | _ => []
/-- The greater of two of which it is known. -/
noncomputable def factMax (c : Call) (F : Fr) (l : List (Nat × Value × Value × Value)) : Option Value :=
  match c.callee, c.args.toList with
  | .builtin .max, [x, y] => match factLook 1 (evalO F x) (evalO F y) l with
    | some (.bool true) => some (evalO F y)
    | some (.bool false) => some (evalO F x)
    | _ => none
  | _, _ => none
noncomputable def factIn (o : Op) (F : Fr) (l : List (Nat × Value × Value × Value)) : Option Value :=
  match o with
  | .binOp op _ x y _ => factLook (cmpNo op) (evalO F x) (evalO F y) l
  | .call c => factMax c F l
  | _ => none
/-- Is a symbol known to be a number, and none of a map's keys? -/
noncomputable def notKey (i : Nat) (c : Int) (l : List (Nat × Value × Value × Value)) : Bool := match factLook 5 (.float .f32 i) (.int .i64 c) l with
  | some (.bool false) => true
  | _ => false
noncomputable def absentE (i : Nat) (l : List (Nat × Value × Value × Value)) : List (Value × Value) → Bool
  | [] => notKey i (-1) l
  | (k, _) :: es => (match k with | .int .i64 c => notKey i c l | _ => false) && absentE i l es
/-- A map asked for a symbol that is none of its keys. -/
noncomputable def lookSym (t : TypeId) (x : Value) (i : Nat) (ok : Bool) (H : HS) : Option Value :=
  match under T t with
  | some (.map kt et) => match under T kt with
    | some (.int .i64) => match (match x with
          | .map none => some []
          | .map (some r) => match H.h.find r with | some (.map es) => some es | _ => none
          | _ => none) with
        | none => none
        | some es => bif absentE i (factsOf H) es then match zeroOf T et with
            | some z => some (bif ok then .tuple ⟨[z, .bool false]⟩ else z)
            | none => none
          else none
    | _ => none
  | _ => none
noncomputable def factOp (o : Op) (F : Fr) (H : HS) : Option Value := match o with
  | .lookup t x k ok => match evalO F k with
    | .float .f32 i => lookSym T t (evalO F x) i ok H
    | _ => none
  | _ => factIn o F (factsOf H)
/-- What an operation gives that does not defer: all ways. -/
noncomputable def opEv (call : CallF) (o : Op) (F : Fr) (H : HS) : Option (List (Value × HS)) :=
  match evOp T o F H with
  | some (.val v H) => some [(v, H)]
  | some (.call f args) => call (.fn f args) H
  | some (.yld f args) => call (.yld f args) H
  | some (.vals l) => some l
  | some (.dfr _) => none
  | none => match factOp T o F H with
    | some v => some [(v, H)]
    | none => none
noncomputable def dfrOf (rd : Bool) (o : Op) (F : Fr) (H : HS) : Option ADef :=
  bif rd then none else match evOp T o F H with
  | some (.dfr d) => some d
  | _ => none
noncomputable def isDfr : Op → Bool
  | .defer _ => true
  | _ => false
noncomputable def seqOps (rd : Bool) (call : CallF) (all : List Oper) : List Oper → St → Option (List St)
  | [], s => some [s]
  | o :: rest, s =>
    bif wantedB all o s.F then
      bif isDfr o.op then
        match dfrOf T rd o.op s.F s.H with
        | some d => seqOps rd call all rest ⟨putD s.F o.dst undefV, d :: s.ds, s.H⟩
        | none => none
      else match opEv T call o.op s.F s.H with
        | some l => each (fun p => seqOps rd call all rest ⟨putD s.F o.dst p.1, s.ds, p.2⟩) l
        | none => none
    else seqOps rd call all rest ⟨putD s.F o.dst undefV, s.ds, s.H⟩

/-! ### regions that draw their order -/
/-- 0: no memory is touched; 1: memory is read, or made; 2: anything else. -/
noncomputable def weight : Op → Nat
  | .move _ | .assign _ | .pick .. | .build .. | .nilCheck _ | .binOp .. | .unOp .. | .makeFunc .. | .fieldAddr .. | .field .. | .indexAddr .. | .index .. | .extract .. => 0
  | .alloc _ | .box .. | .buildSlice .. | .load .. | .convert .. | .makeMap .. | .makeSlice .. | .slice .. | .lookup .. => 1
  | .call { callee := .builtin .len, .. } => 1
  | .call { callee := .builtin .max, .. } => 0
  | .call { callee := .builtin .min, .. } => 0
  | _ => 2
/-- May an operation make a block? -/
noncomputable def mayNew : Op → Bool
  | .alloc _ | .box .. | .buildSlice .. | .convert .. | .makeMap .. | .makeSlice .. | .slice .. => true
  | _ => false
noncomputable def newsOf : List Oper → Nat
  | [] => 0
  | o :: l => bif mayNew o.op then newsOf l + 1 else newsOf l
/-- How an operation goes: not at all; without memory; reading; making a block (or a name for one); otherwise (the heap ahead, that with what was made for it, and the one behind). -/
inductive Kd where
  | skip
  | pure
  | read
  | fresh (id : Nat) (ob : Option AObj)
  | heavy (K A K' : HS)
structure Rec where
  i : Nat
  o : Oper
  b : Nat       -- who is ahead
  F : Fr
  v : Value
  kd : Kd
structure DS where
  F : Fr
  H : HS
  bs : List Nat                -- who is ahead of each, the last one first
  recs : List Rec              -- the last one first
  hvs : List Rec               -- the heavy ones
  pend : List (Nat × Nat × AObj)     -- what was made, and is in no heap so far
noncomputable def again (o : Op) (F : Fr) (v : Value) (H : HS) : Bool :=
  match evOp T o F H with
  | some (.val u H') => Nat.beq H'.n H.n && veq vDepth u v
  | _ => false
noncomputable def absorb (b : Nat) (h : TT AObj) : List (Nat × Nat × AObj) → TT AObj × List (Nat × Nat × AObj)
  | [] => (h, [])
  | (i, id, o) :: l => bif bit b i then absorb b (TT.set 40 h id (some o)) l else
    match absorb b h l with | (h', r) => (h', (i, id, o) :: r)
noncomputable def headOk (b : Nat) : List Rec → Bool
  | [] => true
  | r :: _ => bit b r.i
/-- What an operation has made that made a name. -/
noncomputable def freshOf (o : Op) (n : Nat) (H : HS) : Option AObj :=
  match o with
  | .slice .. => none
  | _ => H.h.find n
noncomputable def addPend (i n : Nat) (ob : Option AObj) (l : List (Nat × Nat × AObj)) : List (Nat × Nat × AObj) :=
  match ob with
  | some o => (i, n, o) :: l
  | none => l
noncomputable def drawOps (call : CallF) (fl : List (Nat × Value × Value × Value)) (all : List Oper) : List Oper → Nat → Nat → DS → Option DS
  | [], _, _, d => some d
  | o :: rest, i, n, d =>
    let b := maskOf d.bs i o.after.toList
    bif wantedB all o d.F then
      match weight o.op with
      | 0 => match evOp T o.op d.F d.H with
        | some (.val v _) => drawOps call fl all rest (i + 1) (bif mayNew o.op then n + 1 else n) { d with F := putD d.F o.dst v, bs := b :: d.bs, recs := ⟨i, o, b, d.F, v, .pure⟩ :: d.recs }
        | _ => match factIn o.op d.F fl with
          | some v => drawOps call fl all rest (i + 1) (bif mayNew o.op then n + 1 else n) { d with F := putD d.F o.dst v, bs := b :: d.bs, recs := ⟨i, o, b, d.F, v, .pure⟩ :: d.recs }
          | none => none
      | 1 => match evOp T o.op d.F { d.H with n := n } with
        | some (.val v H) =>
          bif Nat.beq H.n n then drawOps call fl all rest (i + 1) (bif mayNew o.op then n + 1 else n) { d with F := putD d.F o.dst v, bs := b :: d.bs, recs := ⟨i, o, b, d.F, v, .read⟩ :: d.recs }
          else bif mayNew o.op then drawOps call fl all rest (i + 1) (bif mayNew o.op then n + 1 else n) { d with F := putD d.F o.dst v, bs := b :: d.bs, recs := ⟨i, o, b, d.F, v, .fresh n (freshOf o.op n H)⟩ :: d.recs, pend := addPend i n (freshOf o.op n H) d.pend }
          else none
        | _ => none
      | _ =>
        bif headOk b d.hvs then
          match absorb b d.H.h d.pend with
          | (h, pend) => match opEv T call o.op d.F { d.H with h := h } with
            | some [(v, H)] => drawOps call fl all rest (i + 1) (bif mayNew o.op then n + 1 else n) { F := putD d.F o.dst v, H := H, bs := b :: d.bs, recs := ⟨i, o, b, d.F, v, .heavy d.H { d.H with h := h } H⟩ :: d.recs, hvs := ⟨i, o, b, d.F, v, .heavy d.H { d.H with h := h } H⟩ :: d.hvs, pend := pend }
            | _ => none
        else none
    else drawOps call fl all rest (i + 1) (bif mayNew o.op then n + 1 else n) { d with F := putD d.F o.dst undefV, bs := b :: d.bs, recs := ⟨i, o, b, d.F, undefV, .skip⟩ :: d.recs }
/-- Does a read give the same in one state of the heap, unless it can't be done there? -/
noncomputable def stillAt (r : Rec) (prev next : Option Rec) (K : HS) : Bool :=
  (match next with | some e => bit r.b e.i | none => false) || ((match prev with | some e => bit e.b r.i | none => false) || again T r.o.op r.F r.v K)
noncomputable def still (r : Rec) (H0 : HS) : Option Rec → List Rec → Bool
  | next, [] => stillAt T r none next H0
  | next, e :: l => (match e.kd with | .heavy _ _ K' => stillAt T r (some e) next K' | _ => false) && still r H0 (some e) l
noncomputable def readsOk (H0 : HS) (hvs : List Rec) : List Rec → Bool
  | [] => true
  | r :: l => (match r.kd with | .read => still T r H0 none hvs | _ => true) && readsOk H0 hvs l
noncomputable def merge (h : TT AObj) : List (Nat × Nat × AObj) → TT AObj
  | [] => h
  | (_, id, o) :: l => merge (TT.set 40 h id (some o)) l
noncomputable def evRegion (rd : Bool) (call : CallF) (ops : List Oper) (draw : Bool) (s : St) : Option (List St) :=
  match draw with
  | false => seqOps T rd call ops ops s
  | true => bif Nat.blt (s.H.n + newsOf ops) idMost then
      match drawOps T call (factsOf s.H) ops ops 0 s.H.n ⟨s.F, { s.H with n := s.H.n + newsOf ops }, [], [], [], []⟩ with
      | some d => bif readsOk T { s.H with n := s.H.n + newsOf ops } d.hvs d.recs then some [⟨d.F, s.ds, { d.H with h := merge d.H.h d.pend }⟩] else none
      | none => none
    else none

/-! ### code -/
noncomputable def thenDo (r : Option (List Out)) (f : St → Option (List Out)) : Option (List Out) :=
  match r with
  | some l => each (fun o => match o.ex with | .normal => f o.s | _ => some [o]) l
  | none => none
noncomputable def leaveB (id : Nat) (o : Out) : Out :=
  match o.ex with
  | .exit i => bif Nat.beq i id then ⟨.normal, o.s⟩ else o
  | _ => o
noncomputable def loopN : Nat → (St → Option (List Out)) → St → Option (List Out)
  | 0, _, _ => none
  | n + 1, f, s => thenDo (f s) (loopN n f)
/-- What becomes of a range over a function when its function has returned. -/
noncomputable def endLoopV (l : Nat) (s : St) (H : HS) : Option Out :=
  match H.h.find l with
  | some (.loop st pend _ _ _ _ _) => match st with
    | .busy => none
    | _ => match pend with
      | none => some ⟨.normal, ⟨s.F, s.ds, putO H l none⟩⟩
      | some .ret => some ⟨.ret, ⟨s.F, s.ds, putO H l none⟩⟩
      | some (.exit id) => some ⟨.exit id, ⟨s.F, s.ds, putO H l none⟩⟩
      | _ => none
  | _ => none
noncomputable def exec (rd : Option Nat) (fn : Nat) (call : CallF) (fuel : Nat) : Code → St → Option (List Out)
  | .skip, s => some [⟨.normal, s⟩]
  | .region _ ops draw, s => match evRegion T rd.isSome call ops.toList draw s with
    | some l => some (l.map fun s => ⟨.normal, s⟩)
    | none => none
  | .seq a b, s => thenDo (exec rd fn call fuel a s) (exec rd fn call fuel b)
  | .cond c a b, s => match evalO s.F c with
    | .bool true => exec rd fn call fuel a s
    | .bool false => exec rd fn call fuel b s
    | _ => none
  | .block id body, s => match exec rd fn call fuel body s with
    | some l => some (l.map (leaveB id))
    | none => none
  | .loop body, s => loopN fuel (exec rd fn call fuel body) s
  | .exit id, s => some [⟨.exit id, s⟩]
  | .scope body, s => exec rd fn call fuel body s
  | .label _, s => some [⟨.normal, s⟩]
  | .ret, s => some [⟨.ret, s⟩]
  | .rangeFunc f params assign body, s => match rd, callV (evalO s.F f) [] with
    | none, some d => match newO s.H (.loop .ready none fn s.F params.toList assign body) with
      | some H2 => match call (.fn d.f (d.args ++ [.func (.yield s.H.n) #[] #[]] ++ d.captured)) H2 with
        | some l => each (fun p => match endLoopV s.H.n ⟨s.F, s.ds, p.2⟩ p.2 with | some o => some [o] | none => none) l
        | none => none
      | none => none
    | _, _ => none
  | _, _ => none

/-! ### calls -/
noncomputable def resV (F : Fr) (H : HS) : List ResultVar → Option (List Value)
  | [] => some []
  | r :: l => match (match r with
      | .tmp t => some (evalO F (.tmp t))
      | .cell a t => match evalO F (.tmp a) with
        | .pointer (some ad) => loadV T H t ad.block ad.off
        | _ => none), resV F H l with
    | some v, some vs => some (v :: vs)
    | _, _ => none
noncomputable def tupV : List Value → Value
  | [v] => v
  | l => .tuple ⟨l⟩
noncomputable def runDefers (call : CallF) : List ADef → HS → Option (List HS)
  | [], H => some [H]
  | d :: ds, H => match call (.fn d.f (d.args ++ d.captured)) H with
    | some l => each (fun p => runDefers call ds p.2) l
    | none => none
noncomputable def objEq : AObj → AObj → Bool
  | .cells a e o, .cells b f p => Nat.beq e f && (match o, p with | true, true => true | false, false => true | _, _ => false) && allH (veq vDepth) a b
  | .map a, .map b => entsEq a b
  | .iter m l c, .iter m' l' c' => optBeq m m' && entsEq l l' && entsEq c.toList c'.toList
  | .dfrd, .dfrd => true
  | .fixed a, .fixed b => allH (veq vDepth) a b
  | .chan n a, .chan m b => Nat.beq n m && allH (veq vDepth) a b
  | _, _ => false
noncomputable def ttEq : TT AObj → TT AObj → Bool
  | .leaf, .leaf => true
  | .node l v r, .node l' v' r' => (match v, v' with | none, none => true | some a, some b => objEq a b | _, _ => false) && ttEq l l' && ttEq r r'
  | _, _ => false
noncomputable def itsEq : List (Nat × Nat) → List (Nat × Nat) → Bool
  | [], [] => true
  | (a, b) :: x, (c, d) :: y => Nat.beq a c && Nat.beq b d && itsEq x y
  | _, _ => false
noncomputable def sameOut (a b : Value × HS) : Bool := veq vDepth a.1 b.1 && Nat.beq a.2.n b.2.n && itsEq a.2.its b.2.its && ttEq a.2.h b.2.h
noncomputable def allAs (a : Value × HS) : List (Value × HS) → Bool
  | [] => true
  | b :: l => sameOut a b && allAs a l
noncomputable def idsV : Nat → Value → List Nat
  | 0, _ => []
  | d + 1, v => match v with
    | .pointer (some a) => [a.block]
    | .slice (some a) _ _ => [a.block]
    | .map (some r) => [r]
    | .chan (some r) => [r]
    | .func _ a b => a.toList.flatMap (idsV d) ++ b.toList.flatMap (idsV d)
    | .iface _ u => idsV d u
    | .agg cs => cs.toList.flatMap (idsV d)
    | .tuple cs => cs.toList.flatMap (idsV d)
    | _ => []
noncomputable def idsO : AObj → List Nat
  | .cells cs _ _ => cs.flatMap (idsV vDepth)
  | .fixed cs => cs.flatMap (idsV vDepth)
  | .map es => es.flatMap fun p => idsV vDepth p.2
  | .chan _ buf => buf.flatMap (idsV vDepth)
  | _ => []
/-- What is reached of what was made from a number on. -/
noncomputable def reach (h : TT AObj) (n0 : Nat) : Nat → List Nat → List Nat → List Nat
  | 0, _, vis => vis
  | _ + 1, [], vis => vis
  | f + 1, i :: work, vis => bif Nat.blt i n0 || hasN i vis then reach h n0 f work vis else
    match h.find i with
    | some o => reach h n0 f (idsO o ++ work) (i :: vis)
    | none => reach h n0 f work vis
noncomputable def wipe (vis : List Nat) : Nat → Nat → TT AObj → TT AObj
  | 0, _, h => h
  | k + 1, i, h => wipe vis k (i + 1) (bif hasN i vis then h else TT.set 40 h i none)
noncomputable def oldIds (h : TT AObj) (n0 : Nat) : Nat → Nat → List Nat
  | 0, _ => []
  | k + 1, i => match h.find i with
    | some o => (idsO o).filter (fun j => Nat.ble n0 j) ++ oldIds h n0 k (i + 1)
    | none => oldIds h n0 k (i + 1)
/-- An outcome without what was made meanwhile and isn't reached any more. -/
noncomputable def prune (n0 : Nat) (p : Value × HS) : Value × HS :=
  match p.2.its with
  | [] => (p.1, { p.2 with h := wipe (reach p.2.h n0 100000 (idsV vDepth p.1 ++ oldIds p.2.h n0 n0 0) []) (p.2.n - n0) n0 p.2.h })
  | _ => p
noncomputable def oneOf (n0 : Nat) : List (Value × HS) → List (Value × HS)
  | [] => []
  | [a] => [a]
  | a :: l => match prune n0 a with
    | a' => bif allAs a' (l.map (prune n0)) then [a'] else a :: l
noncomputable def endOf (call : CallF) (fn : Func) (o : Out) : Option (List (Value × HS)) :=
  match o.ex with
  | .exit _ => none
  | _ => match runDefers call o.s.ds o.s.H with
    | some l => each (fun H => match resV T o.s.F H fn.results.toList with | some vs => some [(tupV vs, H)] | none => none) l
    | none => none
noncomputable def setParams : List Nat → List Value → Fr → Option Fr
  | [], [], F => some F
  | t :: ts, v :: vs, F => setParams ts vs (TT.set 12 F t (some v))
  | _, _, _ => none
/-- What a round of a range over a function leaves. -/
noncomputable def endRoundV (l : Nat) (o : Out) : Option (Value × HS) :=
  match o.s.ds, o.s.H.h.find l with
  | [], some (.loop _ _ fn F params assign body) => match o.ex with
    | .normal => some (.bool true, putO o.s.H l (some (.loop .ready none fn F params assign body)))
    | .ret => some (.bool false, putO o.s.H l (some (.loop .done (some .ret) fn F params assign body)))
    | .exit id => some (.bool false, putO o.s.H l (some (.loop .done (some (.exit id)) fn F params assign body)))
  | _, _ => none
noncomputable def beginRoundV (l : Nat) (s : St) : Option St :=
  match s.H.h.find l with
  | some (.loop .ready pend fn F params assign body) => some { s with H := putO s.H l (some (.loop .busy pend fn F params assign body)) }
  | _ => none
/-- A call that was run: its arguments, what it needs of the heap, the next name; what it gives, what is kept of the heap, the next name. -/
structure Snap where
  args : List Value
  base : List (Nat × AObj)
  n0 : Nat
  v : Value
  out : List (Nat × AObj)
  n1 : Nat
noncomputable def baseH : List (Nat × AObj) → TT AObj → TT AObj
  | [], t => t
  | (id, o) :: l, t => baseH l (TT.set 40 t id (some o))
/-- Functions without a Go body. -/
inductive XK where
  | add64
  | clone
  | cmp
  | known (v : Value) (base : List (Nat × AObj))   -- it gives this, and leaves the heap as it is, if that holds these objects
  | snap (l : List Snap)   -- calls that were run
noncomputable def baseOk (H : HS) : List (Nat × AObj) → Bool
  | [] => true
  | (id, o) :: l => (match H.h.find id with | some o' => objEq o' o | none => false) && baseOk H l
noncomputable def snapFit (s : Snap) (args : List Value) (H : HS) : Bool := Nat.beq H.n s.n0 && (allH (veq vDepth) args s.args && baseOk H s.base)
noncomputable def snapsV (args : List Value) (H : HS) : List Snap → Option (List (Value × HS))
  | [] => none
  | s :: l => bif snapFit s args H then some [(s.v, ⟨baseH s.out .leaf, s.n1, []⟩)] else snapsV args H l
noncomputable def look2 : List (Nat × XK) → Nat → Option XK
  | [], _ => none
  | (g, k) :: l, f => bif Nat.beq g f then some k else look2 l f
noncomputable def evX (k : XK) (args : List Value) (H : HS) : Option (List (Value × HS)) :=
  match k, args with
  | .add64, [.int _ (.ofNat x), .int _ (.ofNat y), .int _ (.ofNat c)] =>
    bif Nat.ble c 1 then some [(.tuple ⟨[.int .u64 (.ofNat ((x + y + c) % 18446744073709551616)), .int .u64 (.ofNat ((x + y + c) / 18446744073709551616))]⟩, H)] else none
  | .clone, [.iface t (.map (some r))] => match H.h.find r with
    | some (.map es) => match newO H (.map es) with
      | some H' => some [(.iface t (.map (some H.n)), H')]
      | none => none
    | _ => none
  | .known v base, [] => bif baseOk H base then some [(v, H)] else none
  | .snap l, args => snapsV args H l
  | .cmp, [.string a, .string b] => some [(.int .i64 (bif ltL (sL a) (sL b) then .negSucc 0 else bif beqL (sL a) (sL b) then 0 else 1), H)]
  | _, _ => none
noncomputable def evCall (G : Nat) (fns : TT Func) (X : List (Nat × XK)) (fuel : Nat) : Nat → CallF
  | 0, _, _ => none
  | n + 1, .fn f args, H => match (match look2 X f with | some k => evX k args H | none => none) with
    | some r => some r
    | none => match fns.find f with
      | some fn => match fn.body with
        | some c => bif Nat.ble (lenL args) fn.ntmps then
            match exec T none fn.ntmps (evCall G fns X fuel n) fuel c ⟨TT.ofList 0 args .leaf, [], H⟩ with
            | some l => match each (endOf T (evCall G fns X fuel n) fn) l with
              | some r => some (oneOf H.n r)
              | none => none
            | none => none
          else none
        | none => none
      | none => none
  | n + 1, .yld l args, H => match H.h.find l with
    | some (.loop _ _ fn F params assign body) => bif codeB G fn assign && (codeB G fn body && parsB fn params) then
        match setParams params args F with
        | some F' => match exec T (some l) fn (evCall G fns X fuel n) fuel assign ⟨F', [], H⟩ with
          | some r1 => match each (fun o => match o.ex with
              | .normal => match beginRoundV l o.s with
                | some s' => exec T (some l) fn (evCall G fns X fuel n) fuel body s'
                | none => none
              | _ => none) r1 with
            | some r => match each (fun o => match endRoundV l o with | some x => some [x] | none => none) r with
              | some r => some (oneOf H.n r)
              | none => none
            | none => none
          | none => none
        | none => none
      else none
    | _ => none
end
end Go.Proofs.Ytddknmgajacofaa.Ev

/-
  An evaluator of Go code on closed data: plain laws of its small functions.
-/
namespace Go.Proofs.Ytddknmgajacofaa.Ev
open Go

/-! ### tries -/
section
variable {α : Type}
theorem cond_eq {β : Type} (c : Bool) (a b : β) : (bif c then a else b) = if c = true then a else b := by cases c <;> rfl
theorem nat_rec_ite {β : Type} (m : Nat) (a b : β) : @Nat.rec (fun _ => β) a (fun _ _ => b) m = if m = 0 then a else b := by cases m <;> rfl
theorem TT.find_leaf (k : Nat) : (TT.leaf : TT α).find k = none := rfl
theorem TT.find_node_zero (l r : TT α) (v : Option α) : (TT.node l v r).find 0 = v := rfl
theorem TT.find_node_succ (l r : TT α) (v : Option α) (j : Nat) : (TT.node l v r).find (j + 1) = if j % 2 = 0 then l.find (j / 2) else r.find (j / 2) :=
  nat_rec_ite (j % 2) _ _
theorem TT.set_leaf_succ (n j : Nat) (o : Option α) : TT.set (n + 1) .leaf (j + 1) o = if j % 2 = 0 then .node (TT.set n .leaf (j / 2) o) none .leaf else .node .leaf none (TT.set n .leaf (j / 2) o) :=
  nat_rec_ite (j % 2) _ _
theorem TT.set_node_succ (n j : Nat) (l r : TT α) (v o : Option α) : TT.set (n + 1) (.node l v r) (j + 1) o = if j % 2 = 0 then .node (TT.set n l (j / 2) o) v r else .node l v (TT.set n r (j / 2) o) :=
  nat_rec_ite (j % 2) _ _
theorem TT.find_set (n : Nat) : ∀ (t : TT α) (k : Nat) (o : Option α), k + 1 < 2 ^ n → (TT.set n t k o).find k = o := by
  induction n with
  | zero => intro t k o h; simp at h
  | succ n ih =>
    intro t k o h
    cases k with
    | zero => cases t <;> rfl
    | succ j =>
      have h2 : j / 2 + 1 < 2 ^ n := by rw [Nat.pow_succ] at h; omega
      cases t with
      | leaf =>
        rw [TT.set_leaf_succ]
        split <;> rename_i hj <;> rw [TT.find_node_succ] <;> simp [hj, ih _ _ _ h2]
      | node l v r =>
        rw [TT.set_node_succ]
        split <;> rename_i hj <;> rw [TT.find_node_succ] <;> simp [hj, ih _ _ _ h2]
theorem TT.find_set_ne (n : Nat) : ∀ (t : TT α) (k k' : Nat) (o : Option α), k ≠ k' → (TT.set n t k o).find k' = t.find k' := by
  induction n with
  | zero => intro t k k' o _; rfl
  | succ n ih =>
    intro t k k' o hne
    cases k with
    | zero =>
      cases k' with
      | zero => exact absurd rfl hne
      | succ j' => cases t with
        | leaf =>
          show (TT.node .leaf o .leaf).find (j' + 1) = none
          rw [TT.find_node_succ]
          split <;> rfl
        | node l v r =>
          show (TT.node l o r).find (j' + 1) = _
          rw [TT.find_node_succ, TT.find_node_succ]
    | succ j =>
      cases k' with
      | zero => cases t with
        | leaf => rw [TT.set_leaf_succ]; split <;> rfl
        | node l v r => rw [TT.set_node_succ]; split <;> rfl
      | succ j' =>
        have hj : (j % 2 = 0 ↔ j' % 2 = 0) → j / 2 ≠ j' / 2 := fun h he => hne (by omega)
        cases t with
        | leaf =>
          rw [TT.set_leaf_succ]
          split <;> rename_i h1 <;> rw [TT.find_node_succ] <;> split <;> rename_i h2
          · rw [ih _ _ _ _ (hj (by simp [h1, h2]))]; rfl
          · rfl
          · rfl
          · rw [ih _ _ _ _ (hj (by simp [h1, h2]))]; rfl
        | node l v r =>
          rw [TT.set_node_succ]
          split <;> rename_i h1 <;> rw [TT.find_node_succ, TT.find_node_succ] <;> split <;> rename_i h2
          · rw [ih _ _ _ _ (hj (by simp [h1, h2]))]
          · rfl
          · rfl
          · rw [ih _ _ _ _ (hj (by simp [h1, h2]))]
end

/-! ### numbers -/
theorem kEq_iff {a b : IntKind} : kEq a b = true ↔ a = b := by cases a <;> cases b <;> decide
theorem ile_eq (a b : Int) : ile a b = decide (a ≤ b) := by
  rw [Bool.eq_iff_iff, decide_eq_true_iff]
  cases a <;> cases b <;> simp only [ile, Nat.ble_eq, Int.ofNat_eq_natCast, Bool.false_eq_true] <;> first | omega | (refine ⟨fun h => ?_, fun h => ?_⟩ <;> first | omega | trivial | rfl | exact h.elim)
theorem ieq_eq (a b : Int) : ieq a b = (a == b) := by
  rw [Bool.eq_iff_iff, beq_iff_eq]
  cases a <;> cases b <;> simp only [ieq, Nat.beq_eq, Int.ofNat_eq_natCast, Bool.false_eq_true] <;> first | omega | (refine ⟨fun h => ?_, fun h => ?_⟩ <;> first | omega | trivial | rfl | exact h.elim)
theorem ieq_iff {a b : Int} : ieq a b = true ↔ a = b := by rw [ieq_eq, beq_iff_eq]
theorem uOf_eq (k : IntKind) (n : Int) : (uOf k n : Int) = n % (kMod k : Int) := by
  have hk : 0 < kMod k := by cases k <;> decide
  cases n with
  | ofNat m => simp [uOf]
  | negSucc m =>
    simp only [uOf, Int.negSucc_emod m (by exact_mod_cast hk : (0:Int) < (kMod k : Int))]
    have := Nat.mod_lt m hk
    push_cast
    omega
theorem kMod_eq (k : IntKind) : ((2 : Int) ^ k.bits) = (kMod k : Int) := by cases k <;> decide
theorem uOf_lt (k : IntKind) (n : Int) : uOf k n < kMod k := by
  have hk : (0:Int) < kMod k := by cases k <;> decide
  have := uOf_eq k n
  have h2 := Int.emod_lt_of_pos n hk
  omega
theorem kHalf_eq (k : IntKind) : ((2 : Int) ^ (k.bits - 1)) = ((kMod k / 2 : Nat) : Int) := by cases k <;> decide
theorem kSigned_eq (k : IntKind) : kSigned k = k.signed := by cases k <;> rfl
theorem ofU_eq (k : IntKind) (m : Nat) (h : m < kMod k) : ofU k m = k.wrap m := by
  have e : ((m : Int) % (kMod k : Int)) = m := Int.emod_eq_of_lt (by omega) (by exact_mod_cast h)
  unfold IntKind.wrap ofU
  rw [kMod_eq, kHalf_eq, kSigned_eq]
  simp only [e, cond_eq, Bool.and_eq_true, Nat.ble_eq, decide_eq_true_eq, ge_iff_le, Int.ofNat_le]
  split
  · omega
  · rfl
theorem wrapK_eq (k : IntKind) (n : Int) : wrapK k n = k.wrap n := by
  unfold wrapK
  rw [ofU_eq k _ (uOf_lt k n), uOf_eq]
  unfold IntKind.wrap
  rw [kMod_eq]
  simp
end Go.Proofs.Ytddknmgajacofaa.Ev
