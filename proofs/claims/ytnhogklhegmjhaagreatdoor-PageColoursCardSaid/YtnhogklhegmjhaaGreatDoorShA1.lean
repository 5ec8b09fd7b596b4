/-
  The shadow evaluator: values, heap, operations, code. No statement of a claim is in this text; it only defines the evaluator.
  The relation between the shadow's values and heap and the model's: an embedding of live shadow blocks into blocks of the world.
  Memory: loads, stores, new blocks, on both sides.
  The compilation of the model's operations into the shadow's: a function, so that the kernel reckons it.
  The shadow's code: compilation and evaluation.
-/
import Derived.Calls
import Derived.WalkKit
set_option linter.all false
section
namespace Go.Sh
inductive SV where
  | bool (b : Bool)
  | int (k : IntKind) (n : Int)
  | str (s : List Nat)
  | ptr (b o : Nat)
  | nilp
  | slice (b o n : Nat) (cap : Option Nat) (z : Nat)
  | nils
  | map (b : Nat)
  | nilm
  | func (f : FuncId) (first captured : List SV)
  | nilf
  | iface (t : TypeId) (v : SV)
  | nili
  | agg (cs : List SV)
  | tup (vs : List SV)
  | opq (b : Nat)
  deriving Inhabited
def SV.undef : SV := .tup []
def SV.cells : SV → List SV
  | .agg cs => cs
  | v => [v]
def SV.one : SV → Bool
  | .agg _ => false
  | .tup _ => false
  | _ => true
inductive Tr (α : Type) where
  | leaf
  | node (l : Tr α) (v : Option α) (r : Tr α)
def Tr.get {α : Type} : Tr α → Nat → Option α
  | .leaf, _ => none
  | .node l v r, n =>
    match n with
    | 0 => v
    | m + 1 => match m % 2 with
      | 0 => l.get (m / 2)
      | _ + 1 => r.get (m / 2)
def Tr.set {α : Type} : Nat → Tr α → Nat → α → Tr α
  | 0, t, _, _ => t
  | f + 1, t, n, a =>
    match t with
    | .leaf => match n with
      | 0 => .node .leaf (some a) .leaf
      | m + 1 => match m % 2 with
        | 0 => .node (Tr.set f .leaf (m / 2) a) none .leaf
        | _ + 1 => .node .leaf none (Tr.set f .leaf (m / 2) a)
    | .node l v r => match n with
      | 0 => .node l (some a) r
      | m + 1 => match m % 2 with
        | 0 => .node (Tr.set f l (m / 2) a) v r
        | _ + 1 => .node l v (Tr.set f r (m / 2) a)
def Tr.put {α : Type} (t : Tr α) (n : Nat) (a : α) : Tr α := Tr.set (n + 1) t n a
theorem Tr.get_set {α : Type} : ∀ (f : Nat) (t : Tr α) (n : Nat) (a : α), n < f → ∀ m, (Tr.set f t n a).get m = if m = n then some a else t.get m := by
  intro f
  induction f with
  | zero => intro t n a h; omega
  | succ f ih =>
    intro t n a h m
    cases t with
    | leaf =>
      cases n with
      | zero => cases m <;> simp [Tr.set, Tr.get] ; split <;> rfl
      | succ n =>
        have hk : n / 2 < f := by omega
        rcases Nat.mod_two_eq_zero_or_one n with hn | hn
        · cases m with
          | zero => simp [Tr.set, Tr.get, hn]
          | succ m =>
            rcases Nat.mod_two_eq_zero_or_one m with hm | hm
            · simp only [Tr.set, Tr.get, hn, hm, ih _ _ _ hk]
              by_cases e : m = n
              · simp [e]
              · have : m / 2 ≠ n / 2 := by omega
                simp [e, this]
            · have : m ≠ n := by omega
              simp [Tr.set, Tr.get, hn, hm, this]
        · cases m with
          | zero => simp [Tr.set, Tr.get, hn]
          | succ m =>
            rcases Nat.mod_two_eq_zero_or_one m with hm | hm
            · have : m ≠ n := by omega
              simp [Tr.set, Tr.get, hn, hm, this]
            · simp only [Tr.set, Tr.get, hn, hm, ih _ _ _ hk]
              by_cases e : m = n
              · simp [e]
              · have : m / 2 ≠ n / 2 := by omega
                simp [e, this]
    | node l v r =>
      cases n with
      | zero => cases m <;> simp [Tr.set, Tr.get]
      | succ n =>
        have hk : n / 2 < f := by omega
        rcases Nat.mod_two_eq_zero_or_one n with hn | hn
        · cases m with
          | zero => simp [Tr.set, Tr.get, hn]
          | succ m =>
            rcases Nat.mod_two_eq_zero_or_one m with hm | hm
            · simp only [Tr.set, Tr.get, hn, hm, ih _ _ _ hk]
              by_cases e : m = n
              · simp [e]
              · have : m / 2 ≠ n / 2 := by omega
                simp [e, this]
            · have : m ≠ n := by omega
              simp [Tr.set, Tr.get, hn, hm, this]
        · cases m with
          | zero => simp [Tr.set, Tr.get, hn]
          | succ m =>
            rcases Nat.mod_two_eq_zero_or_one m with hm | hm
            · have : m ≠ n := by omega
              simp [Tr.set, Tr.get, hn, hm, this]
            · simp only [Tr.set, Tr.get, hn, hm, ih _ _ _ hk]
              by_cases e : m = n
              · simp [e]
              · have : m / 2 ≠ n / 2 := by omega
                simp [e, this]
theorem Tr.get_put {α : Type} (t : Tr α) (n : Nat) (a : α) (m : Nat) : (t.put n a).get m = if m = n then some a else t.get m :=
  Tr.get_set _ _ _ _ (Nat.lt_succ_self _) _
inductive SObj where
  | row (cells : List SV) (elem : TypeId) (exact ro : Bool) (frz : Nat)
  | map (es : List (SV × SV × Nat)) (clock : Nat)
  | siter (s : List Nat) (pos : Nat)
  | dead
  deriving Inhabited
structure Heap where
  next : Nat
  objs : Tr SObj
def Heap.get (H : Heap) (b : Nat) : Option SObj := H.objs.get b
def Heap.put (H : Heap) (b : Nat) (o : SObj) : Heap := { H with objs := H.objs.put b o }
def Heap.push (H : Heap) (o : SObj) : Heap := { next := H.next + 1, objs := H.objs.put H.next o }
theorem Heap.get_put (H : Heap) (b : Nat) (o : SObj) (m : Nat) : (H.put b o).get m = if m = b then some o else H.get m := Tr.get_put _ _ _ _
theorem Heap.get_push (H : Heap) (o : SObj) (m : Nat) : (H.push o).get m = if m = H.next then some o else H.get m := Tr.get_put _ _ _ _
def loadC (H : Heap) (b o n : Nat) : Option (List SV) :=
  match H.get b with
  | some (.row cs _ _ _ _) => match Nat.ble (o + n) cs.length with
    | true => some ((cs.drop o).take n)
    | false => none
  | _ => none
def storeC (H : Heap) (b o : Nat) (vs : List SV) : Option Heap :=
  match H.get b with
  | some (.row cs e ex false frz) =>
    match Nat.ble (o + vs.length) cs.length && Nat.ble frz o && vs.all SV.one with
    | true => some (H.put b (.row (cs.take o ++ (vs ++ cs.drop (o + vs.length))) e ex false frz))
    | false => none
  | _ => none
inductive X where
  | t (n : Nat)
  | c (v : SV)
abbrev T := List SV
def X.ev (ts : T) : X → SV
  | .t n => ts.getD n SV.undef
  | .c v => v
def evs (ts : T) : List X → List SV
  | [] => []
  | x :: xs => x.ev ts :: evs ts xs
inductive SOp where
  | mv (x : X)
  | pick (c a b : X)
  | bad
  | alloc (zero : List SV) (elem : TypeId)
  | box (elem : TypeId) (x : X)
  | build (zero : List SV) (parts : List (Nat × Nat × X))
  | bslice (elem : TypeId) (z len : Nat) (zero : List SV) (parts : List (Nat × Nat × X))
  | load (agg : Bool) (n : Nat) (a : X)
  | store (n : Nat) (a x : X)
  | nilc (x : X)
  | bin (op : BinOp) (x y : X)
  | eqf (neg agg : Bool) (L : List (Nat × Nat)) (x y : X)
  | eqn (neg : Bool) (kind : Nat) (x y : X)
  | un (op : UnOp) (x : X)
  | cvi (k : IntKind) (x : X)
  | cvs (x : X)
  | cvsb (elem : TypeId) (x : X)
  | cvbs (x : X)
  | mki (t : TypeId) (x : X)
  | mkf (f : FuncId) (first captured : List X)
  | mkm
  | mks (elem : TypeId) (z bytes : Nat) (zero : List SV) (l c : X)
  | sls (lo hi : Option X) (x : X)
  | slv (z : Nat) (lo hi mx : Option X) (x : X)
  | sla (n z : Nat) (lo hi : Option X) (x : X)
  | fad (off : Nat) (x : X)
  | fld (agg : Bool) (n off : Nat) (x : X)
  | iad (z : Nat) (x i : X)
  | iaa (n z : Nat) (x i : X)
  | ixs (x i : X)
  | ixa (n : Nat) (agg : Bool) (z : Nat) (x i : X)
  | lku (agg : Bool) (L : List (Nat × Nat)) (zero : SV) (ok : Bool) (m k : X)
  | mup (agg : Bool) (L : List (Nat × Nat)) (m k v : X)
  | ext (i : Nat) (x : X)
  | lens (x : X)
  | lenl (x : X)
  | lenm (x : X)
  | lenk (n : Nat)
  | app (str : Bool) (elem : TypeId) (z bytes : Nat) (s x : X)
  | mnx (isMax : Bool) (xs : List X)
  | cpy (str : Bool) (z : Nat) (d s : X)
  | tas (t : TypeId) (zero : SV) (ok : Bool) (x : X)
  | usd (x : X)
  | ust (elem : TypeId) (p n : X)
  | cvu (x : X)
  | cvb (chk : TypeId → Nat → Nat → Bool) (x : X)
  | eqp (neg : Bool) (x y : X)
  | rng (x : X)
  | nxt (x : X)
  | cvis (x : X)
  | xib (x c : X)
  | xcn (x c : X)
  | xnop (x : Option X)
  | xld (k : IntKind) (a : X)
  | xst (a x : X)
  | xcas (k : IntKind) (a x y : X)
  | xadd (k : IntKind) (a x : X)
def sint (n : Nat) : SV := .int .i64 (Int.ofNat n)
def splice (cs : List SV) (off : Nat) (vs : List SV) : List SV := cs.take off ++ (vs ++ cs.drop (off + vs.length))
def ixb : List Nat → Nat → Nat → Int
  | [], _, _ => -1
  | x :: xs, c, i => match Nat.beq x c with
    | true => Int.ofNat i
    | false => ixb xs c (i + 1)
def cnb : List Nat → Nat → Nat
  | [], _ => 0
  | x :: xs, c => match Nat.beq x c with
    | true => cnb xs c + 1
    | false => cnb xs c
def decS (s : List Nat) (i : Nat) : Nat × Nat :=
  let at' (k : Nat) : Nat := s.getD (i + k) 0
  let cont (k : Nat) : Bool := i + k < s.length && at' k / 64 == 2
  let b0 := at' 0
  if b0 < 0x80 then (b0, 1)
  else if b0 / 32 == 6 && cont 1 then
    let c := (b0 % 32) * 64 + at' 1 % 64
    if c ≥ 0x80 then (c, 2) else (Utf8.runeError, 1)
  else if b0 / 16 == 14 && cont 1 && cont 2 then
    let c := (b0 % 16) * 4096 + (at' 1 % 64) * 64 + at' 2 % 64
    if c ≥ 0x800 && Utf8.valid c then (c, 3) else (Utf8.runeError, 1)
  else if b0 / 8 == 30 && cont 1 && cont 2 && cont 3 then
    let c := (b0 % 8) * 262144 + (at' 1 % 64) * 4096 + (at' 2 % 64) * 64 + at' 3 % 64
    if c ≥ 0x10000 && Utf8.valid c then (c, 4) else (Utf8.runeError, 1)
  else (Utf8.runeError, 1)
def encS (n : Int) : List Nat := (Utf8.encode n).data.toList.map UInt8.toNat
def fillS (ts : T) : List SV → List (Nat × Nat × X) → Option (List SV)
  | cs, [] => some cs
  | cs, (off, size, x) :: rest =>
    let vs := (x.ev ts).cells
    match Nat.beq vs.length size && Nat.ble (off + vs.length) cs.length with
    | true => fillS ts (splice cs off vs) rest
    | false => none
def ltS : List Nat → List Nat → Bool
  | _, [] => false
  | [], _ :: _ => true
  | a :: x, b :: y => Nat.blt a b || (Nat.beq a b && ltS x y)
def eqS : List Nat → List Nat → Bool
  | [], [] => true
  | a :: x, b :: y => Nat.beq a b && eqS x y
  | _, _ => false
def maxStr : Nat := 4611686018427387904
def binS (op : BinOp) (x y : SV) : Option SV :=
  match x, y with
  | .int k a, .int k' b =>
    match op with
    | .shl => if b < 0 then none else some (.int k (k.wrap (a * 2 ^ min b.toNat k.bits)))
    | .shr => if b < 0 then none else some (.int k (a.fdiv (2 ^ min b.toNat k.bits)))
    | _ => if k ≠ k' then none else
      match op with
      | .add => some (.int k (k.wrap (a + b)))
      | .sub => some (.int k (k.wrap (a - b)))
      | .mul => some (.int k (k.wrap (a * b)))
      | .quo => if b = 0 then none else some (.int k (k.wrap (a.tdiv b)))
      | .rem => if b = 0 then none else some (.int k (a.tmod b))
      | .and => some (.int k (k.wrap (BitVec.ofInt k.bits a &&& BitVec.ofInt k.bits b).toNat))
      | .or => some (.int k (k.wrap (BitVec.ofInt k.bits a ||| BitVec.ofInt k.bits b).toNat))
      | .xor => some (.int k (k.wrap (BitVec.ofInt k.bits a ^^^ BitVec.ofInt k.bits b).toNat))
      | .andNot => some (.int k (k.wrap (BitVec.ofInt k.bits a &&& ~~~BitVec.ofInt k.bits b).toNat))
      | .eql => some (.bool (a == b))
      | .neq => some (.bool (a != b))
      | .lss => some (.bool (a < b))
      | .leq => some (.bool (a ≤ b))
      | .gtr => some (.bool (a > b))
      | .geq => some (.bool (a ≥ b))
      | .shl => none
      | .shr => none
  | .str a, .str b =>
    match op with
    | .add => match Nat.ble (a.length + b.length) maxStr with
      | true => some (.str (a ++ b))
      | false => none
    | .eql => some (.bool (eqS a b))
    | .neq => some (.bool (!eqS a b))
    | .lss => some (.bool (ltS a b))
    | .leq => some (.bool (ltS a b || eqS a b))
    | .gtr => some (.bool (!(ltS a b || eqS a b)))
    | .geq => some (.bool (!ltS a b))
    | _ => none
  | _, _ => none
def eqOne (kind : Nat) (x y : SV) : Option Bool :=
  match kind, x, y with
  | 0, .bool a, .bool b => some (a == b)
  | 1, .int k a, .int k' b => if k = k' then some (a == b) else none
  | 2, .str a, .str b => some (eqS a b)
  | _, _, _ => none
def eqLeaves : List (Nat × Nat) → List SV → List SV → Option Bool
  | [], _, _ => some true
  | (i, kind) :: L, xs, ys =>
    match xs[i]? with
    | none => none
    | some x => match ys[i]? with
      | none => none
      | some y => match eqOne kind x y with
        | some true => eqLeaves L xs ys
        | some false => some false
        | none => none
def eqVal (agg : Bool) (L : List (Nat × Nat)) (x y : SV) : Option Bool :=
  match agg with
  | true => match x, y with
    | .agg xs, .agg ys => eqLeaves L xs ys
    | _, _ => none
  | false => match L with
    | [(_, kind)] => eqOne kind x y
    | _ => none
def sameOne : SV → SV → Bool
  | .bool a, .bool b => a == b
  | .int k a, .int k' b => decide (k = k') && (a == b)
  | .str a, .str b => eqS a b
  | _, _ => false
def sameList : List SV → List SV → Bool
  | [], [] => true
  | x :: xs, y :: ys => sameOne x y && sameList xs ys
  | _, _ => false
def sameAll : SV → SV → Bool
  | .agg xs, .agg ys => sameList xs ys
  | x, y => sameOne x y
def eqNil (kind : Nat) (x y : SV) : Option Bool :=
  match kind with
  | 0 => match x, y with
    | .nilp, .nilp => some true
    | .nilp, .ptr _ _ => some false
    | .ptr _ _, .nilp => some false
    | _, _ => none
  | 1 => match x, y with
    | .nils, .nils => some true
    | .nils, .slice .. => some false
    | .slice .., .nils => some false
    | _, _ => none
  | 2 => match x, y with
    | .nilm, .nilm => some true
    | .nilm, .map _ => some false
    | .map _, .nilm => some false
    | _, _ => none
  | 3 => match x, y with
    | .nilf, .nilf => some true
    | .nilf, .func .. => some false
    | .func .., .nilf => some false
    | _, _ => none
  | _ => match x, y with
    | .nili, .nili => some true
    | .nili, .iface .. => some false
    | .iface .., .nili => some false
    | _, _ => none
def unS (op : UnOp) (x : SV) : Option SV :=
  match op, x with
  | .neg, .int k n => some (.int k (k.wrap (0 - n)))
  | .xor, .int k n => some (.int k (k.wrap (BitVec.ofInt k.bits (if k.signed then -1 else k.max) ^^^ BitVec.ofInt k.bits n).toNat))
  | .not, .bool b => some (.bool !b)
  | _, _ => none
def bytesOfS : List SV → Option (List Nat)
  | [] => some []
  | .int .u8 n :: rest => match bytesOfS rest with
    | some l => match n with
      | .ofNat m => match Nat.blt m 256 with
        | true => some (m :: l)
        | false => none
      | .negSucc _ => none
    | none => none
  | _ :: _ => none
def byteCells (s : List Nat) : List SV := s.map fun b => .int .u8 (Int.ofNat b)
def idx (v : SV) (lim : Nat) : Option Nat :=
  match v with
  | .int _ (.ofNat n) => match Nat.ble n lim with
    | true => some n
    | false => none
  | _ => none
def idxOpt (ts : T) (x : Option X) (dflt lim : Nat) : Option Nat :=
  match x with
  | none => some dflt
  | some x => idx (x.ev ts) lim
def limS (c : Option Nat) (n : Nat) : Nat := match c with | some c => c | none => n
def mxS (ts : T) (mx : Option X) (cap : Option Nat) (n : Nat) : Option (Option Nat) :=
  match mx with
  | none => some cap
  | some x => match idx (x.ev ts) (limS cap n) with
    | some k => some (some k)
    | none => none
def resl (b o z l h : Nat) (m : Option Nat) : SV :=
  match m with
  | some k => match Nat.beq k l with
    | true => .slice b o (h - l) (some 0) z
    | false => .slice b (o + l * z) (h - l) (some (k - l)) z
  | none => .slice b (o + l * z) (h - l) none z
def partS (agg : Bool) (n off : Nat) (cs : List SV) : Option SV :=
  match agg with
  | true => some (.agg ((cs.drop off).take n))
  | false => cs[off]?
def findS (agg : Bool) (L : List (Nat × Nat)) (k : SV) : List (SV × SV × Nat) → Nat → Option (Option (Nat × SV))
  | [], _ => some none
  | (k', v, _) :: es, i =>
    match eqVal agg L k k' with
    | some true => some (some (i, v))
    | some false => findS agg L k es (i + 1)
    | none => none
def mapSet (k v : SV) : Nat → List (SV × SV × Nat) → List (SV × SV × Nat)
  | _, [] => []
  | 0, (_, _, n) :: es => (k, v, n) :: es
  | i + 1, e :: es => e :: mapSet k v i es
def roomS : Nat := 35184372088832
def srcS (H : Heap) (str : Bool) (z : Nat) (x : SV) : Option (Nat × List SV) :=
  match str with
  | true => match x with
    | .str l => some (l.length, byteCells l)
    | _ => none
  | false => match x with
    | .nils => some (0, [])
    | .slice b o n _ z' => match n with
      | 0 => some (0, [])
      | _ + 1 => match Nat.beq z z' with
        | true => match loadC H b o (n * z) with
          | some cs => some (n, cs)
          | none => none
        | false => none
    | _ => none
def appS (H : Heap) (str : Bool) (elem : TypeId) (z bytes : Nat) (s x : SV) : Option (SV × Heap) :=
  match srcS H str z x with
  | none => none
  | some (0, _) => match s with
    | .nils => some (s, H)
    | .slice .. => some (s, H)
    | _ => none
  | some (n + 1, new) =>
    match s with
    | .nils => match Nat.ble ((n + 1) * bytes) roomS && Nat.ble (n + 1) roomS with
      | true => some (.slice H.next 0 (n + 1) none z, H.push (.row new elem false false 0))
      | false => none
    | .slice b o len cap z' =>
      match Nat.beq z z' && Nat.ble ((len + (n + 1)) * bytes) roomS && Nat.ble (len + (n + 1)) roomS with
      | false => none
      | true => match loadC H b o (len * z) with
        | none => none
        | some old =>
          match cap with
          | some c => match Nat.ble (len + (n + 1)) c with
            | true => match storeC H b (o + len * z) new with
              | some H' => some (.slice b o (len + (n + 1)) cap z, H')
              | none => none
            | false => some (.slice H.next 0 (len + (n + 1)) none z, H.push (.row (old ++ new) elem false false 0))
          | none => match H.get b with
            | some (.row _ e0 _ false frz) => match Nat.ble frz (o + len * z) && Nat.beq e0 elem && new.all SV.one with
              | true => some (.slice H.next 0 (len + (n + 1)) none z, (H.put b .dead).push (.row (old ++ new) elem false false (frz - o)))
              | false => none
            | _ => none
    | _ => none
def minmax (isMax : Bool) : SV → List SV → Option SV
  | v, [] => some v
  | .int k a, .int k' b :: rest => if k = k' then minmax isMax (.int k (if isMax then (if b > a then b else a) else (if b < a then b else a))) rest else none
  | _, _ => none
def allInt8 (cs : List SV) : Bool := (bytesOfS cs).isSome
def entS (H : Heap) (m : SV) : Option (List (SV × SV × Nat)) :=
  match m with
  | .nilm => some []
  | .map b => match H.get b with
    | some (.map es _) => some es
    | _ => none
  | _ => none
def evalOp (so : SOp) (ts : T) (H : Heap) : Option (SV × Heap) :=
  match so with
  | .mv x => some (x.ev ts, H)
  | .pick c a b => match c.ev ts with
    | .bool true => some (a.ev ts, H)
    | .bool false => some (b.ev ts, H)
    | _ => none
  | .bad => none
  | .alloc zero elem => some (.ptr H.next 0, H.push (.row zero elem true false 0))
  | .box elem x => some (.ptr H.next 0, H.push (.row (x.ev ts).cells elem true false 0))
  | .build zero parts => match fillS ts zero parts with
    | some cs => some (.agg cs, H)
    | none => none
  | .bslice elem z len zero parts => match fillS ts zero parts with
    | some cs => some (.slice H.next 0 len (some len) z, H.push (.row cs elem true false 0))
    | none => none
  | .load agg n a => match a.ev ts with
    | .ptr b o => match loadC H b o n with
      | some cs => match agg with
        | true => some (.agg cs, H)
        | false => match cs with
          | [v] => some (v, H)
          | _ => none
      | none => none
    | _ => none
  | .store n a x => match a.ev ts with
    | .ptr b o => let cs := (x.ev ts).cells
      match Nat.beq cs.length n with
      | true => match storeC H b o cs with
        | some H' => some (.undef, H')
        | none => none
      | false => none
    | _ => none
  | .nilc x => match x.ev ts with
    | .nilp => none
    | .nili => none
    | .nilf => none
    | .opq _ => none
    | v => some (v, H)
  | .bin op x y => match binS op (x.ev ts) (y.ev ts) with
    | some v => some (v, H)
    | none => none
  | .eqf neg agg L x y => match eqVal agg L (x.ev ts) (y.ev ts) with
    | some b => some (.bool (b != neg), H)
    | none => none
  | .eqn neg kind x y => match eqNil kind (x.ev ts) (y.ev ts) with
    | some b => some (.bool (b != neg), H)
    | none => none
  | .un op x => match unS op (x.ev ts) with
    | some v => some (v, H)
    | none => none
  | .cvi k x => match x.ev ts with
    | .int _ n => some (.int k (k.wrap n), H)
    | _ => none
  | .cvs x => match x.ev ts with
    | .str s => some (.str s, H)
    | _ => none
  | .cvsb elem x => match x.ev ts with
    | .str s => some (.slice H.next 0 s.length none 1, H.push (.row (byteCells s) elem false false 0))
    | _ => none
  | .cvbs x => match x.ev ts with
    | .nils => some (.str [], H)
    | .slice b o n _ 1 => match loadC H b o n with
      | some cs => match bytesOfS cs with
        | some s => some (.str s, H)
        | none => none
      | none => none
    | _ => none
  | .mki t x => some (.iface t (x.ev ts), H)
  | .mkf f first captured => some (.func f (evs ts first) (evs ts captured), H)
  | .mkm => some (.map H.next, H.push (.map [] 0))
  | .mks elem z bytes zero l c => match l.ev ts, c.ev ts with
    | .int _ (.ofNat l), .int _ (.ofNat c) =>
      match Nat.ble l c && Nat.ble (c * bytes) roomS && Nat.ble c roomS with
      | true => some (.slice H.next 0 l (some c) z, H.push (.row ((List.replicate c zero).flatten) elem true false 0))
      | false => none
    | _, _ => none
  | .sls lo hi x => match x.ev ts with
    | .str s => match idxOpt ts hi s.length s.length with
      | some h => match idxOpt ts lo 0 h with
        | some l => some (.str ((s.drop l).take (h - l)), H)
        | none => none
      | none => none
    | _ => none
  | .slv z lo hi mx x => match x.ev ts with
    | .nils => match idxOpt ts mx 0 0, idxOpt ts hi 0 0, idxOpt ts lo 0 0 with
      | some _, some _, some _ => some (.nils, H)
      | _, _, _ => none
    | .slice b o n cap z' =>
      match Nat.beq z z' with
      | false => none
      | true => match mxS ts mx cap n with
        | none => none
        | some m => match idxOpt ts hi n (limS m n) with
          | some h => match idxOpt ts lo 0 h with
            | some l => some (resl b o z l h m, H)
            | none => none
          | none => none
    | _ => none
  | .sla n z lo hi x => match x.ev ts with
    | .ptr b o => match loadC H b o (n * z) with
      | none => none
      | some _ => match idxOpt ts hi n n with
        | some h => match idxOpt ts lo 0 h with
          | some l => some (resl b o z l h (some n), H)
          | none => none
        | none => none
    | _ => none
  | .fad off x => match x.ev ts with
    | .ptr b o => some (.ptr b (o + off), H)
    | _ => none
  | .fld agg n off x => match x.ev ts with
    | .agg cs => match partS agg n off cs with
      | some v => some (v, H)
      | none => none
    | _ => none
  | .iad z x i => match x.ev ts with
    | .slice b o n _ z' => match i.ev ts with
      | .int _ (.ofNat k) => match Nat.blt k n && Nat.beq z z' with
        | true => some (.ptr b (o + k * z), H)
        | false => none
      | _ => none
    | _ => none
  | .iaa n z x i => match x.ev ts with
    | .ptr b o => match i.ev ts with
      | .int _ (.ofNat k) => match Nat.blt k n with
        | true => some (.ptr b (o + k * z), H)
        | false => none
      | _ => none
    | _ => none
  | .ixs x i => match x.ev ts with
    | .str s => match i.ev ts with
      | .int _ (.ofNat k) => match s[k]? with
        | some b => some (.int .u8 (Int.ofNat b), H)
        | none => none
      | _ => none
    | _ => none
  | .ixa n agg z x i => match x.ev ts with
    | .agg cs => match i.ev ts with
      | .int _ (.ofNat k) => match Nat.blt k n with
        | true => match partS agg z (k * z) cs with
          | some v => some (v, H)
          | none => none
        | false => none
      | _ => none
    | _ => none
  | .lku agg L zero ok m k =>
    match entS H (m.ev ts), eqVal agg L (k.ev ts) (k.ev ts) with
    | some es, some _ => match findS agg L (k.ev ts) es 0 with
      | none => none
      | some none => some (if ok then .tup [zero, .bool false] else zero, H)
      | some (some (_, v)) => some (if ok then .tup [v, .bool true] else v, H)
    | _, _ => none
  | .mup agg L m k v => match m.ev ts with
    | .map b => match H.get b, eqVal agg L (k.ev ts) (k.ev ts) with
      | some (.map es clock), some _ => match findS agg L (k.ev ts) es 0 with
        | none => none
        | some (some (i, _)) => match es[i]? with
          | some (k', _, _) => match sameAll k' (k.ev ts) with
            | true => some (.undef, H.put b (.map (mapSet (k.ev ts) (v.ev ts) i es) clock))
            | false => none
          | none => none
        | some none => some (.undef, H.put b (.map (es ++ [(k.ev ts, v.ev ts, clock)]) (clock + 1)))
      | _, _ => none
    | _ => none
  | .ext i x => match x.ev ts with
    | .tup vs => match vs[i]? with
      | some v => some (v, H)
      | none => none
    | _ => none
  | .lens x => match x.ev ts with
    | .str s => some (sint s.length, H)
    | _ => none
  | .lenl x => match x.ev ts with
    | .nils => some (sint 0, H)
    | .slice _ _ n _ _ => some (sint n, H)
    | _ => none
  | .lenm x => match x.ev ts with
    | .nilm => some (sint 0, H)
    | .map b => match H.get b with
      | some (.map es _) => some (sint es.length, H)
      | _ => none
    | _ => none
  | .lenk n => some (sint n, H)
  | .app str elem z bytes s x => appS H str elem z bytes (s.ev ts) (x.ev ts)
  | .mnx isMax xs => match evs ts xs with
    | [] => none
    | v :: rest => match minmax isMax v rest with
      | some v => some (v, H)
      | none => none
  | .cpy str z d s => match srcS H str z (s.ev ts) with
    | none => none
    | some (n, cs) => match d.ev ts with
      | .nils => some (sint 0, H)
      | .slice b o n' _ z' => match Nat.beq z z' with
        | false => none
        | true => match Nat.min n n' with
          | 0 => some (sint 0, H)
          | k + 1 => match storeC H b o (cs.take ((k + 1) * z)) with
            | some H' => some (sint (k + 1), H')
            | none => none
      | _ => none
  | .tas t zero ok x => match x.ev ts with
    | .iface t' v => match Nat.beq t t' with
      | true => some (if ok then .tup [v, .bool true] else v, H)
      | false => if ok then some (.tup [zero, .bool false], H) else none
    | .nili => if ok then some (.tup [zero, .bool false], H) else none
    | _ => none
  | .usd x => match x.ev ts with
    | .nils => some (.nilp, H)
    | .slice b o (_ + 1) _ _ => some (.ptr b o, H)
    | _ => none
  | .ust elem p n => match n.ev ts with
    | .int _ (.ofNat 0) => match p.ev ts with
      | .nilp => some (.str [], H)
      | .ptr _ _ => some (.str [], H)
      | _ => none
    | .int _ (.ofNat (k + 1)) => match p.ev ts with
      | .ptr b o => match H.get b with
        | some (.row cs e ex false frz) => match Nat.ble (o + (k + 1)) cs.length && (Nat.beq e elem && Nat.ble (k + 1) maxStr) with
          | true => match bytesOfS ((cs.drop o).take (k + 1)) with
            | some s => some (.str s, H.put b (.row cs e ex true frz))
            | none => none
          | false => none
        | _ => none
      | _ => none
    | _ => none
  | .xib x c => match x.ev ts, c.ev ts with
    | .str l, .int .u8 n => some (.int .i64 (ixb l (n.toNat % 256) 0), H)
    | _, _ => none
  | .xcn x c => match x.ev ts, c.ev ts with
    | .str l, .int .u8 n => some (.int .i64 (Int.ofNat (cnb l (n.toNat % 256))), H)
    | _, _ => none
  | .xnop x => match x with
    | none => some (.undef, H)
    | some x => match x.ev ts with
      | .ptr _ _ => some (.undef, H)
      | _ => none
  | .xld k a => match a.ev ts with
    | .ptr b o => match loadC H b o 1 with
      | some [.int k' n] => if k = k' then some (.int k n, H) else none
      | _ => none
    | _ => none
  | .xst a x => match a.ev ts, x.ev ts with
    | .ptr b o, .int k n => match loadC H b o 1 with
      | some [_] => match storeC H b o [.int k n] with
        | some H' => some (.undef, H')
        | none => none
      | _ => none
    | _, _ => none
  | .xcas k a x y => match a.ev ts, x.ev ts, y.ev ts with
    | .ptr b o, .int kx m, .int ky z => match loadC H b o 1 with
      | some [.int k' n] => if k = k' ∧ n = m ∧ kx = k ∧ ky = k then match storeC H b o [.int k z] with
          | some H' => some (.bool true, H')
          | none => none
        else none
      | _ => none
    | _, _, _ => none
  | .xadd k a x => match a.ev ts, x.ev ts with
    | .ptr b o, .int kx m => match loadC H b o 1 with
      | some [.int k' n] => if k = k' ∧ kx = k then match storeC H b o [.int k (k.wrap (n + m))] with
          | some H' => some (.int k (k.wrap (n + m)), H')
          | none => none
        else none
      | _ => none
    | _, _ => none
  | .cvu x => match x.ev ts with
    | .nilp => some (.nilp, H)
    | .ptr b o => match H.get b with
      | some (.row cs _ _ _ _) => match Nat.blt o cs.length with
        | true => some (.ptr b o, H)
        | false => none
      | _ => none
    | _ => none
  | .cvb chk x => match x.ev ts with
    | .nilp => some (.nilp, H)
    | .ptr b o => match H.get b with
      | some (.row cs e true _ _) => match chk e cs.length o with
        | true => some (.ptr b o, H)
        | false => none
      | _ => none
    | _ => none
  | .eqp neg x y => match x.ev ts, y.ev ts with
    | .nilp, .nilp => some (.bool (true != neg), H)
    | .nilp, .ptr _ _ => some (.bool (false != neg), H)
    | .ptr _ _, .nilp => some (.bool (false != neg), H)
    | .ptr b o, .ptr b' o' => match Nat.beq b b' with
      | true => some (.bool (Nat.beq o o' != neg), H)
      | false => none
    | _, _ => none
  | .rng x => match x.ev ts with
    | .str s => some (.ptr H.next 0, H.push (.siter s 0))
    | _ => none
  | .nxt x => match x.ev ts with
    | .ptr b 0 => match H.get b with
      | some (.siter s pos) => match Nat.blt pos s.length with
        | true => some (.tup [.bool true, sint pos, .int .i32 (Int.ofNat (decS s pos).1)], H.put b (.siter s (pos + (decS s pos).2)))
        | false => some (.tup [.bool false], H)
      | _ => none
    | _ => none
  | .cvis x => match x.ev ts with
    | .int _ n => some (.str (encS n), H)
    | _ => none
end Go.Sh
end
section
namespace Go.Sh
open Go.RowKit (Below)
structure Loc where
  rb : Nat
  base : Nat
  tot : Nat
  val : Value
abbrev Emb := Nat → Option Loc
def Emb.le (φ ψ : Emb) : Prop := ∀ b l, φ b = some l → ψ b = some l
theorem Emb.le.refl (φ : Emb) : φ.le φ := fun _ _ h => h
theorem Emb.le.trans {φ ψ χ : Emb} (h : φ.le ψ) (k : ψ.le χ) : φ.le χ := fun b l e => k b l (h b l e)
def Emb.ins (φ : Emb) (b : Nat) (l : Loc) : Emb := fun x => if x = b then some l else φ x
theorem Emb.ins_same (φ : Emb) (b : Nat) (l : Loc) : φ.ins b l b = some l := by simp [Emb.ins]
theorem Emb.le_ins {φ : Emb} {b : Nat} {l : Loc} (h : φ b = none) : φ.le (φ.ins b l) := by
  intro x m hx
  unfold Emb.ins
  split
  · rename_i e; subst e; rw [h] at hx; cases hx
  · exact hx
def Emb.ext (φ ψ : Emb) (m : Nat) : Prop := φ.le ψ ∧ ∀ b l, ψ b = some l → φ b = some l ∨ m ≤ b
theorem Emb.ext.refl (φ : Emb) (m : Nat) : φ.ext φ m := ⟨Emb.le.refl φ, fun _ _ h => .inl h⟩
theorem Emb.ext.trans {φ ψ χ : Emb} {m n : Nat} (h : φ.ext ψ m) (k : ψ.ext χ n) (hmn : m ≤ n) : φ.ext χ m :=
  ⟨h.1.trans k.1, fun b l e => by
    rcases k.2 b l e with h1 | h1
    · exact h.2 b l h1
    · exact .inr (Nat.le_trans hmn h1)⟩
theorem Emb.ext_ins {φ : Emb} {b : Nat} {l : Loc} (h : φ b = none) : φ.ext (φ.ins b l) b :=
  ⟨Emb.le_ins h, fun x m hx => by
    unfold Emb.ins at hx
    split at hx
    · rename_i e; subst e; exact .inr (Nat.le_refl _)
    · exact .inl hx⟩
def opOk : Value → Bool
  | .slice _ _ _ => true
  | .int _ _ => true
  | _ => false
mutual
inductive VR (φ : Emb) : SV → Value → Prop where
  | bool (b : Bool) : VR φ (.bool b) (.bool b)
  | int (k : IntKind) (n : Int) : VR φ (.int k n) (.int k n)
  | str {l : List Nat} {s : ByteArray} (h : l = s.data.toList.map UInt8.toNat) : VR φ (.str l) (.string s)
  | ptr {b o : Nat} {l : Loc} (h : φ b = some l) : VR φ (.ptr b o) (.pointer (some ⟨l.rb, l.base + o, none⟩))
  | nilp : VR φ .nilp (.pointer none)
  | slice {b o n z cap : Nat} {c : Option Nat} {l : Loc} (h : φ b = some l) (hc : ∀ k, c = some k → cap = k) (hn : n ≤ cap)
      (ht : l.base + o + cap * z ≤ l.tot) : VR φ (.slice b o n c z) (.slice (some ⟨l.rb, l.base + o, none⟩) n cap)
  | slice0 {b o z : Nat} {c : Option Nat} {a : Addr} (hc : ∀ k, c = some k → k = 0) : VR φ (.slice b o 0 c z) (.slice (some a) 0 0)
  | nils : VR φ .nils (.slice none 0 0)
  | map {b : Nat} {l : Loc} (h : φ b = some l) : VR φ (.map b) (.map (some l.rb))
  | nilm : VR φ .nilm (.map none)
  | func {f : FuncId} {xs ys : List SV} {us vs : Array Value} (h : VRL φ xs us.toList) (k : VRL φ ys vs.toList) : VR φ (.func f xs ys) (.func (.func f) us vs)
  | nilf : VR φ .nilf .nilFunc
  | iface {t : TypeId} {x : SV} {v : Value} (h : VR φ x v) : VR φ (.iface t x) (.iface t v)
  | nili : VR φ .nili .nilIface
  | agg {xs : List SV} {vs : Array Value} (h : VRL φ xs vs.toList) : VR φ (.agg xs) (.agg vs)
  | tup {xs : List SV} {vs : Array Value} (h : VRL φ xs vs.toList) : VR φ (.tup xs) (.tuple vs)
  | opq {b : Nat} {l : Loc} {v : Value} (h : φ b = some l) (hv : l.val = v) (h1 : opOk v = true) : VR φ (.opq b) v
inductive VRL (φ : Emb) : List SV → List Value → Prop where
  | nil : VRL φ [] []
  | cons {x : SV} {v : Value} {xs : List SV} {vs : List Value} (h : VR φ x v) (t : VRL φ xs vs) : VRL φ (x :: xs) (v :: vs)
end
theorem VR.mono {φ ψ : Emb} (hle : φ.le ψ) {x : SV} {v : Value} (h : VR φ x v) : VR ψ x v := by
  refine VR.rec (motive_1 := fun x v _ => VR ψ x v) (motive_2 := fun xs vs _ => VRL ψ xs vs) ?_ ?_ ?_ ?_ ?_ ?_ ?_ ?_ ?_ ?_ ?_ ?_ ?_ ?_ ?_ ?_ ?_ ?_ ?_ h
  · exact fun b => .bool b
  · exact fun k n => .int k n
  · exact fun h => .str h
  · exact fun h => .ptr (hle _ _ h)
  · exact .nilp
  · exact fun h hc hn ht => .slice (hle _ _ h) hc hn ht
  · exact fun hc => .slice0 hc
  · exact .nils
  · exact fun h => .map (hle _ _ h)
  · exact .nilm
  · exact fun _ _ h k => .func h k
  · exact .nilf
  · exact fun _ h => .iface h
  · exact .nili
  · exact fun _ h => .agg h
  · exact fun _ h => .tup h
  · exact fun h hv h1 => .opq (hle _ _ h) hv h1
  · exact .nil
  · exact fun _ _ h k => .cons h k
theorem VRL.mono {φ ψ : Emb} (hle : φ.le ψ) : ∀ {xs : List SV} {vs : List Value}, VRL φ xs vs → VRL ψ xs vs
  | _, _, .nil => .nil
  | _, _, .cons h t => .cons (h.mono hle) (VRL.mono hle t)
theorem VRL.length {φ : Emb} : ∀ {xs : List SV} {vs : List Value}, VRL φ xs vs → xs.length = vs.length
  | _, _, .nil => rfl
  | _, _, .cons _ t => by simp [t.length]
theorem VRL.get {φ : Emb} : ∀ {xs : List SV} {vs : List Value}, VRL φ xs vs → ∀ (i : Nat) (x : SV), xs[i]? = some x → ∃ v, vs[i]? = some v ∧ VR φ x v
  | _, _, .nil, i, x, h => by simp at h
  | _, _, .cons (v := v) h t, 0, x, e => by simp at e; subst e; exact ⟨v, rfl, h⟩
  | _, _, .cons h t, i + 1, x, e => by simpa using t.get i x (by simpa using e)
theorem VRL.mk {φ : Emb} : ∀ {xs : List SV} {vs : List Value}, xs.length = vs.length → (∀ (i : Nat) (x : SV), xs[i]? = some x → ∃ v, vs[i]? = some v ∧ VR φ x v) → VRL φ xs vs
  | [], [], _, _ => .nil
  | [], _ :: _, h, _ => by simp at h
  | _ :: _, [], h, _ => by simp at h
  | x :: xs, v :: vs, h, k => by
    obtain ⟨u, hu, hr⟩ := k 0 x rfl
    simp at hu; subst hu
    exact .cons hr (VRL.mk (by simpa using h) fun i y hy => by simpa using k (i + 1) y (by simpa using hy))
theorem VRL.append {φ : Emb} : ∀ {xs : List SV} {vs : List Value} {ys : List SV} {us : List Value}, VRL φ xs vs → VRL φ ys us → VRL φ (xs ++ ys) (vs ++ us)
  | _, _, _, _, .nil, k => k
  | _, _, _, _, .cons h t, k => .cons h (t.append k)
theorem VRL.take {φ : Emb} : ∀ {xs : List SV} {vs : List Value} (n : Nat), VRL φ xs vs → VRL φ (xs.take n) (vs.take n)
  | _, _, 0, _ => by simpa using .nil
  | _, _, _ + 1, .nil => by simpa using .nil
  | _, _, n + 1, .cons h t => .cons h (t.take n)
theorem VRL.drop {φ : Emb} : ∀ {xs : List SV} {vs : List Value} (n : Nat), VRL φ xs vs → VRL φ (xs.drop n) (vs.drop n)
  | _, _, 0, h => by simpa using h
  | _, _, _ + 1, .nil => by simpa using .nil
  | _, _, n + 1, .cons _ t => by simpa using t.drop n
theorem VRL.flatten_replicate {φ : Emb} {xs : List SV} {vs : List Value} (h : VRL φ xs vs) : ∀ n, VRL φ (List.replicate n xs).flatten (List.replicate n vs).flatten
  | 0 => .nil
  | n + 1 => by simpa [List.replicate_succ] using h.append (VRL.flatten_replicate h n)
theorem VR.one {φ : Emb} {x : SV} {v : Value} (h : VR φ x v) (hx : x.one = true) : v.oneCell' = true := by
  cases h
  case opq ho => cases v <;> first | rfl | cases ho
  all_goals first | rfl | simp [SV.one] at hx
theorem VRL.one {φ : Emb} : ∀ {xs : List SV} {vs : List Value}, VRL φ xs vs → xs.all SV.one = true → ∀ v ∈ vs, v.oneCell' = true
  | _, _, .nil, _, v, h => by simp at h
  | _, _, .cons h t, k, v, hv => by
    simp only [List.all_cons, Bool.and_eq_true] at k
    rcases List.mem_cons.1 hv with rfl | hv
    · exact h.one k.1
    · exact t.one k.2 v hv
theorem VRL.cells_one {φ : Emb} {b : Nat} {l : Loc} {v : Value} (h : φ b = some l) (hv : l.val = v) (h1 : opOk v = true) : VRL φ [.opq b] v.cells.toList := by
  have e : v.cells = #[v] := by
    cases v <;> first | rfl | cases h1
  rw [e]
  exact .cons (.opq h hv h1) .nil
theorem VR.cells {φ : Emb} {x : SV} {v : Value} (h : VR φ x v) : VRL φ x.cells v.cells.toList := by
  cases h with
  | agg h => exact h
  | opq h1 h2 h3 => exact VRL.cells_one h1 h2 h3
  | _ => exact .cons (by constructor <;> assumption) .nil
inductive OR (φ : Emb) (B : Nat) (w : World) (l : Loc) : Option SObj → Prop where
  | none : OR φ B w l none
  | dead : OR φ B w l (some .dead)
  | row {cs : List SV} {e : TypeId} {ex ro : Bool} {frz : Nat} {C : Array Value} {lo hi : Nat}
      (hb : w.heap[l.rb]? = some (.cells C e (lo, hi))) (hs : C.size = l.tot)
      (hc : ∀ (i : Nat) (x : SV), cs[i]? = some x → ∃ v, C[l.base + i]? = some v ∧ VR φ x v)
      (hl : l.base + cs.length ≤ l.tot)
      (hex : ex = true → l.base = 0 ∧ l.tot = cs.length)
      (hro : ro = false → B ≤ l.rb)
      (hfr : ro = false → ∀ i, l.base + frz ≤ i → (i < l.tot ∨ ex = true) → ¬(lo ≤ i ∧ i < hi)) : OR φ B w l (some (.row cs e ex ro frz))
  | map {es : List (SV × SV × Nat)} {es' : Array MapEntry} {ck : Nat}
      (hb : w.heap[l.rb]? = some (.map es' ck)) (hl : es.length = es'.size)
      (hc : ∀ (i : Nat) (k v : SV) (n : Nat), es[i]? = some (k, v, n) → ∃ e, es'[i]? = some e ∧ VR φ k e.key ∧ VR φ v e.val ∧ e.born = n)
      (hB : B ≤ l.rb) : OR φ B w l (some (.map es ck))
  | siter {s : List Nat} {t : ByteArray} {p : Nat} (hb : w.heap[l.rb]? = some (.stringIter t p)) (hs : s = t.data.toList.map UInt8.toNat) (hB : B ≤ l.rb) (h0 : l.base = 0) : OR φ B w l (some (.siter s p))
def live : Option SObj → Prop
  | some .dead => False
  | none => False
  | _ => True
structure HR (φ : Emb) (B : Nat) (H : Heap) (w : World) : Prop where
  dom : ∀ b l, φ b = some l → b < H.next ∧ l.rb < w.heap.size
  inj : ∀ b b' l l', φ b = some l → φ b' = some l' → l.rb = l'.rb → live (H.get b) → live (H.get b') → b = b'
  obj : ∀ b l, φ b = some l → OR φ B w l (H.get b)
  sz : B ≤ w.heap.size
theorem OR.mono {φ ψ : Emb} (hle : φ.le ψ) {B : Nat} {w w' : World} {l : Loc} {o : Option SObj} (h : OR φ B w l o) (hw : w'.heap[l.rb]? = w.heap[l.rb]?) : OR ψ B w' l o := by
  cases h with
  | none => exact .none
  | dead => exact .dead
  | row hb hs hc hl hex hro hfr => exact .row (hw.trans hb) hs (fun i x hx => let ⟨v, h1, h2⟩ := hc i x hx; ⟨v, h1, h2.mono hle⟩) hl hex hro hfr
  | map hb hl hc hB => exact .map (hw.trans hb) hl (fun i k v n hx => let ⟨e, h1, h2, h3, h4⟩ := hc i k v n hx; ⟨e, h1, h2.mono hle, h3.mono hle, h4⟩) hB
  | siter hb hs hB h0 => exact .siter (hw.trans hb) hs hB h0
theorem HR.fresh {φ : Emb} {B : Nat} {H : Heap} {w : World} (h : HR φ B H w) : φ H.next = none := by
  cases e : φ H.next with
  | none => rfl
  | some l => exact absurd (h.dom _ _ e).1 (Nat.lt_irrefl _)
theorem HR.world {φ : Emb} {B : Nat} {H : Heap} {w w' : World} (h : HR φ B H w) (hs : w.heap.size ≤ w'.heap.size) (hw : ∀ k, k < w.heap.size → w'.heap[k]? = w.heap[k]?) : HR φ B H w' where
  dom b l e := ⟨(h.dom b l e).1, Nat.lt_of_lt_of_le (h.dom b l e).2 hs⟩
  inj := h.inj
  obj b l e := (h.obj b l e).mono (Emb.le.refl φ) (hw _ (h.dom b l e).2)
  sz := Nat.le_trans h.sz hs
theorem HR.push {φ : Emb} {B : Nat} {H : Heap} {w w' : World} (h : HR φ B H w) {so : SObj} {o : Obj} {l : Loc} (hl : l.rb = w.heap.size)
    (hs : w'.heap.size = w.heap.size + 1) (hw : ∀ k, k < w.heap.size → w'.heap[k]? = w.heap[k]?)
    (ho : w'.heap[w.heap.size]? = some o → OR (φ.ins H.next l) B w' l (some so)) (hn : w'.heap[w.heap.size]? = some o) :
    HR (φ.ins H.next l) B (H.push so) w' where
  dom b m e := by
    unfold Emb.ins at e
    split at e
    · cases e; subst_vars; simp only [Heap.push]; omega
    · have := h.dom b m e; simp only [Heap.push]; omega
  inj b b' m m' e e' hr hb hb' := by
    unfold Emb.ins at e e'
    split at e <;> split at e'
    · subst_vars; rfl
    · cases e; have := (h.dom _ _ e').2; omega
    · cases e'; have := (h.dom _ _ e).2; omega
    · rename_i n n'
      rw [Heap.get_push, if_neg n] at hb
      rw [Heap.get_push, if_neg n'] at hb'
      exact h.inj b b' m m' e e' hr hb hb'
  obj b m e := by
    unfold Emb.ins at e
    split at e
    · rename_i eb
      cases e
      rw [Heap.get_push, if_pos eb]
      exact ho hn
    · rename_i n
      rw [Heap.get_push, if_neg n]
      exact (h.obj b m e).mono (Emb.le_ins h.fresh) (hw _ (h.dom b m e).2)
  sz := by have := h.sz; omega
theorem HR.change {φ : Emb} {B : Nat} {H : Heap} {w w' : World} (h : HR φ B H w) {b : Nat} {l : Loc} (hb : φ b = some l) (hlive : live (H.get b)) {so : SObj}
    (hs : w'.heap.size = w.heap.size) (hw : ∀ k, k ≠ l.rb → w'.heap[k]? = w.heap[k]?)
    (ho : OR φ B w' l (some so)) : HR φ B (H.put b so) w' where
  dom c m e := by have := h.dom c m e; simp only [Heap.put]; omega
  inj c c' m m' e e' hr hc hc' := by
    rw [Heap.get_put] at hc hc'
    refine h.inj c c' m m' e e' hr ?_ ?_
    · by_cases k : c = b
      · rw [k]; exact hlive
      · rwa [if_neg k] at hc
    · by_cases k : c' = b
      · rw [k]; exact hlive
      · rwa [if_neg k] at hc'
  obj c m e := by
    rw [Heap.get_put]
    split
    · rename_i k; subst k; rw [hb] at e; cases e; exact ho
    · rename_i k
      by_cases hr : m.rb = l.rb
      · cases hg : H.get c with
        | none => exact .none
        | some o =>
          cases o with
          | dead => exact .dead
          | _ => exact absurd (h.inj c b m l e hb hr (by rw [hg]; trivial) hlive) k
      · exact (h.obj c m e).mono (Emb.le.refl φ) (hw _ hr)
  sz := by have := h.sz; omega
end Go.Sh
end
section
namespace Go.Sh
open Go.RowKit (Below)
def setL (C : Array Value) : Nat → List Value → Array Value
  | _, [] => C
  | o, v :: r => setL (C.setIfInBounds o v) (o + 1) r
theorem setL_size : ∀ (vs : List Value) (C : Array Value) (o : Nat), (setL C o vs).size = C.size
  | [], _, _ => rfl
  | v :: r, C, o => by rw [setL, setL_size r]; simp
theorem setL_get : ∀ (vs : List Value) (C : Array Value) (o i : Nat), o + vs.length ≤ C.size → (setL C o vs)[i]? = if o ≤ i ∧ i < o + vs.length then vs[i - o]? else C[i]?
  | [], C, o, i, _ => by
    have : ¬(o ≤ i ∧ i < o + ([] : List Value).length) := by simp
    rw [if_neg this]
    rfl
  | v :: r, C, o, i, h => by
    simp only [List.length_cons] at h ⊢
    rw [setL, setL_get r _ (o + 1) i (by simp; omega), Array.getElem?_setIfInBounds]
    by_cases e : o = i
    · subst e
      rw [if_neg (by omega), if_pos rfl, if_pos (by omega), if_pos (by omega)]
      simp
    · by_cases g : o + 1 ≤ i ∧ i < o + 1 + r.length
      · rw [if_pos g, if_pos (by omega)]
        obtain ⟨k, rfl⟩ : ∃ k, i = o + 1 + k := ⟨i - (o + 1), by omega⟩
        rw [show o + 1 + k - (o + 1) = k by omega, show o + 1 + k - o = k + 1 by omega]
        simp
      · rw [if_neg g, if_neg e, if_neg (by omega)]
theorem World.heap_setCells_other (b k : Nat) (h : k ≠ b) : ∀ (vs : List Value) (o : Nat) (w : World), (w.setCells b o vs).heap[k]? = w.heap[k]?
  | [], _, _ => rfl
  | v :: r, o, w => by rw [World.setCells, World.heap_setCells_other b k h r]; exact Below.heap_setCell _ _ _ _ h
theorem World.heap_setCells_same (b : Nat) : ∀ (vs : List Value) (o : Nat) (w : World) (C : Array Value) (e : TypeId) (f : Nat × Nat), w.heap[b]? = some (.cells C e f) →
    (w.setCells b o vs).heap[b]? = some (.cells (setL C o vs) e f)
  | [], _, _, _, _, _, h => h
  | v :: r, o, w, C, e, f, h => by
    rw [World.setCells, setL]
    refine World.heap_setCells_same b r (o + 1) _ _ e f ?_
    simp [World.setCell, Array.getElem?_modify, h]
theorem World.size_setCells (b : Nat) : ∀ (vs : List Value) (o : Nat) (w : World), (w.setCells b o vs).heap.size = w.heap.size
  | [], _, _ => rfl
  | v :: r, o, w => by rw [World.setCells, World.size_setCells b r]; simp
theorem Below.setCells {B b : Nat} (hB : B ≤ b) : ∀ (vs : List Value) (o : Nat) (w : World), Below B w (w.setCells b o vs)
  | [], _, w => Below.refl B w
  | v :: r, o, w => by rw [World.setCells]; exact ((Below.refl B w).setCell hB v).trans (Below.setCells hB r (o + 1) _)
theorem cell?_at (w : World) (b o : Nat) (C : Array Value) (e : TypeId) (f : Nat × Nat) (h : w.heap[b]? = some (.cells C e f)) : w.cell? ⟨b, o, none⟩ = C[o]? := by
  simp [World.cell?, h]
theorem frozen?_at (w : World) (b o : Nat) (C : Array Value) (e : TypeId) (lo hi : Nat) (h : w.heap[b]? = some (.cells C e (lo, hi))) : w.frozen? ⟨b, o, none⟩ = (decide (lo ≤ o) && decide (o < hi)) := by
  simp [World.frozen?, h]
theorem VRL.of_cells {φ : Emb} {cs : List SV} {C : Array Value} {base o n : Nat} (hc : ∀ (i : Nat) (x : SV), cs[i]? = some x → ∃ v, C[base + i]? = some v ∧ VR φ x v) (hn : o + n ≤ cs.length) (hs : base + cs.length ≤ C.size) :
    VRL φ ((cs.drop o).take n) ((C.toList.drop (base + o)).take n) := by
  refine VRL.mk ?_ fun i x hx => ?_
  · simp
    omega
  · rw [List.getElem?_take] at hx ⊢
    split at hx
    · rename_i hi
      rw [List.getElem?_drop] at hx
      obtain ⟨v, hv, hr⟩ := hc _ _ hx
      exact ⟨v, by rw [if_pos hi, List.getElem?_drop, Array.getElem?_toList, Nat.add_assoc]; exact hv, hr⟩
    · cases hx
theorem storeC_next {H H' : Heap} {b o : Nat} {vs : List SV} (h : storeC H b o vs = some H') : H'.next = H.next := by
  unfold storeC at h
  split at h
  · split at h
    · cases h; rfl
    · cases h
  · cases h
section
variable {φ : Emb} {B : Nat} {H H' : Heap} {w : World} {b o n : Nat} {l : Loc} {cs : List SV}
theorem HR.load (hh : HR φ B H w) (hl : φ b = some l) (h : loadC H b o n = some cs) :
    ∃ vs : List Value, VRL φ cs vs ∧ vs.length = n ∧ (∀ (j : Nat) (v : Value), vs[j]? = some v → w.cell? ⟨l.rb, l.base + o + j, none⟩ = some v) ∧ l.base + o + n ≤ l.tot := by
  have ho := hh.obj b l hl
  unfold loadC at h
  split at h
  · rename_i xs e ex ro frz hg
    rw [hg] at ho
    cases ho with
    | row hb hs hc hlen hex hro hfr =>
      rename_i C lo hi
      split at h
      · rename_i hle
        cases h
        have hle' := Nat.le_of_ble_eq_true hle
        refine ⟨_, VRL.of_cells hc hle' (by omega), by simp; omega, fun j v hv => ?_, by omega⟩
        rw [cell?_at w _ _ C e _ hb]
        rw [List.getElem?_take] at hv
        split at hv
        · rw [List.getElem?_drop, Array.getElem?_toList] at hv; exact hv
        · cases hv
      · cases h
  · cases h
theorem HR.live_row {xs : List SV} {e : TypeId} {ex ro : Bool} {frz : Nat} (h : H.get b = some (.row xs e ex ro frz)) : live (H.get b) := by rw [h]; trivial
theorem HR.store (hh : HR φ B H w) (hl : φ b = some l) (h : storeC H b o cs = some H') {vs : List Value} (hv : VRL φ cs vs) :
    (∀ j, j < vs.length → (w.cell? ⟨l.rb, l.base + o + j, none⟩).isSome = true) ∧ (∀ j, j < vs.length → w.frozen? ⟨l.rb, l.base + o + j, none⟩ = false) ∧ (∀ v ∈ vs, v.oneCell' = true) ∧
    HR φ B H' (w.setCells l.rb (l.base + o) vs) ∧ Below B w (w.setCells l.rb (l.base + o) vs) := by
  have ho := hh.obj b l hl
  unfold storeC at h
  split at h
  · rename_i xs e ex frz hg
    have hlive := HR.live_row hg
    rw [hg] at ho
    cases ho with
    | row hb hs hc hlen hex hro hfr =>
      rename_i C lo hi
      split at h
      · rename_i hcond
        cases h
        simp only [Bool.and_eq_true] at hcond
        obtain ⟨⟨hle, hf⟩, hone⟩ := hcond
        have hle := Nat.le_of_ble_eq_true hle
        have hf := Nat.le_of_ble_eq_true hf
        have hlv := hv.length
        have hB := hro rfl
        refine ⟨fun j hj => ?_, fun j hj => ?_, hv.one hone, ?_, Below.setCells hB _ _ _⟩
        · rw [cell?_at w _ _ C e _ hb]
          simp; omega
        · rw [frozen?_at w _ _ C e lo hi hb]
          have := hfr rfl (l.base + o + j) (by omega) (.inl (by omega))
          simp at this ⊢
          omega
        · refine hh.change hl hlive (World.size_setCells _ _ _ _) (fun k hk => World.heap_setCells_other _ _ hk _ _ _) ?_
          have hb' := World.heap_setCells_same l.rb vs (l.base + o) w C e (lo, hi) hb
          refine .row hb' (by rw [setL_size, hs]) (fun i x hx => ?_) ?_ ?_ hro hfr
          · rw [setL_get _ _ _ _ (by omega)]
            rw [List.getElem?_append] at hx
            split at hx
            · rename_i hi1
              rw [List.getElem?_take] at hx
              simp only [List.length_take] at hi1
              rw [if_pos (by omega)] at hx
              rw [if_neg (by omega)]
              exact hc i x hx
            · rename_i hi1
              simp only [List.length_take] at hi1 hx
              rw [List.getElem?_append] at hx
              split at hx
              · rename_i hi2
                rw [if_pos (by omega)]
                obtain ⟨v, h1, h2⟩ := hv.get _ _ hx
                exact ⟨v, by rw [← h1]; congr 1; omega, h2⟩
              · rename_i hi2
                rw [List.getElem?_drop] at hx
                rw [if_neg (by omega)]
                obtain ⟨v, h1, h2⟩ := hc _ _ hx
                exact ⟨v, by rw [← h1]; congr 1; omega, h2⟩
          · simp; omega
          · intro hx
            obtain ⟨h1, h2⟩ := hex hx
            exact ⟨h1, by simp; omega⟩
      · cases h
  · cases h
theorem HR.alloc (hh : HR φ B H w) {vs : Array Value} {e : TypeId} (hv : VRL φ cs vs.toList) :
    HR (φ.ins H.next ⟨w.heap.size, 0, vs.size, .bool false⟩) B (H.push (.row cs e true false 0)) (w.alloc (.cells vs e)) ∧ Below B w (w.alloc (.cells vs e)) := by
  refine ⟨hh.push (l := ⟨w.heap.size, 0, vs.size, .bool false⟩) (o := .cells vs e) rfl (by simp) (fun k hk => Below.heap_alloc _ _ _ hk) (fun hn => ?_) (heap_alloc_new w _), (Below.refl _ _).alloc hh.sz _⟩
  have hlen := hv.length
  simp only [Array.length_toList] at hlen
  refine .row (lo := 0) (hi := 0) hn rfl (fun i x hx => ?_) (by simp [hlen]) (fun _ => ⟨rfl, hlen.symm⟩) (fun _ => hh.sz) (fun _ i _ _ => by omega)
  obtain ⟨v, h1, h2⟩ := hv.get i x hx
  exact ⟨v, by simpa using h1, h2.mono (Emb.le_ins hh.fresh)⟩
theorem HR.allocMore (hh : HR φ B H w) {vs : Array Value} {us : List Value} {e : TypeId} (hv : VRL φ cs us) (hpre : ∀ (i : Nat) (v : Value), us[i]? = some v → vs[i]? = some v) (hsz : us.length ≤ vs.size) {w0 : World} (hw0 : w0.heap = w.heap) (hb0 : Below B w w0) :
    HR (φ.ins H.next ⟨w.heap.size, 0, vs.size, .bool false⟩) B (H.push (.row cs e false false 0)) (w0.alloc (.cells vs e)) ∧ Below B w (w0.alloc (.cells vs e)) := by
  have hs0 : w0.heap.size = w.heap.size := by rw [hw0]
  refine ⟨hh.push (l := ⟨w.heap.size, 0, vs.size, .bool false⟩) (o := .cells vs e) rfl (by simp [hs0]) (fun k hk => by rw [Below.heap_alloc _ _ _ (by omega), hw0]) (fun hn => ?_) (by rw [← hs0]; exact heap_alloc_new w0 _), hb0.alloc (by rw [hs0]; exact hh.sz) _⟩
  have hlen := hv.length
  refine .row (lo := 0) (hi := 0) hn rfl (fun i x hx => ?_) (by simp; omega) (fun h => by cases h) (fun _ => hh.sz) (fun _ i _ _ => by omega)
  obtain ⟨v, h1, h2⟩ := hv.get i x hx
  exact ⟨v, by simpa using hpre i v h1, h2.mono (Emb.le_ins hh.fresh)⟩
theorem HR.frz {ψ : Emb} {cs : List SV} {e : TypeId} {frz : Nat} (h : HR ψ B (H.push (.row cs e false false 0)) w) : HR ψ B (H.push (.row cs e false false frz)) w where
  dom := h.dom
  inj b b' l l' e1 e2 hr hb hb' := by
    have key : ∀ c, live ((H.push (.row cs e false false frz)).get c) → live ((H.push (.row cs e false false 0)).get c) := by
      intro c hc
      rw [Heap.get_push] at hc ⊢
      split at hc
      · rw [if_pos ‹_›]; trivial
      · rw [if_neg ‹_›]; exact hc
    exact h.inj b b' l l' e1 e2 hr (key _ hb) (key _ hb')
  obj b l e1 := by
    have := h.obj b l e1
    rw [Heap.get_push] at this ⊢
    split at this
    · rw [if_pos ‹_›]
      cases this with
      | row hb hs hc hl hex hro hfr => exact .row hb hs hc hl (fun h => by cases h) hro (fun h0 i h1 h2 => hfr h0 i (by omega) (h2.elim .inl (fun h => by cases h)))
    · rw [if_neg ‹_›]; exact this
  sz := h.sz
end
end Go.Sh
end
section
namespace Go.Sh
def mapO {α β : Type} (f : α → Option β) : List α → Option (List β)
  | [] => some []
  | x :: xs => match f x with
    | some y => match mapO f xs with
      | some ys => some (y :: ys)
      | none => none
    | none => none
def cv : Nat → Value → Option SV
  | 0, _ => none
  | n + 1, v => match v with
    | .bool b => some (.bool b)
    | .int k i => some (.int k i)
    | .string s => some (.str (s.data.toList.map UInt8.toNat))
    | .pointer none => some .nilp
    | .slice none 0 0 => some .nils
    | .map none => some .nilm
    | .nilFunc => some .nilf
    | .nilIface => some .nili
    | .iface t v => match cv n v with
      | some x => some (.iface t x)
      | none => none
    | .agg vs => match mapO (cv n) vs.toList with
      | some xs => some (.agg xs)
      | none => none
    | .tuple vs => match mapO (cv n) vs.toList with
      | some xs => some (.tup xs)
      | none => none
    | .func (.func f) fs cs => match mapO (cv n) fs.toList, mapO (cv n) cs.toList with
      | some xs, some ys => some (.func f xs ys)
      | _, _ => none
    | _ => none
def cvd : Value → Option SV := cv 8
def compX : Operand → Option X
  | .tmp t => some (.t t)
  | .const v => match cvd v with
    | some x => some (.c x)
    | none => none
  | .global _ => none
  | .func f => some (.c (.func f [] []))
def compXs (xs : Array Operand) : Option (List X) := mapO compX xs.toList
def compXo : Option Operand → Option (Option X)
  | none => some none
  | some x => match compX x with
    | some y => some (some y)
    | none => none
structure TI where
  size : Nat
  bytes : Nat
  agg : Bool
  zero : List SV
  zeroV : SV
def tinfo (P : Program) (t : TypeId) : Option TI :=
  match P.info? t with
  | none => none
  | some i => match P.underlying t with
    | none => none
    | some d => match i.zero with
      | none => none
      | some z => match cvd z with
        | none => none
        | some z' =>
          let agg := match d with | .struct _ => true | .array _ _ => true | _ => false
          match Nat.beq z'.cells.length i.size && Nat.blt 0 i.size && z'.cells.all SV.one with
          | true => some ⟨i.size, i.bytes, agg, z'.cells, z'⟩
          | false => none
def placesS (P : Program) (fields : Array Field) : List (Nat × Operand) → Option (List (Nat × Nat × X))
  | [] => some []
  | (i, x) :: rest => match fields[i]? with
    | none => none
    | some f => match P.info? f.type, compX x, placesS P fields rest with
      | some j, some y, some r => some ((f.offset, j.size, y) :: r)
      | _, _, _ => none
def placesA (size : Nat) : List (Nat × Operand) → Option (List (Nat × Nat × X))
  | [] => some []
  | (i, x) :: rest => match compX x, placesA size rest with
    | some y, some r => some ((i * size, size, y) :: r)
    | _, _ => none
def leaves (P : Program) : Nat → TypeId → Option (List (Nat × Nat))
  | 0, _ => none
  | n + 1, t => match P.underlying t with
    | some .bool => some [(0, 0)]
    | some (.int _) => some [(0, 1)]
    | some .string => some [(0, 2)]
    | some (.struct fs) => match P.stoodInHeld t with
      | true => none
      | false => match mapO (fun (f : Field) => match f.name == "_" with
          | true => none
          | false => match leaves P n f.type with
            | some L => match P.info? f.type with
              | some j => match L.all (fun p => Nat.blt p.1 j.size) with
                | true => some (L.map fun p => (f.offset + p.1, p.2))
                | false => none
              | none => none
            | none => none) fs.toList with
        | some Ls => some Ls.flatten
        | none => none
    | _ => none
def isAggT (P : Program) (t : TypeId) : Bool := match P.underlying t with | some (.struct _) => true | some (.array _ _) => true | _ => false
def isNilX : Operand → Bool
  | .const (.pointer none) => true
  | .const (.slice none 0 0) => true
  | .const (.map none) => true
  | .const .nilFunc => true
  | .const .nilIface => true
  | _ => false
inductive SK where
  | op (so : SOp)
  | call (f : FuncId) (args : List X)
  | calld (f : X) (args : List X)
  | inv (x : X) (tab : TypeId → Option FuncId) (args : List X)
def kindD (d : TypeDesc) : Option Nat :=
  match d with
  | .pointer _ => some 0
  | .slice _ => some 1
  | .map _ _ => some 2
  | .func _ _ _ => some 3
  | .interface _ => some 4
  | _ => none
def compBin (P : Program) (op : BinOp) (t : TypeId) (x y : Operand) : Option SOp :=
  match compX x, compX y with
  | some x', some y' =>
    match op with
    | .eql | .neq =>
      let neg := match op with | .neq => true | _ => false
      match P.underlying t with
      | some (.int _) => some (.bin op x' y')
      | some .string => some (.bin op x' y')
      | some .bool => some (.eqf neg false [(0, 0)] x' y')
      | some (.struct _) => match leaves P 6 t, P.eqGuardType P.depth t with
        | some L, false => some (.eqf neg true L x' y')
        | _, _ => none
      | some d => match kindD d, isNilX x || isNilX y with
        | some k, true => some (.eqn neg k x' y')
        | _, false => match d with
          | .pointer e => match tinfo P e with
            | some _ => some (.eqp neg x' y')
            | none => none
          | _ => none
        | _, _ => none
      | none => none
    | _ => some (.bin op x' y')
  | _, _ => none
def cvbChk (P : Program) (u e : TypeId) (n off : Nat) : Bool := liesAt P P.depth e (n / P.cellsOf e) off u 1
def compConv (P : Program) (s d : TypeId) (x : Operand) : Option SOp :=
  match compX x with
  | none => none
  | some x' => match P.underlying s, P.underlying d with
    | some _, some (.int k) => some (.cvi k x')
    | some .string, some .string => some (.cvs x')
    | some .string, some (.slice e) => match P.underlying e with
      | some (.int .u8) => some (.cvsb e x')
      | _ => none
    | some (.slice e), some .string => match P.underlying e with
      | some (.int .u8) => some (.cvbs x')
      | _ => none
    | some (.pointer e), some .unsafePointer => match tinfo P e with
      | some _ => some (.cvu x')
      | none => none
    | some .unsafePointer, some (.pointer u) => match tinfo P u with
      | some _ => some (.cvb (cvbChk P u) x')
      | none => none
    | some (.int _), some .string => some (.cvis x')
    | _, _ => none
def compSlice (P : Program) (t : TypeId) (x : Operand) (lo hi mx : Option Operand) : Option SOp :=
  match compX x, compXo lo, compXo hi, compXo mx with
  | some x', some lo', some hi', some mx' =>
    match P.underlying t with
    | some .string => match mx' with
      | none => some (.sls lo' hi' x')
      | some _ => none
    | some (.slice e) => match tinfo P e with
      | some i => some (.slv i.size lo' hi' mx' x')
      | none => none
    | some (.array n e) => match tinfo P e, mx' with
      | some i, none => some (.sla n i.size lo' hi' x')
      | _, _ => none
    | _ => none
  | _, _, _, _ => none
def compBuiltin (P : Program) (b : Builtin) (args : Array Operand) (ats : Array TypeId) : Option SOp :=
  match b, args.toList, ats.toList with
  | .len, [x], [t] => match P.underlying t, compX x with
    | some .string, some x' => some (.lens x')
    | some (.slice _), some x' => some (.lenl x')
    | some (.map _ _), some x' => some (.lenm x')
    | some (.array n _), some _ => some (.lenk n)
    | _, _ => none
  | .append, [s, x], [t, u] => match P.underlying t, compX s, compX x with
    | some (.slice e), some s', some x' => match tinfo P e, P.underlying u with
      | some i, some (.slice _) => some (.app false e i.size i.bytes s' x')
      | some i, some .string => match Nat.beq i.size 1 with
        | true => some (.app true e i.size i.bytes s' x')
        | false => none
      | _, _ => none
    | _, _, _ => none
  | .min, xs, _ => match mapO compX xs with
    | some ys => some (.mnx false ys)
    | none => none
  | .max, xs, _ => match mapO compX xs with
    | some ys => some (.mnx true ys)
    | none => none
  | .copy, [d, s], [t, u] => match P.underlying t, compX d, compX s with
    | some (.slice e), some d', some s' => match tinfo P e, P.underlying u with
      | some i, some (.slice _) => some (.cpy false i.size d' s')
      | some i, some .string => match Nat.beq i.size 1 with
        | true => some (.cpy true i.size d' s')
        | false => none
      | _, _ => none
    | _, _, _ => none
  | .unsafeSliceData, [x], [t] => match P.underlying t, compX x with
    | some (.slice _), some x' => some (.usd x')
    | _, _ => none
  | .unsafeString, [p, n], [t, _] => match P.underlying t, compX p, compX n with
    | some (.pointer e), some p', some n' => match tinfo P e with
      | some i => match Nat.beq i.size 1 with
        | true => some (.ust e p' n')
        | false => none
      | none => none
    | _, _, _ => none
  | _, _, _ => none
def compExt (P : Program) (f : FuncId) (args : Array Operand) : Option SOp :=
  match P.funcs[f]? with
  | some fn => match fn.body.isNone && fn.origin == "" with
    | true => match mapO compX args.toList with
      | some [] => match fn.name == "internal/race.Disable" || fn.name == "internal/race.Enable" with
        | true => some (.xnop none)
        | false => none
      | some [x] => match fn.name == "internal/abi.NoEscape" with
        | true => some (.mv x)
        | false => match fn.name == "internal/race.Acquire" || fn.name == "internal/race.ReleaseMerge" with
          | true => some (.xnop (some x))
          | false => match fn.name == "sync/atomic.LoadUint32" with
            | true => some (.xld .u32 x)
            | false => none
      | some [x, y] => match fn.name == "internal/bytealg.IndexByteString" with
        | true => some (.xib x y)
        | false => match fn.name == "internal/bytealg.CountString" with
          | true => some (.xcn x y)
          | false => match fn.name == "sync/atomic.StoreUint32" with
            | true => some (.xst x y)
            | false => match fn.name == "sync/atomic.AddInt32" with
              | true => some (.xadd .i32 x y)
              | false => none
      | some [x, y, z] => match fn.name == "sync/atomic.CompareAndSwapInt32" with
        | true => some (.xcas .i32 x y z)
        | false => none
      | _ => none
    | false => none
  | none => none
def compOp (P : Program) (o : Oper) : Option SOp :=
  match o.op with
  | .move x => match compX x with
    | some y => some (.mv y)
    | none => none
  | .assign x => match compX x with
    | some y => some (.mv y)
    | none => none
  | .pick c a b => match compX c, compX a, compX b with
    | some c, some a, some b => some (.pick c a b)
    | _, _, _ => none
  | .alloc e => match tinfo P e with
    | some i => some (.alloc i.zero e)
    | none => none
  | .box e x => match compX x with
    | some y => some (.box e y)
    | none => none
  | .build t parts => match tinfo P t, P.underlying t with
    | some i, some (.struct fs) => match placesS P fs parts.toList, fs.toList.all (fun f => (P.info? f.type).isSome) with
      | some ps, true => some (.build i.zero ps)
      | _, _ => none
    | some i, some (.array _ e) => match P.info? e with
      | some j => match placesA j.size parts.toList with
        | some ps => some (.build i.zero ps)
        | none => none
      | none => none
    | _, _ => none
  | .buildSlice t len parts => match P.underlying t with
    | some (.slice e) => match tinfo P e with
      | some i => match placesA i.size parts.toList, Nat.ble (len * i.size) 16777216 with
        | some ps, true => some (.bslice e i.size len (List.replicate len i.zero).flatten ps)
        | _, _ => none
      | none => none
    | _ => none
  | .load t a => match tinfo P t, compX a with
    | some i, some a => some (.load i.agg i.size a)
    | _, _ => none
  | .store t a x => match tinfo P t, compX a, compX x with
    | some i, some a, some x => some (.store i.size a x)
    | _, _, _ => none
  | .nilCheck x => match compX x with
    | some y => some (.nilc y)
    | none => none
  | .binOp op t x y _ => match compBin P op t x y with
    | some so => some so
    | none => none
  | .unOp op _ x => match compX x with
    | some y => some (.un op y)
    | none => none
  | .convert s d x => match compConv P s d x with
    | some so => some so
    | none => none
  | .makeInterface t x => match P.underlying t, compX x with
    | some (.interface _), _ => none
    | some _, some y => some (.mki t y)
    | _, _ => none
  | .makeFunc (.func f) first captured => match compXs first, compXs captured with
    | some xs, some ys => some (.mkf f xs ys)
    | _, _ => none
  | .makeMap _ none => some .mkm
  | .makeSlice t l c => match P.underlying t with
    | some (.slice e) => match tinfo P e, compX l, compX c with
      | some i, some l, some c => some (.mks e i.size i.bytes i.zero l c)
      | _, _, _ => none
    | _ => none
  | .slice t x lo hi mx => match compSlice P t x lo hi mx with
    | some so => some so
    | none => none
  | .fieldAddr s x f => match P.underlying s, compX x with
    | some (.struct fs), some y => match fs[f]? with
      | some fd => match tinfo P fd.type with
        | some _ => some (.fad fd.offset y)
        | none => none
      | none => none
    | _, _ => none
  | .field t x f => match P.underlying t, compX x with
    | some (.struct fs), some y => match fs[f]? with
      | some fd => match tinfo P fd.type with
        | some i => some (.fld i.agg i.size fd.offset y)
        | none => none
      | none => none
    | _, _ => none
  | .indexAddr t x i => match P.underlying t, compX x, compX i with
    | some (.slice e), some x, some i => match tinfo P e with
      | some ti => some (.iad ti.size x i)
      | none => none
    | some (.array n e), some x, some i => match tinfo P e with
      | some ti => some (.iaa n ti.size x i)
      | none => none
    | _, _, _ => none
  | .index t x i => match P.underlying t, compX x, compX i with
    | some .string, some x, some i => some (.ixs x i)
    | some (.array n e), some x, some i => match tinfo P e with
      | some ti => some (.ixa n ti.agg ti.size x i)
      | none => none
    | _, _, _ => none
  | .lookup t m k ok => match P.underlying t with
    | some (.map key elem) => match leaves P 6 key, tinfo P elem, compX m, compX k with
      | some L, some i, some m, some k => some (.lku (isAggT P key) L i.zeroV ok m k)
      | _, _, _, _ => none
    | _ => none
  | .mapUpdate t m k v => match P.underlying t with
    | some (.map key _) => match leaves P 6 key, compX m, compX k, compX v with
      | some L, some m, some k, some v => some (.mup (isAggT P key) L m k v)
      | _, _, _, _ => none
    | _ => none
  | .extract x i => match compX x with
    | some y => some (.ext i y)
    | none => none
  | .typeAssert x _ t ok => match P.underlying t with
    | some (.interface _) => none
    | some _ => match tinfo P t, compX x with
      | some i, some y => some (.tas t i.zeroV ok y)
      | _, _ => none
    | none => none
  | .range t x => match P.underlying t, compX x with
    | some .string, some y => some (.rng y)
    | _, _ => none
  | .next x b => match b, compX x with
    | true, some y => some (.nxt y)
    | _, _ => none
  | .call c => match c.callee with
    | .builtin b => match compBuiltin P b c.args c.argTypes with
      | some so => some so
      | none => none
    | .value (.func f) => match compExt P f c.args with
      | some so => some so
      | none => none
    | _ => none
  | _ => none
def invTab (P : Program) (m : String) (t : TypeId) : Option FuncId :=
  match P.info? t with
  | none => none
  | some i => match i.methods.find? (·.name == m) with
    | none => none
    | some r => match r.path.toList, r.func, P.underlying t with
      | [], some (f, true), some (.pointer _) => some f
      | [], some (_, false), some (.pointer _) => none
      | [], some (f, false), some _ => some f
      | _, _, _ => none
def compCall (P : Program) (c : Call) : Option SK :=
  match c.callee with
  | .value (.func f) => match P.funcs[f]?, compXs c.args with
    | some fn, some xs => match fn.body.isSome && !(fn.name == "runtime.NumGoroutine") with
      | true => some (.call f xs)
      | false => none
    | _, _ => none
  | .value x => match compX x, compXs c.args with
    | some y, some xs => some (.calld y xs)
    | _, _ => none
  | .invoke x m => match compX x, compXs c.args with
    | some y, some xs => some (.inv y (invTab P m) xs)
    | _, _ => none
  | .builtin _ => none
def sliceFine (o : Oper) : Bool :=
  match o.op with
  | .slice _ _ _ hi mx => mx.isNone || hi.isSome
  | _ => true
def compK (P : Program) (o : Oper) : Option SK :=
  match compOp P o with
  | some so => match sliceFine o with
    | true => some (.op so)
    | false => some (.op .bad)
  | none => match o.op with
    | .call c => match compCall P c with
      | some k => some k
      | none => some (.op .bad)
    | _ => some (.op .bad)
end Go.Sh
end
section
namespace Go.Sh
structure SOper where
  dst : Option Nat
  k : SK
  guard : Option (Nat × Bool)
inductive DK where
  | pure
  | read (lo hi : Nat)
  | eff
  | hoist (lo hi : Nat)
inductive SCode where
  | skip
  | reg (ops : List SOper)
  | dreg (ops : List (SOper × DK)) (swap : Bool)
  | seq (a b : SCode)
  | cond (c : X) (a b : SCode)
  | block (id : Nat) (b : SCode)
  | loop (b : SCode)
  | exit (id : Nat)
  | ret
  | bad
  | regd (ops : List SOper) (x : X) (xs : List X)
abbrev DS := List (FuncId × List SV)
inductive SExit where
  | normal
  | exit (id : Nat)
  | ret
abbrev CallS := FuncId → List SV → Heap → Option (SV × Heap)
def evalK (call : CallS) (k : SK) (ts : T) (H : Heap) : Option (SV × Heap) :=
  match k with
  | .op so => evalOp so ts H
  | .call f xs => call f (evs ts xs) H
  | .calld x xs => match x.ev ts with
    | .func f fs cs => call f (fs ++ (evs ts xs ++ cs)) H
    | _ => none
  | .inv x tab xs => match x.ev ts with
    | .iface t v => match tab t with
      | some f => call f (v :: evs ts xs) H
      | none => none
    | _ => none
def putT (ts : T) (dst : Option Nat) (v : SV) : T :=
  match dst with
  | none => ts
  | some d => ts.set d v
def wantedS (ts : T) : Option (Nat × Bool) → Bool
  | none => true
  | some (t, want) => match ts.getD t SV.undef with
    | .bool true => want
    | .bool false => !want
    | _ => false
def evalOps (call : CallS) : List SOper → T → Heap → Option (T × Heap)
  | [], ts, H => some (ts, H)
  | o :: os, ts, H =>
    match wantedS ts o.guard with
    | true => match evalK call o.k ts H with
      | some (v, H') => evalOps call os (putT ts o.dst v) H'
      | none => none
    | false => evalOps call os (putT ts o.dst .undef) H
/-! ### Regions that draw their order -/
def beqOne : SV → SV → Bool
  | .bool a, .bool b => a == b
  | .int k a, .int k' b => decide (k = k') && decide (a = b)
  | .str a, .str b => eqS a b
  | .ptr a b, .ptr c d => Nat.beq a c && Nat.beq b d
  | .nilp, .nilp => true
  | .slice a b c d e, .slice a' b' c' d' e' => Nat.beq a a' && Nat.beq b b' && Nat.beq c c' && decide (d = d') && Nat.beq e e'
  | .nils, .nils => true
  | .map a, .map b => Nat.beq a b
  | .nilm, .nilm => true
  | .func f [] [], .func g [] [] => Nat.beq f g
  | .nilf, .nilf => true
  | .nili, .nili => true
  | _, _ => false
def beqList : List SV → List SV → Bool
  | [], [] => true
  | x :: xs, y :: ys => beqOne x y && beqList xs ys
  | _, _ => false
def beqS : SV → SV → Bool
  | .agg xs, .agg ys => beqList xs ys
  | .tup xs, .tup ys => beqList xs ys
  | .iface t x, .iface u y => Nat.beq t u && beqOne x y
  | x, y => beqOne x y
def quietOp (k : SK) (ts : T) (H : Heap) : Option SV :=
  match k with
  | .op so => match evalOp so ts H with
    | some (v, _) => some v
    | none => none
  | _ => none
def foreT (o : SOper) (dk : DK) (ts : T) (H : Heap) : T :=
  match dk with
  | .eff => ts
  | _ => match wantedS ts o.guard with
    | true => match quietOp o.k ts H with
      | some v => putT ts o.dst v
      | none => ts
    | false => putT ts o.dst .undef
def hoistD : List (SOper × DK) → T → Heap → Option (List SV × Heap)
  | [], _, H => some ([], H)
  | (o, dk) :: os, ts, H => match dk with
    | .hoist _ _ => match o.k with
      | .op so => match evalOp so ts H with
        | some (v, H') => match hoistD os (putT ts o.dst v) H' with
          | some (vs, H'') => some (v :: vs, H'')
          | none => none
        | none => none
      | _ => none
    | _ => match hoistD os (foreT o dk ts H) H with
      | some (vs, H') => some (.undef :: vs, H')
      | none => none
def textD (call : CallS) : List (SOper × DK) → List SV → T → Heap → Option (List T × List SV × List Heap × T)
  | [], _, ts, H => some ([], [], [H], ts)
  | _ :: _, [], _, _ => none
  | (o, dk) :: os, hv :: hvs, ts, H =>
    match dk with
    | .eff =>
      let r : Option (SV × Heap) := match wantedS ts o.guard with
        | true => evalK call o.k ts H
        | false => some (.undef, H)
      match r with
      | none => none
      | some (v, H') => match textD call os hvs (putT ts o.dst v) H' with
        | some (tss, vs, hs, tn) => some (ts :: tss, v :: vs, H :: hs, tn)
        | none => none
    | _ =>
      let r : Option SV := match wantedS ts o.guard with
        | true => match dk with
          | .hoist _ _ => some hv
          | _ => quietOp o.k ts H
        | false => some .undef
      match r with
      | none => none
      | some v => match textD call os hvs (putT ts o.dst v) H with
        | some (tss, vs, hs, tn) => some (ts :: tss, v :: vs, hs, tn)
        | none => none
def allFrom (p : Heap → Bool) : List Heap → Nat → Nat → Bool
  | [], _, _ => true
  | h :: hs, lo, hi => match lo with
    | 0 => p h && (match hi with
      | 0 => true
      | hi + 1 => allFrom p hs 0 hi)
    | lo + 1 => match hi with
      | 0 => true
      | hi + 1 => allFrom p hs lo hi
def SV.flat : SV → Bool
  | .bool _ | .int _ _ | .str _ | .nilp | .nils | .nilm | .nilf | .nili => true
  | _ => false
def SV.under (b : Nat) : SV → Bool
  | .ptr c _ => Nat.blt c b
  | .slice c _ _ _ _ => Nat.blt c b
  | .map c => Nat.blt c b
  | v => v.flat
def rowIs (zero : List SV) (elem : TypeId) (b : Nat) (H : Heap) : Bool :=
  match H.get b with
  | some (.row cs e true false 0) => zero.all (SV.under b) && beqList cs zero && Nat.beq e elem
  | _ => false
def readsD (hs : List Heap) : List (SOper × DK) → List T → List SV → Bool
  | [], _, _ => true
  | (o, dk) :: os, t :: tss, v :: vs =>
    (match wantedS t o.guard with
      | false => true
      | true => match dk with
        | .read lo hi => allFrom (fun H => match quietOp o.k t H with | some u => beqS u v | none => false) hs lo hi
        | .hoist lo hi => match o.k, v with
          | .op (.alloc zero elem), .ptr b 0 => allFrom (rowIs zero elem b) hs lo hi
          | .op (.bslice elem _ _ zero parts), .slice b 0 _ _ _ => match fillS t zero parts with
            | some cs => allFrom (rowIs cs elem b) hs lo hi
            | none => false
          | _, _ => false
        | _ => true) && readsD hs os tss vs
  | _ :: _, _, _ => false
def effsD : List (SOper × DK) → Nat → List Nat
  | [], _ => []
  | (_, .eff) :: os, i => i :: effsD os (i + 1)
  | _ :: os, i => effsD os (i + 1)
def swapD (ops : List (SOper × DK)) (tss : List T) : Bool :=
  match (effsD ops 0).reverse with
  | j :: i :: _ => match ops[i]?, ops[j]?, tss[i]?, tss[j]? with
    | some (⟨_, .op (.store _ a _), none⟩, _), some (⟨_, .op (.store _ b _), none⟩, _), some t, some u => match a.ev t, b.ev u with
      | .ptr x _, .ptr y _ => !Nat.beq x y
      | _, _ => false
    | _, _, _, _ => false
  | _ => false
def evalD (call : CallS) (ops : List (SOper × DK)) (swap : Bool) (ts : T) (H : Heap) : Option (T × Heap) :=
  match hoistD ops ts H with
  | none => none
  | some (hvs, H0) => match textD call ops hvs ts H0 with
    | none => none
    | some (tss, vs, hs, tn) => match readsD hs ops tss vs && (!swap || swapD ops tss) with
      | false => none
      | true => match hs.getLast? with
        | some Hn => some (tn, Hn)
        | none => none
/-! ### Code -/
def loopN (body : T → DS → Heap → Option (SExit × T × DS × Heap)) : Nat → T → DS → Heap → Option (SExit × T × DS × Heap)
  | 0, _, _, _ => none
  | n + 1, ts, D, H => match body ts D H with
    | some (.normal, ts', D', H') => loopN body n ts' D' H'
    | r => r
def evalC (call : CallS) (lf : Nat) : SCode → T → DS → Heap → Option (SExit × T × DS × Heap)
  | .skip, ts, D, H => some (.normal, ts, D, H)
  | .reg ops, ts, D, H => match evalOps call ops ts H with
    | some (ts', H') => some (.normal, ts', D, H')
    | none => none
  | .dreg ops swap, ts, D, H => match evalD call ops swap ts H with
    | some (ts', H') => some (.normal, ts', D, H')
    | none => none
  | .regd ops x xs, ts, D, H => match evalOps call ops ts H with
    | some (ts', H') => match x.ev ts' with
      | .func f fs cs => some (.normal, ts', (f, fs ++ (evs ts' xs ++ cs)) :: D, H')
      | _ => none
    | none => none
  | .seq a b, ts, D, H => match evalC call lf a ts D H with
    | some (.normal, ts', D', H') => evalC call lf b ts' D' H'
    | r => r
  | .cond c a b, ts, D, H => match c.ev ts with
    | .bool true => evalC call lf a ts D H
    | .bool false => evalC call lf b ts D H
    | _ => none
  | .block id b, ts, D, H => match evalC call lf b ts D H with
    | some (.exit id', ts', D', H') => match Nat.beq id' id with
      | true => some (.normal, ts', D', H')
      | false => some (.exit id', ts', D', H')
    | r => r
  | .loop b, ts, D, H => loopN (evalC call lf b) lf ts D H
  | .exit id, ts, D, H => some (.exit id, ts, D, H)
  | .ret, ts, D, H => some (.ret, ts, D, H)
  | .bad, _, _, _ => none
inductive SRes where
  | tmp (t : Nat)
  | cell (t : Nat) (agg : Bool) (n : Nat)
structure SFunc where
  ntmps : Nat
  results : List SRes
  body : SCode
def resOne (ts : T) (H : Heap) : SRes → Option SV
  | .tmp t => some (ts.getD t SV.undef)
  | .cell t agg n => match ts.getD t SV.undef with
    | .ptr b o => match loadC H b o n with
      | some cs => match agg with
        | true => some (.agg cs)
        | false => match cs with
          | [v] => some v
          | _ => none
      | none => none
    | _ => none
def resS (rs : List SRes) (ts : T) (H : Heap) : Option SV :=
  match mapO (resOne ts H) rs with
  | some [v] => some v
  | some vs => some (.tup vs)
  | none => none
inductive SFun where
  | code (f : SFunc)
  | native (g : List SV → Heap → Option (SV × Heap))
  | dnative (g : List SV → Bool)
def callD (tab : FuncId → Option SFun) (call : CallS) (lf : Nat) (f : FuncId) (args : List SV) (H : Heap) : Option Heap :=
  match tab f with
  | some (.dnative g) => match g args with
    | true => some H
    | false => none
  | some (.code sf) => match evalC call lf sf.body (args ++ List.replicate (sf.ntmps - args.length) SV.undef) [] H with
    | some (.normal, ts, [], H') => match resS sf.results ts H' with
      | some _ => some H'
      | none => none
    | some (.ret, ts, [], H') => match resS sf.results ts H' with
      | some _ => some H'
      | none => none
    | _ => none
  | _ => none
def runD (cd : FuncId → List SV → Heap → Option Heap) (rs : List SRes) (ts : T) : DS → Heap → Option (SV × Heap)
  | [], H => match resS rs ts H with
    | some v => some (v, H)
    | none => none
  | (f, args) :: ds, H => match cd f args H with
    | some H' => runD cd rs ts ds H'
    | none => none
def callS (tab : FuncId → Option SFun) (lf : Nat) : Nat → CallS
  | 0 => fun _ _ _ => none
  | n + 1 => fun f args H => match tab f with
    | some (.native g) => g args H
    | some (.code sf) => match evalC (callS tab lf n) lf sf.body (args ++ List.replicate (sf.ntmps - args.length) SV.undef) [] H with
      | some (.normal, ts, D, H') => runD (callD tab (callS tab lf n) lf) sf.results ts D H'
      | some (.ret, ts, D, H') => runD (callD tab (callS tab lf n) lf) sf.results ts D H'
      | _ => none
    | _ => none
/-! ### Compilation of code -/
def compOper (P : Program) (ops : Array Oper) (o : Oper) : Option SOper :=
  match compK P o with
  | none => none
  | some k => match o.guard with
    | none => some ⟨o.dst, k, none⟩
    | some (j, want) => match (ops[j]?).bind (·.dst) with
      | some t => some ⟨o.dst, k, some (t, want)⟩
      | none => none
def SOp.isPure : SOp → Bool
  | .mv _ | .pick .. | .build .. | .nilc _ | .bin .. | .eqf .. | .eqn .. | .un .. | .cvi .. | .cvs _ | .mki .. | .mkf .. | .sls .. | .slv .. | .fad .. | .fld .. | .iad .. | .iaa .. | .ixs .. | .ixa .. | .ext .. | .lens _ | .lenl _ | .lenk _ | .mnx .. | .tas .. | .usd _ | .eqp .. | .cvis _ => true
  | _ => false
def SOp.isRead : SOp → Bool
  | .load .. | .lku .. | .lenm _ | .cvbs _ | .sla .. | .cvu _ | .cvb .. => true
  | _ => false
def SOp.isHoist0 : SOp → Bool
  | .alloc .. => true
  | .bslice _ _ _ _ [] => true
  | _ => false
def SOp.isHoist : SOp → Bool
  | .alloc .. => true
  | .bslice .. => true
  | _ => false
def SK.cls (wide : Bool) (k : SK) (guard : Option (Nat × Bool)) : Nat :=
  match k with
  | .op so => match so.isPure with
    | true => 0
    | false => match so.isRead with
      | true => 1
      | false => match (match wide with | true => so.isHoist | false => so.isHoist0) && guard.isNone with
        | true => 3
        | false => 2
  | _ => 2
def ancStep (acc : List (List Nat)) (o : Oper) : List Nat :=
  (o.after.toList.filter (Region.binds .any)).flatMap fun e => e.on :: acc.getD e.on []
def ancs : List Oper → List (List Nat) → List (List Nat)
  | [], acc => acc
  | o :: os, acc => ancs os (acc ++ [(ancStep acc o).eraseDups])
def X.tm : X → List Nat
  | .t n => [n]
  | .c _ => []
def Xo.tm : Option X → List Nat
  | some x => x.tm
  | none => []
def SOp.tm : SOp → List Nat
  | .bad => []
  | .mv x => x.tm
  | .pick c a b => c.tm ++ (a.tm ++ b.tm)
  | .alloc _ _ => []
  | .box _ x => x.tm
  | .build _ ps => ps.flatMap fun p => p.2.2.tm
  | .bslice _ _ _ _ ps => ps.flatMap fun p => p.2.2.tm
  | .load _ _ a => a.tm
  | .store _ a x => a.tm ++ x.tm
  | .nilc x => x.tm
  | .bin _ x y => x.tm ++ y.tm
  | .eqf _ _ _ x y => x.tm ++ y.tm
  | .eqn _ _ x y => x.tm ++ y.tm
  | .un _ x => x.tm
  | .cvi _ x => x.tm
  | .cvs x => x.tm
  | .cvsb _ x => x.tm
  | .cvbs x => x.tm
  | .mki _ x => x.tm
  | .mkf _ xs ys => xs.flatMap X.tm ++ ys.flatMap X.tm
  | .mkm => []
  | .mks _ _ _ _ l c => l.tm ++ c.tm
  | .sls lo hi x => Xo.tm lo ++ (Xo.tm hi ++ x.tm)
  | .slv _ lo hi mx x => Xo.tm lo ++ (Xo.tm hi ++ (Xo.tm mx ++ x.tm))
  | .sla _ _ lo hi x => Xo.tm lo ++ (Xo.tm hi ++ x.tm)
  | .fad _ x => x.tm
  | .fld _ _ _ x => x.tm
  | .iad _ x i => x.tm ++ i.tm
  | .iaa _ _ x i => x.tm ++ i.tm
  | .ixs x i => x.tm ++ i.tm
  | .ixa _ _ _ x i => x.tm ++ i.tm
  | .lku _ _ _ _ m k => m.tm ++ k.tm
  | .mup _ _ m k v => m.tm ++ (k.tm ++ v.tm)
  | .ext _ x => x.tm
  | .lens x => x.tm
  | .lenl x => x.tm
  | .lenm x => x.tm
  | .lenk _ => []
  | .app _ _ _ _ s x => s.tm ++ x.tm
  | .mnx _ xs => xs.flatMap X.tm
  | .cpy _ _ d s => d.tm ++ s.tm
  | .tas _ _ _ x => x.tm
  | .usd x => x.tm
  | .ust _ p n => p.tm ++ n.tm
  | .cvu x => x.tm
  | .cvb _ x => x.tm
  | .eqp _ x y => x.tm ++ y.tm
  | .rng x => x.tm
  | .nxt x => x.tm
  | .cvis x => x.tm
  | .xib x c => x.tm ++ c.tm
  | .xcn x c => x.tm ++ c.tm
  | .xnop x => Xo.tm x
  | .xld _ a => a.tm
  | .xst a x => a.tm ++ x.tm
  | .xcas _ a x y => a.tm ++ (x.tm ++ y.tm)
  | .xadd _ a x => a.tm ++ x.tm
def SK.tm : SK → List Nat
  | .op so => so.tm
  | .call _ xs => xs.flatMap X.tm
  | .calld x xs => x.tm ++ xs.flatMap X.tm
  | .inv x _ xs => x.tm ++ xs.flatMap X.tm
def SOper.looks (o : SOper) : List Nat :=
  (match o.guard with | some (t, _) => [t] | none => []) ++ o.k.tm
def clash (x y : SOper) : Bool :=
  (match x.dst with
    | some d => y.looks.contains d || y.dst == some d
    | none => false) ||
  (match y.dst with
    | some d => x.looks.contains d
    | none => false)
def enum {α : Type} : Nat → List α → List (Nat × α)
  | _, [] => []
  | i, x :: xs => (i, x) :: enum (i + 1) xs
def rangeD (A : List (List Nat)) (effs : List Nat) (i : Nat) : Nat × Nat :=
  ((enum 0 effs).foldl (fun m p => if (A.getD i []).contains p.2 then p.1 + 1 else m) 0,
   ((enum 0 effs).find? fun p => (A.getD p.2 []).contains i).elim effs.length (·.1))
def cntE : List (SOper × DK) → Nat → Nat
  | [], _ => 0
  | _ :: _, 0 => 0
  | (_, dk) :: os, i + 1 => (match dk with | .eff => 1 | _ => 0) + cntE os i
def isEff : DK → Bool
  | .eff => true
  | _ => false
def aft (o : Oper) : List Nat := (o.after.toList.filter (Region.binds .any)).map (·.on)
def rangeOk (dops : List (SOper × DK)) (A : List (List Nat)) (lo hi i : Nat) : Bool :=
  (Nat.beq lo 0 || (enum 0 dops).any fun q => isEff q.2.2 && (A.getD i []).contains q.1 && Nat.beq (cntE dops q.1 + 1) lo) &&
  (Nat.ble (cntE dops dops.length) hi || (enum 0 dops).any fun q => isEff q.2.2 && (A.getD q.1 []).contains i && Nat.beq (cntE dops q.1) hi)
def swapOk (dops : List (SOper × DK)) (A : List (List Nat)) (sw : Bool) (i : Nat) : Bool :=
  !sw ||
  ((enum 0 dops).all fun q => !isEff q.2.2 || !(Nat.ble (cntE dops dops.length) (cntE dops q.1 + 2)) || (A.getD i []).contains q.1) ||
  ((enum 0 dops).all fun q => !isEff q.2.2 || !(Nat.ble (cntE dops dops.length) (cntE dops q.1 + 2)) || (A.getD q.1 []).contains i)
def chkD (ops : List Oper) (dops : List (SOper × DK)) (A : List (List Nat)) (sw : Bool) : Bool :=
  ((enum 0 ops).all fun p => (aft p.2).all (fun e => Nat.blt e p.1) && (A.getD p.1 []).all (fun x => (aft p.2).any fun e => Nat.beq x e || (A.getD e []).contains x)) &&
  ((enum 0 dops).all fun p => (enum 0 dops).all fun q => !(Nat.blt p.1 q.1) || !clash p.2.1 q.2.1 || (A.getD q.1 []).contains p.1) &&
  ((enum 0 dops).all fun p => (enum 0 dops).all fun q => !(Nat.blt p.1 q.1) || !isEff p.2.2 || !isEff q.2.2 || (A.getD q.1 []).contains p.1 ||
    (sw && Nat.beq (cntE dops p.1 + 2) (cntE dops dops.length) && Nat.beq (cntE dops q.1 + 1) (cntE dops dops.length))) &&
  ((enum 0 dops).all fun p => match p.2.2 with
    | .pure => match p.2.1.k with
      | .op so => so.isPure
      | _ => false
    | .read lo hi => match p.2.1.k with
      | .op so => so.isRead && rangeOk dops A lo hi p.1 && swapOk dops A sw p.1
      | _ => false
    | .hoist lo hi => match p.2.1.k with
      | .op so => so.isHoist && p.2.1.guard.isNone && rangeOk dops A lo hi p.1 && swapOk dops A sw p.1
      | _ => false
    | .eff => true)
def draftD (wide : Bool) (ops : List Oper) (l : List SOper) : List (SOper × DK) × Bool :=
  let A := ancs ops []
  let cls := l.map fun o => o.k.cls wide o.guard
  let effs := (enum 0 cls).filterMap fun p => match p.2 with | 2 => some p.1 | _ => none
  let dks := (enum 0 cls).map fun p => match p.2 with
    | 0 => DK.pure
    | 1 => let r := rangeD A effs p.1; DK.read r.1 r.2
    | 3 => let r := rangeD A effs p.1; DK.hoist r.1 r.2
    | _ => DK.eff
  let sw := match effs.reverse with
    | j :: i :: _ => !(A.getD j []).contains i
    | _ => false
  (l.zip dks, sw)
def tryD (ops : Array Oper) (l : List SOper) (wide : Bool) : Option SCode :=
  match draftD wide ops.toList l with
  | (dops, sw) => match Nat.beq dops.length ops.size && chkD ops.toList dops (ancs ops.toList []) sw with
    | true => some (.dreg dops sw)
    | false => none
def compD (P : Program) (ops : Array Oper) : Option SCode :=
  match mapO (compOper P ops) ops.toList with
  | none => none
  | some l => match tryD ops l false with
    | some c => some c
    | none => tryD ops l true
def splitLast {α : Type} : List α → Option (List α × α)
  | [] => none
  | [x] => some ([], x)
  | x :: y :: l => match splitLast (y :: l) with
    | some (a, z) => some (x :: a, z)
    | none => none
def compRD (P : Program) (ops : Array Oper) : Option SCode :=
  match splitLast ops.toList with
  | some (l, o) => match o.op, o.guard, o.dst with
    | .defer c, none, none => match c.callee with
      | .value y => match mapO (compOper P ops) l, compX y, compXs c.args with
        | some l, some y, some xs => some (.regd l y xs)
        | _, _, _ => none
      | _ => none
    | _, _, _ => none
  | none => none
def compC (P : Program) : Code → SCode
  | .skip => .skip
  | .region _ ops d => match d with
    | false => match compRD P ops with
      | some c => c
      | none => match mapO (compOper P ops) ops.toList with
        | some l => .reg l
        | none => .bad
    | true => match compD P ops with
      | some c => c
      | none => .bad
  | .seq a b => .seq (compC P a) (compC P b)
  | .cond c a b => match compX c with
    | some c => .cond c (compC P a) (compC P b)
    | none => .bad
  | .block id b => .block id (compC P b)
  | .loop b => .loop (compC P b)
  | .exit id => .exit id
  | .ret => .ret
  | .scope b => compC P b
  | .label _ => .skip
  | _ => .bad
def compRes (P : Program) : ResultVar → Option SRes
  | .tmp t => some (.tmp t)
  | .cell a t => match tinfo P t with
    | some i => some (.cell a i.agg i.size)
    | none => none
def compF (P : Program) (fn : Func) : Option SFunc :=
  match fn.body with
  | none => none
  | some c => match mapO (compRes P) fn.results.toList with
    | some rs => some ⟨fn.ntmps, rs, compC P c⟩
    | none => none
end Go.Sh
end
