/-
  Short forms of operations, for the code of functions as terms.
  The evaluator once more, in a form that the kernel reckons fast: it gives what the evaluator gives.
  Rules for reckoning with the evaluator at values that are not known.
  A call that is made in the middle of another one, reckoned from an empty heap; and the outermost call, reckoned with such calls.
  Closed calls as natives: a call whose arguments and results bear no address, reckoned from an empty heap, holds in every world. And calls reckoned over a heap that is only read.
  A call in the middle of another one, reckoned from an empty heap at arguments some cells of which stay opaque: the calls that look into them are given by what they answer there.
-/
import Derived.Test.YtnhogklhegmjhaaGreatDoorShA1
import Derived.WalkKit
import Derived.Test.YtnhogklhegmjhaaGreatDoorShA6
set_option linter.all false
section
namespace Go.Sh
def ox (d : Nat) (s : SOp) : SOper := ⟨some d, .op s, none⟩
def oy (d n : Nat) : SOper := ⟨some d, .op (.mv (.t n)), none⟩
end Go.Sh
end
section
namespace Go.Sh
/-! ### Trees, lists -/
noncomputable def forceN {α : Type} (n : Nat) (k : Nat → α) : α := Nat.rec (motive := fun _ => α) (k 0) (fun m _ => k (m + 1)) n
theorem forceN_eq {α : Type} (n : Nat) (k : Nat → α) : forceN n k = k n := by cases n <;> rfl
noncomputable def pthF : Nat → Nat → List Bool := fun f => Nat.rec (motive := fun _ => Nat → List Bool) (fun _ => []) (fun _ ih n => Nat.rec (motive := fun _ => List Bool) [] (fun m _ => Nat.rec (motive := fun _ => List Bool) (false :: ih (m / 2)) (fun _ _ => true :: ih (m / 2)) (m % 2)) n) f
noncomputable def pth (n : Nat) : List Bool := pthF (n + 1) n
noncomputable def getP {α : Type} (t : Tr α) : List Bool → Option α := Tr.rec (motive := fun _ => List Bool → Option α) (fun _ => none) (fun _ v _ il ir p => List.rec (motive := fun _ => Option α) v (fun b q _ => Bool.rec (motive := fun _ => Option α) (il q) (ir q) b) p) t
noncomputable def setP {α : Type} (p : List Bool) : Tr α → α → Tr α := List.rec (motive := fun _ => Tr α → α → Tr α)
  (fun t a => Tr.rec (motive := fun _ => Tr α) (.node .leaf (some a) .leaf) (fun l _ r _ _ => .node l (some a) r) t)
  (fun b _ ih t a => Bool.rec (motive := fun _ => Tr α)
    (Tr.rec (motive := fun _ => Tr α) (.node (ih .leaf a) none .leaf) (fun l v r _ _ => .node (ih l a) v r) t)
    (Tr.rec (motive := fun _ => Tr α) (.node .leaf none (ih .leaf a)) (fun l v r _ _ => .node l v (ih r a)) t) b) p
theorem pthF_succ (f m : Nat) : pthF (f + 1) (m + 1) = (match m % 2 with | 0 => false | _ + 1 => true) :: pthF f (m / 2) := by
  have e : pthF (f + 1) (m + 1) = Nat.rec (motive := fun _ => List Bool) (false :: pthF f (m / 2)) (fun _ _ => true :: pthF f (m / 2)) (m % 2) := rfl
  rw [e]
  cases m % 2 <;> rfl
theorem getP_pthF {α : Type} : ∀ (f : Nat) (t : Tr α) (n : Nat), n < f → getP t (pthF f n) = t.get n
  | 0, _, _, h => by omega
  | f + 1, t, 0, _ => by cases t <;> rfl
  | f + 1, .leaf, m + 1, _ => rfl
  | f + 1, .node l v r, m + 1, h => by
    rw [pthF_succ, Tr.get]
    have hl := getP_pthF f l (m / 2) (by omega)
    have hr := getP_pthF f r (m / 2) (by omega)
    cases m % 2 with
    | zero => exact hl
    | succ k => exact hr
theorem setP_pthF {α : Type} : ∀ (f : Nat) (t : Tr α) (n : Nat) (a : α), n < f → setP (pthF f n) t a = Tr.set f t n a
  | 0, _, _, _, h => by omega
  | f + 1, t, 0, a, _ => by cases t <;> rfl
  | f + 1, .leaf, m + 1, a, h => by
    rw [pthF_succ, Tr.set]
    have hl := setP_pthF f .leaf (m / 2) a (by omega)
    cases m % 2 with
    | zero => exact congrArg (fun x => Tr.node x none .leaf) hl
    | succ k => exact congrArg (fun x => Tr.node .leaf none x) hl
  | f + 1, .node l v r, m + 1, a, h => by
    rw [pthF_succ, Tr.set]
    have hl := setP_pthF f l (m / 2) a (by omega)
    have hr := setP_pthF f r (m / 2) a (by omega)
    cases m % 2 with
    | zero => exact congrArg (fun x => Tr.node x v r) hl
    | succ k => exact congrArg (fun x => Tr.node l v x) hr
noncomputable def hget (H : Heap) (b : Nat) : Option SObj := getP H.objs (pth b)
theorem hget_eq (H : Heap) (b : Nat) : hget H b = H.get b := getP_pthF _ _ _ (Nat.lt_succ_self _)
noncomputable def hput (H : Heap) (b : Nat) (o : SObj) : Heap := ⟨H.next, setP (pth b) H.objs o⟩
theorem hput_eq (H : Heap) (b : Nat) (o : SObj) : hput H b o = H.put b o := by
  unfold hput pth
  rw [setP_pthF _ _ _ _ (Nat.lt_succ_self _)]
  rfl
/-! ### Lists -/
noncomputable def nthF {α : Type} (l : List α) : Nat → Option α := List.rec (motive := fun _ => Nat → Option α) (fun _ => none) (fun x _ ih n => Nat.rec (motive := fun _ => Option α) (some x) (fun m _ => ih m) n) l
theorem nthF_eq {α : Type} : ∀ (l : List α) (n : Nat), nthF l n = l[n]?
  | [], _ => rfl
  | _ :: _, 0 => rfl
  | x :: l, n + 1 => by
    have e : nthF (x :: l) (n + 1) = nthF l n := rfl
    rw [e, nthF_eq l n]
    simp
noncomputable def lenF {α : Type} (l : List α) : Nat := List.rec (motive := fun _ => Nat) 0 (fun _ _ ih => Nat.succ ih) l
theorem lenF_eq {α : Type} (l : List α) : lenF l = l.length := by
  induction l with
  | nil => rfl
  | cons x l ih => exact congrArg Nat.succ ih
noncomputable def takeF {α : Type} (l : List α) : Nat → List α := List.rec (motive := fun _ => Nat → List α) (fun _ => []) (fun x _ ih n => Nat.rec (motive := fun _ => List α) [] (fun m _ => x :: ih m) n) l
theorem takeF_eq {α : Type} : ∀ (l : List α) (n : Nat), takeF l n = l.take n
  | [], n => by simp [takeF]
  | _ :: _, 0 => rfl
  | x :: l, n + 1 => by
    have e : takeF (x :: l) (n + 1) = x :: takeF l n := rfl
    rw [e, takeF_eq l n]
    rfl
noncomputable def dropF {α : Type} (l : List α) : Nat → List α := List.rec (motive := fun _ => Nat → List α) (fun _ => []) (fun x xs ih n => Nat.rec (motive := fun _ => List α) (x :: xs) (fun m _ => ih m) n) l
theorem dropF_eq {α : Type} : ∀ (l : List α) (n : Nat), dropF l n = l.drop n
  | [], n => by simp [dropF]
  | _ :: _, 0 => rfl
  | x :: l, n + 1 => by
    have e : dropF (x :: l) (n + 1) = dropF l n := rfl
    rw [e, dropF_eq l n]
    rfl
noncomputable def appF {α : Type} (l k : List α) : List α := List.rec (motive := fun _ => List α) k (fun x _ ih => x :: ih) l
theorem appF_eq {α : Type} (l k : List α) : appF l k = l ++ k := by
  induction l with
  | nil => rfl
  | cons x l ih => exact congrArg (x :: ·) ih
noncomputable def allOne (cs : List SV) : Bool := List.rec (motive := fun _ => Bool) true (fun x _ ih => Bool.rec (motive := fun _ => Bool) false ih (SV.one x)) cs
theorem allOne_eq (cs : List SV) : allOne cs = cs.all SV.one := by
  induction cs with
  | nil => rfl
  | cons x l ih =>
    have e : allOne (x :: l) = Bool.rec (motive := fun _ => Bool) false (allOne l) (SV.one x) := rfl
    rw [e, ih, List.all_cons]
    cases SV.one x <;> rfl
noncomputable def getT : T → Nat → SV := fun ts => List.rec (motive := fun _ => Nat → SV) (fun _ => SV.undef) (fun x _ ih n => Nat.rec (motive := fun _ => SV) x (fun m _ => ih m) n) ts
theorem getT_eq : ∀ (ts : T) (n : Nat), getT ts n = ts.getD n SV.undef
  | [], n => by simp [getT]
  | x :: ts, 0 => rfl
  | x :: ts, n + 1 => by
    have : getT (x :: ts) (n + 1) = getT ts n := rfl
    rw [this, getT_eq ts n]
    simp
noncomputable def setT : T → Nat → SV → T := fun ts => List.rec (motive := fun _ => Nat → SV → T) (fun _ _ => []) (fun x xs ih n v => Nat.rec (motive := fun _ => T) (v :: xs) (fun m _ => x :: ih m v) n) ts
theorem setT_eq : ∀ (ts : T) (n : Nat) (v : SV), setT ts n v = ts.set n v
  | [], n, v => by simp [setT]
  | x :: ts, 0, v => rfl
  | x :: ts, n + 1, v => by
    have : setT (x :: ts) (n + 1) v = x :: setT ts n v := rfl
    rw [this, setT_eq ts n v]
    simp
/-! ### Frames: rows of eight -/
abbrev TC := List (List SV)
noncomputable def nthC (tc : TC) : Nat → T := List.rec (motive := fun _ => Nat → T) (fun _ => []) (fun c _ ih k => Nat.rec (motive := fun _ => T) c (fun m _ => ih m) k) tc
noncomputable def getC (tc : TC) (i : Nat) : SV := getT (nthC tc (i / 8)) (i % 8)
noncomputable def updC (tc : TC) : Nat → Nat → SV → TC := List.rec (motive := fun _ => Nat → Nat → SV → TC) (fun _ _ _ => []) (fun c cs ih k j v => Nat.rec (motive := fun _ => TC) (setT c j v :: cs) (fun m _ => c :: ih m j v) k) tc
noncomputable def setC (tc : TC) (i : Nat) (v : SV) : TC := updC tc (i / 8) (i % 8) v
def OkC : TC → Prop
  | [] => True
  | c :: cs => (cs = [] ∨ c.length = 8) ∧ c.length ≤ 8 ∧ OkC cs
theorem nthC_eq : ∀ (tc : TC) (k j : Nat), OkC tc → j < 8 → getT (nthC tc k) j = tc.flatten.getD (8 * k + j) SV.undef
  | [], k, j, _, _ => by simp [nthC, getT]
  | c :: cs, 0, j, h, hj => by
    have e : nthC (c :: cs) 0 = c := rfl
    rw [e, getT_eq, List.flatten_cons, Nat.mul_zero, Nat.zero_add]
    by_cases hc : j < c.length
    · simp [List.getD_eq_getElem?_getD, List.getElem?_append_left hc]
    · rcases h.1 with h1 | h1
      · subst h1; simp
      · omega
  | c :: cs, k + 1, j, h, hj => by
    have e : nthC (c :: cs) (k + 1) = nthC cs k := rfl
    rw [e, nthC_eq cs k j h.2.2 hj, List.flatten_cons]
    have := h.2.1
    rw [List.getD_eq_getElem?_getD, List.getD_eq_getElem?_getD, List.getElem?_append_right (by omega)]
    rcases h.1 with h1 | h1
    · subst h1; simp
    · rw [show 8 * (k + 1) + j - c.length = 8 * k + j by omega]
theorem getC_eq {tc : TC} (h : OkC tc) (i : Nat) : getC tc i = tc.flatten.getD i SV.undef := by
  unfold getC
  rw [nthC_eq tc _ _ h (Nat.mod_lt _ (by decide)), Nat.div_add_mod]
theorem updC_eq : ∀ (tc : TC) (k j : Nat) (v : SV), OkC tc → j < 8 → (updC tc k j v).flatten = tc.flatten.set (8 * k + j) v ∧ OkC (updC tc k j v) ∧ ((updC tc k j v = []) = (tc = []))
  | [], k, j, v, _, _ => by simp [updC, OkC]
  | c :: cs, 0, j, v, h, hj => by
    have e : updC (c :: cs) 0 j v = setT c j v :: cs := rfl
    rw [e, setT_eq]
    refine ⟨?_, ⟨by simpa using h.1, by simpa using h.2.1, h.2.2⟩, by simp⟩
    rw [List.flatten_cons, List.flatten_cons, Nat.mul_zero, Nat.zero_add]
    by_cases hc : j < c.length
    · rw [List.set_append_left _ _ hc]
    · rcases h.1 with h1 | h1
      · subst h1; simp
      · omega
  | c :: cs, k + 1, j, v, h, hj => by
    have e : updC (c :: cs) (k + 1) j v = c :: updC cs k j v := rfl
    obtain ⟨h1, h2, h3⟩ := updC_eq cs k j v h.2.2 hj
    rw [e]
    refine ⟨?_, ⟨by rw [h3]; exact h.1, h.2.1, h2⟩, by simp⟩
    rw [List.flatten_cons, List.flatten_cons, h1]
    have := h.2.1
    rw [List.set_append_right _ _ (by omega)]
    rcases h.1 with h4 | h4
    · subst h4; simp
    · rw [show 8 * (k + 1) + j - c.length = 8 * k + j by omega]
theorem setC_eq {tc : TC} (h : OkC tc) (i : Nat) (v : SV) : (setC tc i v).flatten = tc.flatten.set i v ∧ OkC (setC tc i v) := by
  obtain ⟨h1, h2, _⟩ := updC_eq tc (i / 8) (i % 8) v h (Nat.mod_lt _ (by decide))
  unfold setC
  rw [h1, Nat.div_add_mod]
  exact ⟨rfl, h2⟩
noncomputable def rowsF : Nat → List SV → TC := fun f => Nat.rec (motive := fun _ => List SV → TC) (fun l => [l]) (fun _ ih l => takeF l 8 :: ih (dropF l 8)) f
theorem rowsF_eq : ∀ (f : Nat) (l : List SV), l.length ≤ 8 * (f + 1) → 8 * f ≤ l.length → (rowsF f l).flatten = l ∧ OkC (rowsF f l) ∧ rowsF f l ≠ []
  | 0, l, h, _ => ⟨List.append_nil l, ⟨.inl rfl, by omega, trivial⟩, fun e => (by cases e)⟩
  | f + 1, l, h, h' => by
    have e : rowsF (f + 1) l = takeF l 8 :: rowsF f (dropF l 8) := rfl
    rw [e, takeF_eq, dropF_eq]
    obtain ⟨h1, h2, h3⟩ := rowsF_eq f (l.drop 8) (by simp; omega) (by simp; omega)
    refine ⟨by rw [List.flatten_cons, h1, List.take_append_drop], ⟨.inr (by simp; omega), by simp; omega, h2⟩, by simp⟩
noncomputable def evC (x : X) : TC → SV := X.rec (motive := fun _ => TC → SV) (fun n tc => getC tc n) (fun v _ => v) x
theorem evC_eq {tc : TC} (h : OkC tc) (x : X) : evC x tc = x.ev tc.flatten := by
  cases x with
  | t n => exact getC_eq h n
  | c v => rfl
noncomputable def evsC (xs : List X) : TC → List SV := List.rec (motive := fun _ => TC → List SV) (fun _ => []) (fun x _ ih tc => evC x tc :: ih tc) xs
theorem evsC_eq {tc : TC} (h : OkC tc) (xs : List X) : evsC xs tc = evs tc.flatten xs := by
  induction xs with
  | nil => rfl
  | cons x xs ih =>
    have : evsC (x :: xs) tc = evC x tc :: evsC xs tc := rfl
    rw [this, ih, evC_eq h]
    rfl
/-! ### Operations -/
abbrev R1 := Option (SV × Heap)
noncomputable def eMv (x : X) (tc : TC) (H : Heap) : R1 := some (evC x tc, H)
noncomputable def pickF (v : SV) (a b : X) : TC → Heap → R1 := match v with
  | .bool c => match c with
    | true => eMv a
    | false => eMv b
  | _ => fun _ _ => none
noncomputable def ePick (c a b : X) (tc : TC) (H : Heap) : R1 := pickF (evC c tc) a b tc H
noncomputable def eAlloc (zero : List SV) (elem : TypeId) (_ : TC) (H : Heap) : R1 := forceN H.next fun b => some (.ptr b 0, ⟨b + 1, setP (pth b) H.objs (.row zero elem true false 0)⟩)
noncomputable def eBox (elem : TypeId) (x : X) (tc : TC) (H : Heap) : R1 := forceN H.next fun b => some (.ptr b 0, ⟨b + 1, setP (pth b) H.objs (.row (evC x tc).cells elem true false 0)⟩)
noncomputable def rowF (o : Option SObj) : Option (List SV) := match o with
  | some p => match p with
    | .row cs _ _ _ _ => some cs
    | _ => none
  | none => none
noncomputable def one1 (r : Option SV) (H : Heap) : R1 := match r with
  | some v => some (v, H)
  | none => none
noncomputable def aggF (n o : Nat) (cs : List SV) (H : Heap) : R1 := match Nat.ble (o + n) (lenF cs) with
  | true => some (.agg (takeF (dropF cs o) n), H)
  | false => none
noncomputable def oneF (n o : Nat) (cs : List SV) : Heap → R1 := match n with
  | 0 => fun _ => none
  | m + 1 => match m with
    | 0 => one1 (nthF cs o)
    | _ + 1 => fun _ => none
noncomputable def cellsF (agg : Bool) (n o : Nat) (r : Option (List SV)) : Heap → R1 := match r with
  | some cs => match agg with
    | true => aggF n o cs
    | false => oneF n o cs
  | none => fun _ => none
noncomputable def loadV (agg : Bool) (n : Nat) (v : SV) (H : Heap) : R1 := match v with
  | .ptr b o => cellsF agg n o (rowF (hget H b)) H
  | _ => none
noncomputable def eLoad (agg : Bool) (n : Nat) (a : X) (tc : TC) (H : Heap) : R1 := loadV agg n (evC a tc) H
noncomputable def storeF (H : Heap) (b o : Nat) (vs : List SV) : Option Heap := match hget H b with
  | some p => match p with
    | .row cs e ex ro frz => match ro with
      | false => match Nat.ble (o + lenF vs) (lenF cs) with
        | true => match Nat.ble frz o with
          | true => match allOne vs with
            | true => some (hput H b (.row (appF (takeF cs o) (appF vs (dropF cs (o + lenF vs)))) e ex false frz))
            | false => none
          | false => none
        | false => none
      | true => none
    | _ => none
  | none => none
theorem storeF_eq (H : Heap) (b o : Nat) (vs : List SV) : storeF H b o vs = storeC H b o vs := by
  unfold storeF storeC
  rw [hget_eq]
  cases H.get b with
  | none => rfl
  | some p =>
    cases p with
    | row cs e ex ro frz =>
      cases ro with
      | true => rfl
      | false =>
        simp only [lenF_eq, allOne_eq, appF_eq, takeF_eq, dropF_eq, hput_eq]
        cases Nat.ble (o + vs.length) cs.length <;> cases Nat.ble frz o <;> cases vs.all SV.one <;> rfl
    | _ => rfl
noncomputable def storeR (r : Option Heap) : R1 := match r with
  | some H' => some (.undef, H')
  | none => none
noncomputable def storeV (n : Nat) (v : SV) (cs : List SV) (H : Heap) : R1 := match v with
  | .ptr b o => match Nat.beq (lenF cs) n with
    | true => storeR (storeF H b o cs)
    | false => none
  | _ => none
noncomputable def eStore (n : Nat) (a x : X) (tc : TC) (H : Heap) : R1 := storeV n (evC a tc) (evC x tc).cells H
noncomputable def nilcV (v : SV) (H : Heap) : R1 := match v with
  | .nilp => none
  | .nili => none
  | .nilf => none
  | .opq _ => none
  | v => some (v, H)
noncomputable def eNilc (x : X) (tc : TC) (H : Heap) : R1 := nilcV (evC x tc) H
noncomputable def okV (r : Option SV) (H : Heap) : R1 := match r with
  | some v => some (v, H)
  | none => none
noncomputable def capF (k : IntKind) : Nat := match k with
  | .i64 => 9223372036854775807
  | _ => 127
noncomputable def binN (op : BinOp) (k : IntKind) (m n : Nat) : Option SV := match op with
  | .add => forceN (m + n) fun s => match Nat.ble s (capF k) with
    | true => some (.int k (.ofNat s))
    | false => binS .add (.int k (.ofNat m)) (.int k (.ofNat n))
  | .eql => some (.bool (Nat.beq m n))
  | .neq => some (.bool (!Nat.beq m n))
  | .lss => some (.bool (Nat.ble (m + 1) n))
  | .leq => some (.bool (Nat.ble m n))
  | .gtr => some (.bool (Nat.ble (n + 1) m))
  | .geq => some (.bool (Nat.ble n m))
  | op => binS op (.int k (.ofNat m)) (.int k (.ofNat n))
noncomputable def binI (op : BinOp) (k k' : IntKind) (a b : Int) : Option SV := match a with
  | .ofNat m => match b with
    | .ofNat n => match k with
      | .i64 => match k' with
        | .i64 => binN op .i64 m n
        | k' => binS op (.int .i64 (.ofNat m)) (.int k' (.ofNat n))
      | .u8 => match k' with
        | .u8 => binN op .u8 m n
        | k' => binS op (.int .u8 (.ofNat m)) (.int k' (.ofNat n))
      | k => binS op (.int k (.ofNat m)) (.int k' (.ofNat n))
    | b => binS op (.int k a) (.int k' b)
  | a => binS op (.int k a) (.int k' b)
noncomputable def binL (op : BinOp) (x : SV) : SV → Option SV := match x with
  | .int k a => fun y => match y with
    | .int k' b => binI op k k' a b
    | y => binS op (.int k a) y
  | x => binS op x
theorem ble_dec (m n : Nat) : Nat.ble m n = decide (m ≤ n) := by
  cases h : Nat.ble m n with
  | true => exact (decide_eq_true (Nat.le_of_ble_eq_true h)).symm
  | false => exact (decide_eq_false (Nat.not_le_of_not_ble_eq_true (by simp [h]))).symm
theorem beq_dec (m n : Nat) : Nat.beq m n = decide (m = n) := by
  cases h : Nat.beq m n with
  | true => exact (decide_eq_true (Nat.eq_of_beq_eq_true h)).symm
  | false => exact (decide_eq_false (Nat.ne_of_beq_eq_false h)).symm
theorem wrap_small {k : IntKind} (hk : k = .i64 ∨ k = .u8) {s : Nat} (h : s ≤ capF k) : k.wrap (s : Int) = (s : Int) := by
  rcases hk with rfl | rfl
  · have h : s ≤ 9223372036854775807 := h
    have e1 : ((s : Int)) % (2 ^ (IntKind.i64).bits : Int) = s := Int.emod_eq_of_lt (by omega) (by simp [IntKind.bits]; omega)
    unfold IntKind.wrap
    simp only [e1]
    simp [IntKind.bits, IntKind.signed]
    omega
  · have h : s ≤ 127 := h
    have e1 : ((s : Int)) % (2 ^ (IntKind.u8).bits : Int) = s := Int.emod_eq_of_lt (by omega) (by simp [IntKind.bits]; omega)
    unfold IntKind.wrap
    simp only [e1]
    simp [IntKind.signed]
theorem binN_eq (op : BinOp) (k : IntKind) (hk : k = .i64 ∨ k = .u8) (m n : Nat) : binN op k m n = binS op (.int k (.ofNat m)) (.int k (.ofNat n)) := by
  cases op with
  | add =>
    unfold binN
    simp only [forceN_eq]
    cases h : Nat.ble (m + n) (capF k) with
    | false => rfl
    | true =>
      have e0 : binS .add (.int k (.ofNat m)) (.int k (.ofNat n)) = if k ≠ k then none else some (.int k (k.wrap ((m + n : Nat) : Int))) := rfl
      rw [e0, if_neg (by simp), wrap_small hk (Nat.le_of_ble_eq_true h)]
      rfl
  | eql =>
    have e0 : binS .eql (.int k (.ofNat m)) (.int k (.ofNat n)) = if k ≠ k then none else some (.bool ((m : Int) == (n : Int))) := rfl
    rw [e0, if_neg (by simp)]
    simp only [binN, beq_dec]
    congr 2
    rw [Bool.eq_iff_iff]
    simp
    omega
  | neq =>
    have e0 : binS .neq (.int k (.ofNat m)) (.int k (.ofNat n)) = if k ≠ k then none else some (.bool ((m : Int) != (n : Int))) := rfl
    rw [e0, if_neg (by simp)]
    simp only [binN, beq_dec]
    congr 2
    rw [Bool.eq_iff_iff]
    simp
    omega
  | lss =>
    have e0 : binS .lss (.int k (.ofNat m)) (.int k (.ofNat n)) = if k ≠ k then none else some (.bool (decide ((m : Int) < (n : Int)))) := rfl
    rw [e0, if_neg (by simp)]
    simp only [binN, ble_dec]
    congr 2
    rw [Bool.eq_iff_iff]
    simp
    omega
  | leq =>
    have e0 : binS .leq (.int k (.ofNat m)) (.int k (.ofNat n)) = if k ≠ k then none else some (.bool (decide ((m : Int) ≤ (n : Int)))) := rfl
    rw [e0, if_neg (by simp)]
    simp only [binN, ble_dec]
    congr 2
    rw [Bool.eq_iff_iff]
    simp
  | gtr =>
    have e0 : binS .gtr (.int k (.ofNat m)) (.int k (.ofNat n)) = if k ≠ k then none else some (.bool (decide ((m : Int) > (n : Int)))) := rfl
    rw [e0, if_neg (by simp)]
    simp only [binN, ble_dec]
    congr 2
    rw [Bool.eq_iff_iff]
    simp
    omega
  | geq =>
    have e0 : binS .geq (.int k (.ofNat m)) (.int k (.ofNat n)) = if k ≠ k then none else some (.bool (decide ((m : Int) ≥ (n : Int)))) := rfl
    rw [e0, if_neg (by simp)]
    simp only [binN, ble_dec]
    congr 2
    rw [Bool.eq_iff_iff]
    simp
  | _ => rfl
theorem binL_eq (op : BinOp) (x y : SV) : binL op x y = binS op x y := by
  cases x <;> try rfl
  cases y <;> try rfl
  rename_i k a k' b
  show binI op k k' a b = _
  unfold binI
  cases a with
  | negSucc a => rfl
  | ofNat m =>
    cases b with
    | negSucc b => rfl
    | ofNat n =>
      cases k <;> cases k' <;> first | rfl | exact binN_eq _ _ (.inl rfl) _ _ | exact binN_eq _ _ (.inr rfl) _ _
noncomputable def eBin (op : BinOp) (x y : X) (tc : TC) (H : Heap) : R1 := okV (binL op (evC x tc) (evC y tc)) H
noncomputable def fadV (off : Nat) (v : SV) (H : Heap) : R1 := match v with
  | .ptr b o => some (.ptr b (o + off), H)
  | _ => none
noncomputable def eFad (off : Nat) (x : X) (tc : TC) (H : Heap) : R1 := fadV off (evC x tc) H
noncomputable def fldV (agg : Bool) (n off : Nat) (v : SV) (H : Heap) : R1 := match v with
  | .agg cs => okV (partS agg n off cs) H
  | _ => none
noncomputable def eFld (agg : Bool) (n off : Nat) (x : X) (tc : TC) (H : Heap) : R1 := fldV agg n off (evC x tc) H
noncomputable def iadI (z b o n z' : Nat) (v : SV) (H : Heap) : R1 := match v with
  | .int _ k => match k with
    | .ofNat k => match Nat.ble (k + 1) n with
      | true => match Nat.beq z z' with
        | true => forceN (o + k * z) fun p => some (.ptr b p, H)
        | false => none
      | false => none
    | .negSucc _ => none
  | _ => none
noncomputable def iadV (z : Nat) (v i : SV) : Heap → R1 := match v with
  | .slice b o n _ z' => iadI z b o n z' i
  | _ => fun _ => none
noncomputable def eIad (z : Nat) (x i : X) (tc : TC) (H : Heap) : R1 := iadV z (evC x tc) (evC i tc) H
noncomputable def ixsR (r : Option Nat) (H : Heap) : R1 := match r with
  | some b => some (.int .u8 (Int.ofNat b), H)
  | none => none
noncomputable def ixsI (s : List Nat) (v : SV) (H : Heap) : R1 := match v with
  | .int _ k => match k with
    | .ofNat k => ixsR (nthF s k) H
    | .negSucc _ => none
  | _ => none
noncomputable def ixsV (v i : SV) : Heap → R1 := match v with
  | .str s => ixsI s i
  | _ => fun _ => none
noncomputable def eIxs (x i : X) (tc : TC) (H : Heap) : R1 := ixsV (evC x tc) (evC i tc) H
noncomputable def extV (i : Nat) (v : SV) (H : Heap) : R1 := match v with
  | .tup vs => okV (nthF vs i) H
  | _ => none
noncomputable def eExt (i : Nat) (x : X) (tc : TC) (H : Heap) : R1 := extV i (evC x tc) H
noncomputable def sintF (n : Nat) (H : Heap) : R1 := forceN n fun m => some (.int .i64 (Int.ofNat m), H)
noncomputable def lensV (v : SV) (H : Heap) : R1 := match v with
  | .str s => sintF (lenF s) H
  | _ => none
noncomputable def eLens (x : X) (tc : TC) (H : Heap) : R1 := lensV (evC x tc) H
noncomputable def lenlV (v : SV) (H : Heap) : R1 := match v with
  | .nils => some (sint 0, H)
  | .slice _ _ n _ _ => some (sint n, H)
  | _ => none
noncomputable def eLenl (x : X) (tc : TC) (H : Heap) : R1 := lenlV (evC x tc) H
noncomputable def loadCF (H : Heap) (b o n : Nat) : Option (List SV) := match rowF (hget H b) with
  | some cs => match Nat.ble (o + n) (lenF cs) with
    | true => some (takeF (dropF cs o) n)
    | false => none
  | none => none
theorem loadCF_eq (H : Heap) (b o n : Nat) : loadCF H b o n = loadC H b o n := by
  unfold loadCF loadC
  rw [hget_eq]
  cases H.get b with
  | none => rfl
  | some p => cases p <;> simp only [rowF, lenF_eq, takeF_eq, dropF_eq] <;> rfl
noncomputable def byteC (s : List Nat) : List SV := List.rec (motive := fun _ => List SV) [] (fun b _ ih => .int .u8 (Int.ofNat b) :: ih) s
theorem byteC_eq (s : List Nat) : byteC s = byteCells s := by
  induction s with
  | nil => rfl
  | cons x l ih => exact congrArg (SV.int .u8 (Int.ofNat x) :: ·) ih
noncomputable def srcF (H : Heap) (str : Bool) (z : Nat) (x : SV) : Option (Nat × List SV) :=
  match str with
  | true => match x with
    | .str l => some (lenF l, byteC l)
    | _ => none
  | false => match x with
    | .nils => some (0, [])
    | .slice b o n _ z' => match n with
      | 0 => some (0, [])
      | _ + 1 => match Nat.beq z z' with
        | true => match loadCF H b o (n * z) with
          | some cs => some (n, cs)
          | none => none
        | false => none
    | _ => none
theorem srcF_eq (H : Heap) (str : Bool) (z : Nat) (x : SV) : srcF H str z x = srcS H str z x := by
  simp only [srcF, lenF_eq, byteC_eq, loadCF_eq]
  rfl
noncomputable def apF (H : Heap) (elem : TypeId) (z bytes : Nat) (s : SV) (r : Option (Nat × List SV)) : R1 :=
  match r with
  | none => none
  | some (0, _) => match s with
    | .nils => some (s, H)
    | .slice .. => some (s, H)
    | _ => none
  | some (n + 1, new) =>
    match s with
    | .nils => match Nat.ble ((n + 1) * bytes) roomS && Nat.ble (n + 1) roomS with
      | true => forceN H.next fun a => some (.slice a 0 (n + 1) none z, ⟨a + 1, setP (pth a) H.objs (.row new elem false false 0)⟩)
      | false => none
    | .slice b o len cap z' =>
      match Nat.beq z z' && Nat.ble ((len + (n + 1)) * bytes) roomS && Nat.ble (len + (n + 1)) roomS with
      | false => none
      | true => match loadCF H b o (len * z) with
        | none => none
        | some old =>
          match cap with
          | some c => match Nat.ble (len + (n + 1)) c with
            | true => match storeF H b (o + len * z) new with
              | some H' => some (.slice b o (len + (n + 1)) cap z, H')
              | none => none
            | false => forceN H.next fun a => some (.slice a 0 (len + (n + 1)) none z, ⟨a + 1, setP (pth a) H.objs (.row (appF old new) elem false false 0)⟩)
          | none => match hget H b with
            | some (.row _ e0 _ false frz) => match Nat.ble frz (o + len * z) && Nat.beq e0 elem && allOne new with
              | true => forceN H.next fun a => some (.slice a 0 (len + (n + 1)) none z, ⟨a + 1, setP (pth a) (setP (pth b) H.objs .dead) (.row (appF old new) elem false false (frz - o))⟩)
              | false => none
            | _ => none
    | _ => none
theorem apF_eq (H : Heap) (str : Bool) (elem : TypeId) (z bytes : Nat) (s x : SV) : apF H elem z bytes s (srcF H str z x) = appS H str elem z bytes s x := by
  simp only [srcF_eq, apF, appS, loadCF_eq, storeF_eq, hget_eq, forceN_eq, appF_eq, allOne_eq, pth, setP_pthF _ _ _ _ (Nat.lt_succ_self _)]
  rfl
noncomputable def eApp (str : Bool) (elem : TypeId) (z bytes : Nat) (s x : X) (tc : TC) (H : Heap) : R1 := apF H elem z bytes (evC s tc) (srcF H str z (evC x tc))
noncomputable def unF (op : UnOp) (x : SV) (H : Heap) : R1 := match op with
  | .not => match x with
    | .bool b => match b with
      | true => some (.bool false, H)
      | false => some (.bool true, H)
    | x => okV (unS .not x) H
  | op => okV (unS op x) H
noncomputable def eUn (op : UnOp) (x : X) (tc : TC) (H : Heap) : R1 := unF op (evC x tc) H
theorem unF_eq (op : UnOp) (x : SV) (H : Heap) : unF op x H = okV (unS op x) H := by
  cases op <;> try rfl
  cases x <;> try rfl
  rename_i b
  cases b <;> rfl
noncomputable def fillF (parts : List (Nat × Nat × X)) : TC → List SV → Option (List SV) := List.rec (motive := fun _ => TC → List SV → Option (List SV)) (fun _ cs => some cs)
  (fun p _ ih tc cs => Bool.rec (motive := fun _ => Option (List SV)) none (Bool.rec (motive := fun _ => Option (List SV)) none
    (ih tc (appF (takeF cs p.1) (appF (evC p.2.2 tc).cells (dropF cs (p.1 + lenF (evC p.2.2 tc).cells))))) (Nat.ble (p.1 + lenF (evC p.2.2 tc).cells) (lenF cs))) (Nat.beq (lenF (evC p.2.2 tc).cells) p.2.1)) parts
theorem fillF_eq {tc : TC} (h : OkC tc) : ∀ (parts : List (Nat × Nat × X)) (cs : List SV), fillF parts tc cs = fillS tc.flatten cs parts
  | [], cs => rfl
  | (off, size, x) :: parts, cs => by
    have e : fillF ((off, size, x) :: parts) tc cs = Bool.rec (motive := fun _ => Option (List SV)) none (Bool.rec (motive := fun _ => Option (List SV)) none
      (fillF parts tc (appF (takeF cs off) (appF (evC x tc).cells (dropF cs (off + lenF (evC x tc).cells))))) (Nat.ble (off + lenF (evC x tc).cells) (lenF cs))) (Nat.beq (lenF (evC x tc).cells) size) := rfl
    rw [e, fillF_eq h parts, fillS]
    simp only [lenF_eq, appF_eq, takeF_eq, dropF_eq, evC_eq h]
    cases Nat.beq (x.ev tc.flatten).cells.length size <;> cases Nat.ble (off + (x.ev tc.flatten).cells.length) cs.length <;> rfl
noncomputable def aggR (r : Option (List SV)) (H : Heap) : R1 := match r with
  | some cs => some (.agg cs, H)
  | none => none
noncomputable def eBuild (zero : List SV) (parts : List (Nat × Nat × X)) (tc : TC) (H : Heap) : R1 := aggR (fillF parts tc zero) H
noncomputable def slcR (elem : TypeId) (z len : Nat) (r : Option (List SV)) (H : Heap) : R1 := match r with
  | some cs => forceN H.next fun a => some (.slice a 0 len (some len) z, ⟨a + 1, setP (pth a) H.objs (.row cs elem true false 0)⟩)
  | none => none
noncomputable def eBslice (elem : TypeId) (z len : Nat) (zero : List SV) (parts : List (Nat × Nat × X)) (tc : TC) (H : Heap) : R1 := slcR elem z len (fillF parts tc zero) H
noncomputable def idxV (v : SV) (lim : Nat) : Option Nat := match v with
  | .int _ n => match n with
    | .ofNat n => match Nat.ble n lim with
      | true => some n
      | false => none
    | .negSucc _ => none
  | _ => none
theorem idxV_eq (v : SV) (lim : Nat) : idxV v lim = idx v lim := by
  cases v <;> try rfl
  rename_i k n
  cases n <;> rfl
noncomputable def idxF (x : Option X) (tc : TC) (dflt lim : Nat) : Option Nat := match x with
  | none => some dflt
  | some x => idxV (evC x tc) lim
theorem idxF_eq {tc : TC} (h : OkC tc) (x : Option X) (dflt lim : Nat) : idxF x tc dflt lim = idxOpt tc.flatten x dflt lim := by
  cases x with
  | none => rfl
  | some x => simp only [idxF, idxV_eq, evC_eq h]; rfl
noncomputable def slsL (s : List Nat) (h : Nat) (r : Option Nat) (H : Heap) : R1 := match r with
  | some l => some (.str (takeF (dropF s l) (h - l)), H)
  | none => none
noncomputable def slsH (lo : Option X) (s : List Nat) (r : Option Nat) (tc : TC) (H : Heap) : R1 := match r with
  | some h => slsL s h (idxF lo tc 0 h) H
  | none => none
noncomputable def slsV (lo hi : Option X) (v : SV) (tc : TC) (H : Heap) : R1 := match v with
  | .str s => slsH lo s (idxF hi tc (lenF s) (lenF s)) tc H
  | _ => none
noncomputable def eSls (lo hi : Option X) (x : X) (tc : TC) (H : Heap) : R1 := slsV lo hi (evC x tc) tc H
noncomputable def iaaV (n z : Nat) (v i : SV) (H : Heap) : R1 := match v with
  | .ptr b o => match i with
    | .int _ k => match k with
      | .ofNat k => match Nat.ble (k + 1) n with
        | true => forceN (o + k * z) fun p => some (.ptr b p, H)
        | false => none
      | .negSucc _ => none
    | _ => none
  | _ => none
noncomputable def eIaa (n z : Nat) (x i : X) (tc : TC) (H : Heap) : R1 := iaaV n z (evC x tc) (evC i tc) H
noncomputable def eMkf (f : FuncId) (first captured : List X) (tc : TC) (H : Heap) : R1 := some (.func f (evsC first tc) (evsC captured tc), H)
noncomputable def evalOpF (so : SOp) : TC → Heap → R1 := SOp.rec (motive := fun _ => TC → Heap → R1)
    eMv
    ePick
    (fun tc H => evalOp (.bad) tc.flatten H)
    eAlloc
    eBox
    eBuild
    eBslice
    eLoad
    eStore
    eNilc
    eBin
    (fun neg agg L x y => fun tc H => evalOp (.eqf neg agg L x y) tc.flatten H)
    (fun neg kind x y => fun tc H => evalOp (.eqn neg kind x y) tc.flatten H)
    eUn
    (fun k x => fun tc H => evalOp (.cvi k x) tc.flatten H)
    (fun x => fun tc H => evalOp (.cvs x) tc.flatten H)
    (fun elem x => fun tc H => evalOp (.cvsb elem x) tc.flatten H)
    (fun x => fun tc H => evalOp (.cvbs x) tc.flatten H)
    (fun t x => fun tc H => evalOp (.mki t x) tc.flatten H)
    eMkf
    (fun tc H => evalOp (.mkm) tc.flatten H)
    (fun elem z bytes zero l c => fun tc H => evalOp (.mks elem z bytes zero l c) tc.flatten H)
    eSls
    (fun z lo hi mx x => fun tc H => evalOp (.slv z lo hi mx x) tc.flatten H)
    (fun n z lo hi x => fun tc H => evalOp (.sla n z lo hi x) tc.flatten H)
    eFad
    eFld
    eIad
    eIaa
    eIxs
    (fun n agg z x i => fun tc H => evalOp (.ixa n agg z x i) tc.flatten H)
    (fun agg L zero ok m k => fun tc H => evalOp (.lku agg L zero ok m k) tc.flatten H)
    (fun agg L m k v => fun tc H => evalOp (.mup agg L m k v) tc.flatten H)
    eExt
    eLens
    eLenl
    (fun x => fun tc H => evalOp (.lenm x) tc.flatten H)
    (fun n => fun tc H => evalOp (.lenk n) tc.flatten H)
    eApp
    (fun isMax xs => fun tc H => evalOp (.mnx isMax xs) tc.flatten H)
    (fun str z d s => fun tc H => evalOp (.cpy str z d s) tc.flatten H)
    (fun t zero ok x => fun tc H => evalOp (.tas t zero ok x) tc.flatten H)
    (fun x => fun tc H => evalOp (.usd x) tc.flatten H)
    (fun elem p n => fun tc H => evalOp (.ust elem p n) tc.flatten H)
    (fun x => fun tc H => evalOp (.cvu x) tc.flatten H)
    (fun chk x => fun tc H => evalOp (.cvb chk x) tc.flatten H)
    (fun neg x y => fun tc H => evalOp (.eqp neg x y) tc.flatten H)
    (fun x => fun tc H => evalOp (.rng x) tc.flatten H)
    (fun x => fun tc H => evalOp (.nxt x) tc.flatten H)
    (fun x => fun tc H => evalOp (.cvis x) tc.flatten H)
    (fun x c => fun tc H => evalOp (.xib x c) tc.flatten H)
    (fun x c => fun tc H => evalOp (.xcn x c) tc.flatten H)
    (fun x => fun tc H => evalOp (.xnop x) tc.flatten H)
    (fun k a => fun tc H => evalOp (.xld k a) tc.flatten H)
    (fun a x => fun tc H => evalOp (.xst a x) tc.flatten H)
    (fun k a x y => fun tc H => evalOp (.xcas k a x y) tc.flatten H)
    (fun k a x => fun tc H => evalOp (.xadd k a x) tc.flatten H)
    so
theorem evalOpF_eq {tc : TC} (h : OkC tc) (so : SOp) (H : Heap) : evalOpF so tc H = evalOp so tc.flatten H := by
  cases so with
  | mv x => show eMv x tc H = _; simp only [eMv, evalOp, evC_eq h]
  | pick c a b =>
    show ePick c a b tc H = _
    simp only [ePick, evalOp, evC_eq h]
    generalize c.ev tc.flatten = v
    cases v with
    | bool b => cases b <;> simp [pickF, eMv, evC_eq h]
    | _ => rfl
  | alloc zero elem =>
    show eAlloc zero elem tc H = _
    simp only [eAlloc, forceN_eq, evalOp, pth, setP_pthF _ _ _ _ (Nat.lt_succ_self _)]
    rfl
  | box elem x =>
    show eBox elem x tc H = _
    simp only [eBox, forceN_eq, evalOp, evC_eq h, pth, setP_pthF _ _ _ _ (Nat.lt_succ_self _)]
    rfl
  | load agg n a =>
    show eLoad agg n a tc H = _
    simp only [eLoad, evalOp, evC_eq h]
    generalize a.ev tc.flatten = v
    cases v with
    | ptr b o =>
      simp only [loadV, hget_eq, loadC]
      cases H.get b with
      | none => rfl
      | some p =>
        cases p with
        | row cs e ex ro frz =>
          simp only [rowF, cellsF]
          cases agg with
          | true =>
            simp only [aggF, lenF_eq, takeF_eq, dropF_eq]
            cases Nat.ble (o + n) cs.length <;> rfl
          | false =>
            simp only
            cases n with
            | zero =>
              simp only [oneF]
              cases Nat.ble (o + 0) cs.length <;> simp
            | succ n =>
              cases n with
              | zero =>
                simp only [oneF, nthF_eq]
                cases hx : cs[o]? with
                | none =>
                  have hle := List.getElem?_eq_none_iff.1 hx
                  have : Nat.ble (o + (0 + 1)) cs.length = false := by rw [ble_dec]; exact decide_eq_false (by omega)
                  rw [this]
                  rfl
                | some v =>
                  obtain ⟨hlt, hv⟩ := List.getElem?_eq_some_iff.1 hx
                  have : Nat.ble (o + (0 + 1)) cs.length = true := by rw [ble_dec]; exact decide_eq_true (by omega)
                  rw [this, List.drop_eq_getElem_cons hlt, hv]
                  rfl
              | succ n =>
                simp only [oneF]
                cases hb : Nat.ble (o + (n + 1 + 1)) cs.length with
                | false => rfl
                | true =>
                  have hle := Nat.le_of_ble_eq_true hb
                  have h1 : o < cs.length := by omega
                  have h2 : o + 1 < cs.length := by omega
                  rw [List.drop_eq_getElem_cons h1, List.drop_eq_getElem_cons h2]
                  rfl
        | _ => rfl
    | _ => rfl
  | store n a x =>
    show eStore n a x tc H = _
    simp only [eStore, evalOp, evC_eq h]
    generalize a.ev tc.flatten = v
    cases v with
    | ptr b o => simp only [storeV, storeR, storeF_eq, lenF_eq]; rfl
    | _ => rfl
  | nilc x =>
    show eNilc x tc H = _
    simp only [eNilc, evalOp, evC_eq h]
    generalize x.ev tc.flatten = v
    cases v <;> rfl
  | bin op x y =>
    show eBin op x y tc H = _
    simp only [eBin, evalOp, evC_eq h, binL_eq, okV]
    rfl
  | fad off x => show eFad off x tc H = _; simp only [eFad, evalOp, evC_eq h]; rfl
  | fld agg n off x => show eFld agg n off x tc H = _; simp only [eFld, evalOp, evC_eq h]; rfl
  | iad z x i =>
    show eIad z x i tc H = _
    simp only [eIad, evalOp, evC_eq h]
    generalize x.ev tc.flatten = v
    cases v with
    | slice b o n c z' =>
      simp only [iadV]
      generalize i.ev tc.flatten = u
      cases u with
      | int k m =>
        cases m with
        | negSucc m => rfl
        | ofNat m =>
          simp only [iadI, forceN_eq]
          have e : Nat.blt m n = Nat.ble (m + 1) n := rfl
          rw [e]
          cases Nat.ble (m + 1) n <;> cases Nat.beq z z' <;> rfl
      | _ => rfl
    | _ => rfl
  | ixs x i =>
    show eIxs x i tc H = _
    simp only [eIxs, evalOp, evC_eq h]
    generalize x.ev tc.flatten = v
    cases v with
    | str s =>
      simp only [ixsV]
      generalize i.ev tc.flatten = u
      cases u with
      | int k m => cases m <;> simp only [ixsI, ixsR, nthF_eq]; rfl
      | _ => rfl
    | _ => rfl
  | ext i x =>
    show eExt i x tc H = _
    simp only [eExt, evalOp, evC_eq h]
    generalize x.ev tc.flatten = v
    cases v <;> simp only [extV, nthF_eq, okV]
    rfl
  | lens x =>
    show eLens x tc H = _
    simp only [eLens, evalOp, evC_eq h]
    generalize x.ev tc.flatten = v
    cases v <;> simp only [lensV, sintF, forceN_eq, lenF_eq]
    rfl
  | un op x =>
    show eUn op x tc H = _
    simp only [eUn, evalOp, evC_eq h, unF_eq, okV]
    rfl
  | build zero parts => show eBuild zero parts tc H = _; simp only [eBuild, aggR, evalOp, fillF_eq h]; rfl
  | bslice elem z len zero parts =>
    show eBslice elem z len zero parts tc H = _
    simp only [eBslice, slcR, evalOp, fillF_eq h, forceN_eq, pth, setP_pthF _ _ _ _ (Nat.lt_succ_self _)]
    rfl
  | sls lo hi x =>
    show eSls lo hi x tc H = _
    simp only [eSls, evalOp, evC_eq h]
    generalize x.ev tc.flatten = v
    cases v <;> try rfl
    simp only [slsV, slsH, slsL, lenF_eq, takeF_eq, dropF_eq, idxF_eq h]
    rfl
  | iaa n z x i =>
    show eIaa n z x i tc H = _
    simp only [eIaa, evalOp, evC_eq h]
    generalize x.ev tc.flatten = v
    generalize i.ev tc.flatten = u
    cases v <;> try rfl
    cases u <;> try rfl
    rename_i b o k m
    cases m with
    | negSucc m => rfl
    | ofNat m =>
      simp only [iaaV, forceN_eq]
      have e : Nat.blt m n = Nat.ble (m + 1) n := rfl
      rw [e]
      cases Nat.ble (m + 1) n <;> rfl
  | mkf f first captured => show eMkf f first captured tc H = _; simp only [eMkf, evalOp, evsC_eq h]
  | lenl x => show eLenl x tc H = _; simp only [eLenl, evalOp, evC_eq h]; rfl
  | app str elem z bytes s x => show eApp str elem z bytes s x tc H = _; simp only [eApp, evalOp, evC_eq h, apF_eq]
  | _ => rfl
/-! ### Steps -/
noncomputable def caldV (call : CallS) (v : SV) (args : List SV) (H : Heap) : R1 := match v with
  | .func f fs cs => call f (fs ++ (args ++ cs)) H
  | _ => none
noncomputable def evalKF (call : CallS) (k : SK) : TC → Heap → R1 := match k with
  | .op so => evalOpF so
  | .call f xs => fun tc H => call f (evsC xs tc) H
  | .calld x xs => fun tc H => caldV call (evC x tc) (evsC xs tc) H
  | k => fun tc H => evalK call k tc.flatten H
theorem evalKF_eq (call : CallS) {tc : TC} (h : OkC tc) (k : SK) (H : Heap) : evalKF call k tc H = evalK call k tc.flatten H := by
  cases k with
  | op so => exact evalOpF_eq h so H
  | call f xs => simp only [evalKF, evalK, evsC_eq h]
  | calld x xs =>
    simp only [evalKF, evalK, evsC_eq h, evC_eq h, caldV]
    rfl
  | inv x tab xs => rfl
abbrev R2 := Option (TC × Heap)
def Sim2 (r : R2) (s : Option (T × Heap)) : Prop := match r with
  | none => s = none
  | some p => s = some (p.1.flatten, p.2) ∧ OkC p.1
noncomputable def putF (dst : Option Nat) (tc : TC) (v : SV) : TC := match dst with
  | none => tc
  | some d => setC tc d v
noncomputable def contF (dst : Option Nat) (ih : TC → Heap → R2) (tc : TC) (r : R1) : R2 := match r with
  | some p => ih (putF dst tc p.1) p.2
  | none => none
noncomputable def wantF (v : SV) : Bool → Bool := match v with
  | .bool b => match b with
    | true => fun w => w
    | false => fun w => !w
  | _ => fun _ => false
noncomputable def guardF (g : Option (Nat × Bool)) (a b : TC → Heap → R2) : TC → Heap → R2 := match g with
  | none => a
  | some p => fun tc H => match wantF (getC tc p.1) p.2 with
    | true => a tc H
    | false => b tc H
noncomputable def stepF (call : CallS) (o : SOper) (ih : TC → Heap → R2) : TC → Heap → R2 := match o with
  | ⟨dst, k, g⟩ => guardF g (fun tc H => contF dst ih tc (evalKF call k tc H)) (fun tc H => ih (putF dst tc .undef) H)
noncomputable def evalOpsF (call : CallS) : List SOper → TC → Heap → R2 := fun l => List.rec (motive := fun _ => TC → Heap → R2) (fun tc H => some (tc, H)) (fun o _ ih => stepF call o ih) l
theorem putF_eq {tc : TC} (h : OkC tc) (dst : Option Nat) (v : SV) : (putF dst tc v).flatten = putT tc.flatten dst v ∧ OkC (putF dst tc v) := by
  cases dst with
  | none => exact ⟨rfl, h⟩
  | some d => exact setC_eq h d v
theorem evalOpsF_eq (call : CallS) : ∀ (l : List SOper) (tc : TC) (H : Heap), OkC tc → Sim2 (evalOpsF call l tc H) (evalOps call l tc.flatten H)
  | [], tc, H, h => ⟨rfl, h⟩
  | ⟨dst, k, g⟩ :: l, tc, H, h => by
    have ih := evalOpsF_eq call l
    have e : evalOpsF call (⟨dst, k, g⟩ :: l) tc H = guardF g (fun tc H => contF dst (evalOpsF call l) tc (evalKF call k tc H)) (fun tc H => evalOpsF call l (putF dst tc .undef) H) tc H := rfl
    rw [e]
    have run : Sim2 (contF dst (evalOpsF call l) tc (evalKF call k tc H)) (match evalK call k tc.flatten H with | some (v, H') => evalOps call l (putT tc.flatten dst v) H' | none => none) := by
      rw [evalKF_eq call h]
      cases evalK call k tc.flatten H with
      | none => rfl
      | some p =>
        obtain ⟨h1, h2⟩ := putF_eq h dst p.1
        simp only [contF]
        rw [← h1]
        exact ih _ _ h2
    have skip : Sim2 (evalOpsF call l (putF dst tc .undef) H) (evalOps call l (putT tc.flatten dst .undef) H) := by
      obtain ⟨h1, h2⟩ := putF_eq h dst .undef
      rw [← h1]
      exact ih _ _ h2
    cases g with
    | none =>
      simp only [guardF, evalOps, wantedS]
      exact run
    | some p =>
      obtain ⟨t, want⟩ := p
      simp only [guardF, evalOps, wantedS, getC_eq h]
      generalize tc.flatten.getD t SV.undef = v
      cases v with
      | bool b =>
        cases b <;> cases want
        · exact run
        · exact skip
        · exact skip
        · exact run
      | _ => exact skip
/-! ### Code -/
abbrev R3 := Option (SExit × TC × DS × Heap)
def Sim3 (r : R3) (s : Option (SExit × T × DS × Heap)) : Prop := match r with
  | none => s = none
  | some p => s = some (p.1, p.2.1.flatten, p.2.2) ∧ OkC p.2.1
noncomputable def normF (D : DS) (r : R2) : R3 := match r with
  | some p => some (.normal, p.1, D, p.2)
  | none => none
noncomputable def regdF (x : X) (xs : List X) (D : DS) (r : R2) : R3 := match r with
  | some p => match evC x p.1 with
    | .func f fs cs => some (.normal, p.1, (f, fs ++ (evsC xs p.1 ++ cs)) :: D, p.2)
    | _ => none
  | none => none
noncomputable def seqF (b : TC → DS → Heap → R3) (r : R3) : R3 := match r with
  | some p => match p.1 with
    | .normal => b p.2.1 p.2.2.1 p.2.2.2
    | _ => r
  | none => none
noncomputable def condF (v : SV) (a b : TC → DS → Heap → R3) : TC → DS → Heap → R3 := match v with
  | .bool c => match c with
    | true => a
    | false => b
  | _ => fun _ _ _ => none
noncomputable def blockF (id : Nat) (r : R3) : R3 := match r with
  | some p => match p.1 with
    | .exit id' => match Nat.beq id' id with
      | true => some (.normal, p.2)
      | false => some (.exit id', p.2)
    | _ => r
  | none => none
noncomputable def loopF (body : TC → DS → Heap → R3) : Nat → TC → DS → Heap → R3 := fun n => Nat.rec (motive := fun _ => TC → DS → Heap → R3) (fun _ _ _ => none)
  (fun _ ih tc D H => seqF ih (body tc D H)) n
theorem seqF_sim {b : TC → DS → Heap → R3} {b' : T → DS → Heap → Option (SExit × T × DS × Heap)} (hb : ∀ tc D H, OkC tc → Sim3 (b tc D H) (b' tc.flatten D H)) (r : R3) (s : Option (SExit × T × DS × Heap)) : Sim3 r s → Sim3 (seqF b r) (match s with
    | some (.normal, ts', D', H') => b' ts' D' H'
    | r => r) := by
  intro h
  cases r with
  | none => rw [show s = none from h]; rfl
  | some p =>
    obtain ⟨h1, h2⟩ := h
    subst h1
    obtain ⟨e, t, d, k⟩ := p
    cases e
    · exact hb t d k h2
    · exact ⟨rfl, h2⟩
    · exact ⟨rfl, h2⟩
theorem loopF_sim {body : TC → DS → Heap → R3} {body' : T → DS → Heap → Option (SExit × T × DS × Heap)} (hb : ∀ tc D H, OkC tc → Sim3 (body tc D H) (body' tc.flatten D H)) :
    ∀ (n : Nat) (tc : TC) (D : DS) (H : Heap), OkC tc → Sim3 (loopF body n tc D H) (loopN body' n tc.flatten D H)
  | 0, _, _, _, _ => rfl
  | n + 1, tc, D, H, h => by
    have e : loopF body (n + 1) tc D H = seqF (loopF body n) (body tc D H) := rfl
    rw [e, loopN]
    exact seqF_sim (loopF_sim hb n) _ _ (hb tc D H h)
noncomputable def toC (l : List SV) : TC := rowsF (lenF l / 8) l
theorem toC_eq (l : List SV) : (toC l).flatten = l ∧ OkC (toC l) := by
  obtain ⟨h1, h2, _⟩ := rowsF_eq (l.length / 8) l (by omega) (by omega)
  unfold toC
  rw [lenF_eq]
  exact ⟨h1, h2⟩
/-! ### Regions that draw their order -/
noncomputable def fstF (r : R1) : Option SV := match r with
  | some p => some p.1
  | none => none
noncomputable def quietF (k : SK) : TC → Heap → Option SV := match k with
  | .op so => fun tc H => fstF (evalOpF so tc H)
  | _ => fun _ _ => none
theorem quietF_eq {tc : TC} (h : OkC tc) (k : SK) (H : Heap) : quietF k tc H = quietOp k tc.flatten H := by
  cases k with
  | op so =>
    simp only [quietF, quietOp, evalOpF_eq h]
    cases evalOp so tc.flatten H <;> rfl
  | _ => rfl
noncomputable def wantC (g : Option (Nat × Bool)) (tc : TC) : Bool := match g with
  | none => true
  | some p => wantF (getC tc p.1) p.2
theorem wantC_eq {tc : TC} (h : OkC tc) (g : Option (Nat × Bool)) : wantC g tc = wantedS tc.flatten g := by
  cases g with
  | none => rfl
  | some p =>
    obtain ⟨t, want⟩ := p
    simp only [wantC, wantedS, getC_eq h]
    generalize tc.flatten.getD t SV.undef = v
    cases v with
    | bool b => cases b <;> rfl
    | _ => rfl
noncomputable def foreV (o : SOper) (tc : TC) (r : Option SV) : TC := match r with
  | some v => putF o.dst tc v
  | none => tc
noncomputable def foreF (o : SOper) (dk : DK) (tc : TC) (H : Heap) : TC := match dk with
  | .eff => tc
  | _ => match wantC o.guard tc with
    | true => foreV o tc (quietF o.k tc H)
    | false => putF o.dst tc .undef
theorem foreF_eq {tc : TC} (h : OkC tc) (o : SOper) (dk : DK) (H : Heap) : (foreF o dk tc H).flatten = foreT o dk tc.flatten H ∧ OkC (foreF o dk tc H) := by
  have key : (match wantC o.guard tc with | true => foreV o tc (quietF o.k tc H) | false => putF o.dst tc .undef).flatten = (match wantedS tc.flatten o.guard with
    | true => match quietOp o.k tc.flatten H with
      | some v => putT tc.flatten o.dst v
      | none => tc.flatten
    | false => putT tc.flatten o.dst .undef) ∧ OkC (match wantC o.guard tc with | true => foreV o tc (quietF o.k tc H) | false => putF o.dst tc .undef) := by
    rw [wantC_eq h, quietF_eq h]
    cases wantedS tc.flatten o.guard with
    | false => exact putF_eq h _ _
    | true =>
      cases quietOp o.k tc.flatten H with
      | none => exact ⟨rfl, h⟩
      | some v => exact putF_eq h _ _
  cases dk with
  | eff => exact ⟨rfl, h⟩
  | _ => exact key
noncomputable def consV (v : SV) (r : Option (List SV × Heap)) : Option (List SV × Heap) := match r with
  | some p => some (v :: p.1, p.2)
  | none => none
noncomputable def hoistR (ih : TC → Heap → Option (List SV × Heap)) (o : SOper) (tc : TC) (r : R1) : Option (List SV × Heap) := match r with
  | some p => consV p.1 (ih (putF o.dst tc p.1) p.2)
  | none => none
noncomputable def hoistK (ih : TC → Heap → Option (List SV × Heap)) (o : SOper) (tc : TC) (H : Heap) (k : SK) : Option (List SV × Heap) := match k with
  | .op so => hoistR ih o tc (evalOpF so tc H)
  | _ => none
noncomputable def hoist1 (ih : TC → Heap → Option (List SV × Heap)) (o : SOper) (tc : TC) (H : Heap) (dk : DK) : Option (List SV × Heap) := match dk with
  | .hoist _ _ => hoistK ih o tc H o.k
  | dk => consV .undef (ih (foreF o dk tc H) H)
noncomputable def hoistF (ops : List (SOper × DK)) : TC → Heap → Option (List SV × Heap) := List.rec (motive := fun _ => TC → Heap → Option (List SV × Heap)) (fun _ H => some ([], H)) (fun p _ ih tc H => hoist1 ih p.1 tc H p.2) ops
theorem hoistF_eq : ∀ (ops : List (SOper × DK)) (tc : TC) (H : Heap), OkC tc → hoistF ops tc H = hoistD ops tc.flatten H
  | [], _, _, _ => rfl
  | (o, dk) :: ops, tc, H, h => by
    have e : hoistF ((o, dk) :: ops) tc H = hoist1 (hoistF ops) o tc H dk := rfl
    obtain ⟨f1, f2⟩ := foreF_eq h o dk H
    have other : consV .undef (hoistF ops (foreF o dk tc H) H) = match hoistD ops (foreT o dk tc.flatten H) H with
        | some (vs, H') => some (.undef :: vs, H')
        | none => none := by
      rw [hoistF_eq ops _ _ f2, f1]
      cases hoistD ops _ H <;> rfl
    cases dk with
    | hoist lo hi =>
      have e2 : hoistD ((o, .hoist lo hi) :: ops) tc.flatten H = match o.k with
          | .op so => match evalOp so tc.flatten H with
            | some (v, H') => match hoistD ops (putT tc.flatten o.dst v) H' with
              | some (vs, H'') => some (v :: vs, H'')
              | none => none
            | none => none
          | _ => none := rfl
      rw [e, e2]
      simp only [hoist1]
      cases o.k with
      | op so =>
        simp only [hoistK, evalOpF_eq h]
        cases evalOp so tc.flatten H with
        | none => rfl
        | some p =>
          obtain ⟨g1, g2⟩ := putF_eq h o.dst p.1
          simp only [hoistR, hoistF_eq ops _ _ g2, g1]
          cases hoistD ops (putT tc.flatten o.dst p.1) p.2 <;> rfl
      | _ => rfl
    | _ => rw [e]; exact other
abbrev R4 := Option (List TC × List SV × List Heap × TC)
noncomputable def effC (tc : TC) (v : SV) (H : Heap) (r : R4) : R4 := match r with
  | some q => some (tc :: q.1, v :: q.2.1, H :: q.2.2.1, q.2.2.2)
  | none => none
noncomputable def purC (tc : TC) (v : SV) (r : R4) : R4 := match r with
  | some q => some (tc :: q.1, v :: q.2.1, q.2.2)
  | none => none
noncomputable def effG (call : CallS) (o : SOper) (tc : TC) (H : Heap) : R1 := match wantC o.guard tc with
  | true => evalKF call o.k tc H
  | false => some (.undef, H)
noncomputable def effK (ih : TC → Heap → R4) (o : SOper) (tc : TC) (H : Heap) (r : R1) : R4 := match r with
  | some p => effC tc p.1 H (ih (putF o.dst tc p.1) p.2)
  | none => none
noncomputable def purV (o : SOper) (dk : DK) (hv : SV) (tc : TC) (H : Heap) : Option SV := match wantC o.guard tc with
  | true => match dk with
    | .hoist _ _ => some hv
    | _ => quietF o.k tc H
  | false => some .undef
noncomputable def purK (ih : TC → Heap → R4) (o : SOper) (tc : TC) (H : Heap) (r : Option SV) : R4 := match r with
  | some v => purC tc v (ih (putF o.dst tc v) H)
  | none => none
noncomputable def text1 (call : CallS) (ih : TC → Heap → R4) (o : SOper) (dk : DK) (hv : SV) (tc : TC) (H : Heap) : R4 := match dk with
  | .eff => effK ih o tc H (effG call o tc H)
  | dk => purK ih o tc H (purV o dk hv tc H)
noncomputable def textF (call : CallS) (ops : List (SOper × DK)) : List SV → TC → Heap → R4 := List.rec (motive := fun _ => List SV → TC → Heap → R4) (fun _ tc H => some ([], [], [H], tc))
  (fun p _ ih hvs => List.rec (motive := fun _ => TC → Heap → R4) (fun _ _ => none) (fun hv hvs _ => text1 call (ih hvs) p.1 p.2 hv) hvs) ops
def Sim4 (r : R4) (s : Option (List T × List SV × List Heap × T)) : Prop := match r with
  | none => s = none
  | some q => s = some (q.1.map List.flatten, q.2.1, q.2.2.1, q.2.2.2.flatten) ∧ (∀ t ∈ q.1, OkC t) ∧ OkC q.2.2.2
theorem textF_eq (call : CallS) : ∀ (ops : List (SOper × DK)) (hvs : List SV) (tc : TC) (H : Heap), OkC tc → Sim4 (textF call ops hvs tc H) (textD call ops hvs tc.flatten H)
  | [], _, tc, H, h => by refine ⟨rfl, ?_, h⟩; intro t ht; cases ht
  | _ :: _, [], _, _, _ => rfl
  | (o, dk) :: ops, hv :: hvs, tc, H, h => by
    have e : textF call ((o, dk) :: ops) (hv :: hvs) tc H = text1 call (textF call ops hvs) o dk hv tc H := rfl
    rw [e]
    have pure' : ∀ (r : Option SV), Sim4 (purK (textF call ops hvs) o tc H r) (match r with
      | none => none
      | some v => match textD call ops hvs (putT tc.flatten o.dst v) H with
        | some (tss, vs, hs, tn) => some (tc.flatten :: tss, v :: vs, hs, tn)
        | none => none) := by
      intro r
      cases r with
      | none => rfl
      | some v =>
        obtain ⟨g1, g2⟩ := putF_eq h o.dst v
        have ih := textF_eq call ops hvs _ H g2
        rw [g1] at ih
        simp only [purK]
        revert ih
        cases textF call ops hvs (putF o.dst tc v) H with
        | none => intro ih; rw [show textD call ops hvs (putT tc.flatten o.dst v) H = none from ih]; rfl
        | some q =>
          intro ih
          rw [ih.1]
          refine ⟨rfl, fun t ht => ?_, ih.2.2⟩
          rcases List.mem_cons.1 ht with rfl | ht
          · exact h
          · exact ih.2.1 t ht
    cases dk with
    | eff =>
      have eff' : ∀ r : R1, Sim4 (effK (textF call ops hvs) o tc H r) (match r with
          | none => none
          | some (v, H') => match textD call ops hvs (putT tc.flatten o.dst v) H' with
            | some (tss, vs, hs, tn) => some (tc.flatten :: tss, v :: vs, H :: hs, tn)
            | none => none) := by
       intro r
       cases r with
       | none => rfl
       | some p =>
        obtain ⟨g1, g2⟩ := putF_eq h o.dst p.1
        have ih := textF_eq call ops hvs _ p.2 g2
        rw [g1] at ih
        simp only [effK]
        revert ih
        cases textF call ops hvs (putF o.dst tc p.1) p.2 with
        | none => intro ih; rw [show textD call ops hvs (putT tc.flatten o.dst p.1) p.2 = none from ih]; rfl
        | some q =>
          intro ih
          rw [ih.1]
          refine ⟨rfl, fun t ht => ?_, ih.2.2⟩
          rcases List.mem_cons.1 ht with rfl | ht
          · exact h
          · exact ih.2.1 t ht
      have e3 : effG call o tc H = (match wantedS tc.flatten o.guard with | true => evalK call o.k tc.flatten H | false => some (SV.undef, H)) := by
        simp only [effG, wantC_eq h, evalKF_eq call h]
        try (cases wantedS tc.flatten o.guard <;> rfl)
      rw [textD]
      simp only [text1, e3]
      exact eff' _
    | pure =>
      have e3 : purV o .pure hv tc H = (match wantedS tc.flatten o.guard with | true => quietOp o.k tc.flatten H | false => some SV.undef) := by
        simp only [purV, wantC_eq h, quietF_eq h]
        try (cases wantedS tc.flatten o.guard <;> rfl)
      rw [textD]
      · simp only [text1, e3]
        exact pure' _
      all_goals (intros; contradiction)
    | read lo hi =>
      have e3 : purV o (.read lo hi) hv tc H = (match wantedS tc.flatten o.guard with | true => quietOp o.k tc.flatten H | false => some SV.undef) := by
        simp only [purV, wantC_eq h, quietF_eq h]
        try (cases wantedS tc.flatten o.guard <;> rfl)
      rw [textD]
      · simp only [text1, e3]
        exact pure' _
      all_goals (intros; contradiction)
    | hoist lo hi =>
      have e3 : purV o (.hoist lo hi) hv tc H = (match wantedS tc.flatten o.guard with | true => some hv | false => some SV.undef) := by
        simp only [purV, wantC_eq h]
        try (cases wantedS tc.flatten o.guard <;> rfl)
      rw [textD]
      · simp only [text1, e3]
        exact pure' _
      all_goals (intros; contradiction)
noncomputable def allF (p : Heap → Bool) (hs : List Heap) : Nat → Nat → Bool := List.rec (motive := fun _ => Nat → Nat → Bool) (fun _ _ => true)
  (fun h _ ih lo hi => Nat.rec (motive := fun _ => Bool) (Bool.rec (motive := fun _ => Bool) false (Nat.rec (motive := fun _ => Bool) true (fun k _ => ih 0 k) hi) (p h)) (fun l _ => Nat.rec (motive := fun _ => Bool) true (fun k _ => ih l k) hi) lo) hs
theorem allF_eq (p : Heap → Bool) : ∀ (hs : List Heap) (lo hi : Nat), allF p hs lo hi = allFrom p hs lo hi
  | [], _, _ => rfl
  | h :: hs, 0, 0 => by
    have e : allF p (h :: hs) 0 0 = Bool.rec (motive := fun _ => Bool) false true (p h) := rfl
    rw [e, allFrom]
    cases p h <;> rfl
  | h :: hs, 0, hi + 1 => by
    have e : allF p (h :: hs) 0 (hi + 1) = Bool.rec (motive := fun _ => Bool) false (allF p hs 0 hi) (p h) := rfl
    rw [e, allFrom, allF_eq p hs]
    cases p h <;> rfl
  | h :: hs, lo + 1, 0 => rfl
  | h :: hs, lo + 1, hi + 1 => by
    have e : allF p (h :: hs) (lo + 1) (hi + 1) = allF p hs lo hi := rfl
    rw [e, allFrom, allF_eq p hs]
noncomputable def sameF (v : SV) (r : Option SV) : Bool := match r with
  | some u => beqS u v
  | none => false
noncomputable def bsR (elem : TypeId) (b : Nat) (lo hi : Nat) (tc : TC) (parts : List (Nat × Nat × X)) (hs : List Heap) (r : Option (List SV)) : Bool := match r with
  | some cs => allFrom (rowIs cs elem b) hs lo hi
  | none => false
noncomputable def readF (hs : List Heap) (o : SOper) (dk : DK) (tc : TC) (v : SV) : Bool := match dk with
  | .read lo hi => allF (fun H => sameF v (quietF o.k tc H)) hs lo hi
  | .hoist lo hi => match o.k, v with
    | .op (.alloc zero elem), .ptr b 0 => allFrom (rowIs zero elem b) hs lo hi
    | .op (.bslice elem _ _ zero parts), .slice b 0 _ _ _ => bsR elem b lo hi tc parts hs (fillF parts tc zero)
    | _, _ => false
  | _ => true
noncomputable def andF (a b : Bool) : Bool := match a with
  | true => b
  | false => false
noncomputable def guard1 (g : Bool) (b : Bool) : Bool := match g with
  | true => b
  | false => true
noncomputable def readsF (hs : List Heap) (ops : List (SOper × DK)) : List TC → List SV → Bool := List.rec (motive := fun _ => List TC → List SV → Bool) (fun _ _ => true)
  (fun p _ ih tss => List.rec (motive := fun _ => List SV → Bool) (fun _ => false) (fun t tss _ vs => List.rec (motive := fun _ => Bool) false (fun v vs _ => andF (guard1 (wantC p.1.guard t) (readF hs p.1 p.2 t v)) (ih tss vs)) vs) tss) ops
theorem readF_eq {t : TC} (ht : OkC t) (hs : List Heap) (o : SOper) (dk : DK) (v : SV) : readF hs o dk t v = (match dk with
        | .read lo hi => allFrom (fun H => match quietOp o.k t.flatten H with | some u => beqS u v | none => false) hs lo hi
        | .hoist lo hi => match o.k, v with
          | .op (.alloc zero elem), .ptr b 0 => allFrom (rowIs zero elem b) hs lo hi
          | .op (.bslice elem _ _ zero parts), .slice b 0 _ _ _ => match fillS t.flatten zero parts with
            | some cs => allFrom (rowIs cs elem b) hs lo hi
            | none => false
          | _, _ => false
        | _ => true) := by
  cases dk with
  | read lo hi =>
    simp only [readF, allF_eq]
    congr 1
    funext H
    rw [quietF_eq ht]
    cases quietOp o.k t.flatten H <;> rfl
  | hoist lo hi =>
    obtain ⟨d, k, g⟩ := o
    cases k with
    | op so =>
      cases so <;> try rfl
      · cases v <;> try rfl
        rename_i b off
        cases off <;> rfl
      · cases v <;> try rfl
        rename_i b off n c z
        cases off <;> try rfl
        simp only [readF, fillF_eq ht]
        cases fillS t.flatten _ _ <;> rfl
    | _ => rfl
  | _ => rfl
theorem readsF_eq (hs : List Heap) : ∀ (ops : List (SOper × DK)) (tss : List TC) (vs : List SV), (∀ t ∈ tss, OkC t) → readsF hs ops tss vs = readsD hs ops (tss.map List.flatten) vs
  | [], _, _, _ => rfl
  | _ :: _, [], _, _ => rfl
  | _ :: _, _ :: _, [], _ => rfl
  | (o, dk) :: ops, t :: tss, v :: vs, h => by
    have e : readsF hs ((o, dk) :: ops) (t :: tss) (v :: vs) = andF (guard1 (wantC o.guard t) (readF hs o dk t v)) (readsF hs ops tss vs) := rfl
    have ht := h t (List.mem_cons_self ..)
    have e5 : readsD hs ((o, dk) :: ops) (t.flatten :: tss.map List.flatten) (v :: vs) = ((match wantedS t.flatten o.guard with | false => true | true => readF hs o dk t v) && readsD hs ops (tss.map List.flatten) vs) := by
      rw [readF_eq ht]
      rfl
    rw [e, readsF_eq hs ops tss vs fun x hx => h x (List.mem_cons_of_mem _ hx), List.map_cons, e5, wantC_eq ht]
    cases wantedS t.flatten o.guard
    · rfl
    · simp only [guard1]
      cases readF hs o dk t v <;> rfl
noncomputable def lastF (d : Option Heap) (hs : List Heap) : Option Heap := List.rec (motive := fun _ => Option Heap → Option Heap) (fun d => d) (fun h _ ih _ => ih (some h)) hs d
theorem lastF_eq : ∀ (hs : List Heap) (d : Option Heap), lastF d hs = match hs.getLast? with | some h => some h | none => d
  | [], d => by cases d <;> rfl
  | h :: hs, d => by
    have e : lastF d (h :: hs) = lastF (some h) hs := rfl
    rw [e, lastF_eq hs, List.getLast?_cons]
    cases hs.getLast? <;> rfl
noncomputable def endsF (D : DS) (tn : TC) (r : Option Heap) : Option (SExit × TC × DS × Heap) := match r with
  | some Hn => some (.normal, tn, D, Hn)
  | none => none
noncomputable def chkF (ops : List (SOper × DK)) (swap : Bool) (D : DS) (r : R4) : Option (SExit × TC × DS × Heap) := match r with
  | some q => match andF (readsF q.2.2.1 ops q.1 q.2.1) (!swap || swapD ops (q.1.map List.flatten)) with
    | true => endsF D q.2.2.2 (lastF none q.2.2.1)
    | false => none
  | none => none
noncomputable def drF (call : CallS) (ops : List (SOper × DK)) (swap : Bool) (D : DS) (tc : TC) (r : Option (List SV × Heap)) : Option (SExit × TC × DS × Heap) := match r with
  | some p => chkF ops swap D (textF call ops p.1 tc p.2)
  | none => none
noncomputable def dregF (call : CallS) (ops : List (SOper × DK)) (swap : Bool) (tc : TC) (D : DS) (H : Heap) : Option (SExit × TC × DS × Heap) := drF call ops swap D tc (hoistF ops tc H)
theorem dregF_eq (call : CallS) (ops : List (SOper × DK)) (swap : Bool) {tc : TC} (h : OkC tc) (D : DS) (H : Heap) : Sim3 (dregF call ops swap tc D H) (match evalD call ops swap tc.flatten H with
    | some (ts', H') => some (.normal, ts', D, H')
    | none => none) := by
  unfold dregF evalD
  rw [hoistF_eq ops tc H h]
  cases hoistD ops tc.flatten H with
  | none => rfl
  | some p =>
    simp only [drF]
    have ht := textF_eq call ops p.1 tc p.2 h
    revert ht
    cases textF call ops p.1 tc p.2 with
    | none => intro ht; rw [show textD call ops p.1 tc.flatten p.2 = none from ht]; rfl
    | some q =>
      intro ht
      obtain ⟨h1, h2, h3⟩ := ht
      rw [h1]
      simp only [chkF, readsF_eq _ ops q.1 q.2.1 h2]
      cases readsD q.2.2.1 ops (q.1.map List.flatten) q.2.1 with
      | false => rfl
      | true =>
        simp only [andF, Bool.true_and]
        cases (!swap || swapD ops (q.1.map List.flatten)) with
        | false => rfl
        | true =>
          simp only [lastF_eq]
          cases q.2.2.1.getLast? with
          | none => rfl
          | some Hn => exact ⟨rfl, h3⟩
noncomputable def evalCF (call : CallS) (lf : Nat) (c : SCode) : TC → DS → Heap → R3 :=
  SCode.rec (motive := fun _ => TC → DS → Heap → R3)
    (fun tc D H => some (.normal, tc, D, H))
    (fun ops tc D H => normF D (evalOpsF call ops tc H))
    (fun ops swap tc D H => dregF call ops swap tc D H)
    (fun _ _ iha ihb tc D H => seqF ihb (iha tc D H))
    (fun x _ _ iha ihb tc => condF (evC x tc) iha ihb tc)
    (fun id _ ih tc D H => blockF id (ih tc D H))
    (fun _ ih => loopF ih lf)
    (fun id tc D H => some (.exit id, tc, D, H))
    (fun tc D H => some (.ret, tc, D, H))
    (fun _ _ _ => none)
    (fun ops x xs tc D H => regdF x xs D (evalOpsF call ops tc H))
    c
theorem evalCF_eq (call : CallS) (lf : Nat) : ∀ (c : SCode) (tc : TC) (D : DS) (H : Heap), OkC tc → Sim3 (evalCF call lf c tc D H) (evalC call lf c tc.flatten D H)
  | .skip, tc, D, H, h => ⟨rfl, h⟩
  | .reg ops, tc, D, H, h => by
    have e : evalCF call lf (.reg ops) tc D H = normF D (evalOpsF call ops tc H) := rfl
    have hs := evalOpsF_eq call ops tc H h
    rw [e, evalC]
    revert hs
    cases evalOpsF call ops tc H with
    | none => intro hs; rw [show evalOps call ops tc.flatten H = none from hs]; rfl
    | some p => intro hs; rw [hs.1]; exact ⟨rfl, hs.2⟩
  | .dreg ops swap, tc, D, H, h => dregF_eq call ops swap h D H
  | .seq a b, tc, D, H, h => by
    have e : evalCF call lf (.seq a b) tc D H = seqF (evalCF call lf b) (evalCF call lf a tc D H) := rfl
    rw [e, evalC]
    exact seqF_sim (evalCF_eq call lf b) _ _ (evalCF_eq call lf a tc D H h)
  | .cond c a b, tc, D, H, h => by
    have e : evalCF call lf (.cond c a b) tc D H = condF (evC c tc) (evalCF call lf a) (evalCF call lf b) tc D H := rfl
    rw [e, evC_eq h, evalC]
    generalize c.ev tc.flatten = v
    cases v with
    | bool k =>
      cases k
      · exact evalCF_eq call lf b tc D H h
      · exact evalCF_eq call lf a tc D H h
    | _ => rfl
  | .block id b, tc, D, H, h => by
    have e : evalCF call lf (.block id b) tc D H = blockF id (evalCF call lf b tc D H) := rfl
    have hs := evalCF_eq call lf b tc D H h
    rw [e, evalC]
    revert hs
    cases evalCF call lf b tc D H with
    | none => intro hs; rw [show evalC call lf b tc.flatten D H = none from hs]; rfl
    | some p =>
      intro hs
      rw [hs.1]
      obtain ⟨x, t, d, k⟩ := p
      cases x with
      | normal => exact ⟨rfl, hs.2⟩
      | ret => exact ⟨rfl, hs.2⟩
      | exit i =>
        simp only [blockF]
        cases Nat.beq i id
        · exact ⟨rfl, hs.2⟩
        · exact ⟨rfl, hs.2⟩
  | .loop b, tc, D, H, h => by
    have e : evalCF call lf (.loop b) tc D H = loopF (evalCF call lf b) lf tc D H := rfl
    rw [e, evalC]
    exact loopF_sim (evalCF_eq call lf b) lf tc D H h
  | .exit id, tc, D, H, h => ⟨rfl, h⟩
  | .ret, tc, D, H, h => ⟨rfl, h⟩
  | .bad, tc, D, H, h => rfl
  | .regd ops x xs, tc, D, H, h => by
    have e : evalCF call lf (.regd ops x xs) tc D H = regdF x xs D (evalOpsF call ops tc H) := rfl
    have hs := evalOpsF_eq call ops tc H h
    rw [e, evalC]
    revert hs
    cases evalOpsF call ops tc H with
    | none => intro hs; rw [show evalOps call ops tc.flatten H = none from hs]; rfl
    | some p =>
      intro hs
      rw [hs.1]
      simp only [regdF, evC_eq hs.2, evsC_eq hs.2]
      generalize x.ev p.1.flatten = v
      cases v <;> first | rfl | exact ⟨rfl, hs.2⟩
noncomputable def undF (n : Nat) : List SV := Nat.rec (motive := fun _ => List SV) [] (fun _ ih => SV.undef :: ih) n
theorem undF_eq (n : Nat) : undF n = List.replicate n SV.undef := by
  induction n with
  | zero => rfl
  | succ n ih => exact congrArg (SV.undef :: ·) ih
noncomputable def startF (args : List SV) (n : Nat) : TC := toC (appF args (undF (n - lenF args)))
noncomputable def aggO (agg : Bool) (r : Option (List SV)) : Option SV := match r with
  | some cs => match agg with
    | true => some (.agg cs)
    | false => match cs with
      | [v] => some v
      | _ => none
  | none => none
noncomputable def cellV (agg : Bool) (n : Nat) (v : SV) (H : Heap) : Option SV := match v with
  | .ptr b o => aggO agg (loadCF H b o n)
  | _ => none
noncomputable def resO (r : SRes) (tc : TC) (H : Heap) : Option SV := match r with
  | .tmp t => some (getC tc t)
  | .cell t agg n => cellV agg n (getC tc t) H
theorem resO_eq {tc : TC} (h : OkC tc) (r : SRes) (H : Heap) : resO r tc H = resOne tc.flatten H r := by
  cases r with
  | tmp t => simp only [resO, resOne, getC_eq h]
  | cell t agg n =>
    simp only [resO, resOne, getC_eq h]
    generalize tc.flatten.getD t SV.undef = v
    cases v <;> try rfl
    simp only [cellV, loadCF_eq]
    rfl
noncomputable def consO (x : SV) (r : Option (List SV)) : Option (List SV) := match r with
  | some l => some (x :: l)
  | none => none
noncomputable def bindO (x : Option SV) (r : Option (List SV)) : Option (List SV) := match x with
  | some x => consO x r
  | none => none
noncomputable def resL (rs : List SRes) (tc : TC) (H : Heap) : Option (List SV) := List.rec (motive := fun _ => Option (List SV)) (some []) (fun r _ ih => bindO (resO r tc H) ih) rs
theorem resL_eq {tc : TC} (h : OkC tc) (H : Heap) : ∀ rs : List SRes, resL rs tc H = mapO (resOne tc.flatten H) rs
  | [] => rfl
  | r :: rs => by
    have e : resL (r :: rs) tc H = bindO (resO r tc H) (resL rs tc H) := rfl
    rw [e, resL_eq h H rs, resO_eq h, mapO]
    cases resOne tc.flatten H r <;> try rfl
    simp only [bindO]
    cases mapO (resOne tc.flatten H) rs <;> rfl
noncomputable def tupO (r : Option (List SV)) (H : Heap) : R1 := match r with
  | some l => match l with
    | [] => some (.tup [], H)
    | x :: l => match l with
      | [] => some (x, H)
      | y :: l => some (.tup (x :: y :: l), H)
  | none => none
theorem tupO_eq {tc : TC} (h : OkC tc) (rs : List SRes) (H : Heap) (cd : FuncId → List SV → Heap → Option Heap) : tupO (resL rs tc H) H = runD cd rs tc.flatten [] H := by
  rw [resL_eq h]
  simp only [runD, resS]
  cases mapO (resOne tc.flatten H) rs with
  | none => rfl
  | some l =>
    match l with
    | [] => rfl
    | [x] => rfl
    | x :: y :: l => rfl
noncomputable def endD (tab : FuncId → Option SFun) (call : CallS) (lf : Nat) (rs : List SRes) (tc : TC) (D : DS) (H : Heap) : R1 := match D with
  | [] => tupO (resL rs tc H) H
  | p :: D => runD (callD tab call lf) rs tc.flatten (p :: D) H
theorem endD_eq {tc : TC} (h : OkC tc) (tab : FuncId → Option SFun) (call : CallS) (lf : Nat) (rs : List SRes) (D : DS) (H : Heap) : endD tab call lf rs tc D H = runD (callD tab call lf) rs tc.flatten D H := by
  cases D with
  | nil => exact tupO_eq h rs H _
  | cons p D => rfl
noncomputable def endF (tab : FuncId → Option SFun) (call : CallS) (lf : Nat) (rs : List SRes) (r : R3) : R1 := match r with
  | some p => match p.1 with
    | .exit _ => none
    | _ => endD tab call lf rs p.2.1 p.2.2.1 p.2.2.2
  | none => none
noncomputable def funF (tab : FuncId → Option SFun) (call : CallS) (lf : Nat) (o : Option SFun) (args : List SV) (H : Heap) : R1 := match o with
  | some s => match s with
    | .native g => g args H
    | .code sf => endF tab call lf sf.results (evalCF call lf sf.body (startF args sf.ntmps) [] H)
    | .dnative _ => none
  | none => none
noncomputable def callF (tab : FuncId → Option SFun) (lf : Nat) : Nat → CallS := fun n => Nat.rec (motive := fun _ => CallS) (fun _ _ _ => none) (fun _ ih f args H => funF tab ih lf (tab f) args H) n
theorem callF_eq (tab : FuncId → Option SFun) (lf : Nat) : ∀ (n : Nat), callF tab lf n = callS tab lf n
  | 0 => rfl
  | n + 1 => by
    funext f args H
    have e : callF tab lf (n + 1) f args H = funF tab (callF tab lf n) lf (tab f) args H := rfl
    rw [e, callF_eq tab lf n]
    simp only [callS]
    cases tab f with
    | none => rfl
    | some s =>
      cases s with
      | native g => rfl
      | dnative g => rfl
      | code sf =>
        obtain ⟨h1, h2⟩ := toC_eq (appF args (undF (sf.ntmps - lenF args)))
        have hs := evalCF_eq (callS tab lf n) lf sf.body _ [] H h2
        rw [h1, appF_eq, undF_eq, lenF_eq] at hs
        simp only [funF, startF, appF_eq, undF_eq, lenF_eq]
        revert hs
        cases evalCF (callS tab lf n) lf sf.body (toC (args ++ List.replicate (sf.ntmps - args.length) SV.undef)) [] H with
        | none => intro hs; rw [show evalC _ _ _ _ _ _ = none from hs]; rfl
        | some p =>
          intro hs
          rw [hs.1]
          obtain ⟨x, t, d, k⟩ := p
          cases x <;> first | rfl | exact endD_eq hs.2 _ _ _ _ _ _
noncomputable def tabF (t : Tr SFun) (f : FuncId) : Option SFun := getP t (pth f)
theorem tabF_eq (t : Tr SFun) : tabF t = fun f => t.get f := by
  funext f
  exact getP_pthF _ _ _ (Nat.lt_succ_self _)
noncomputable def treeF (l : List (Nat × SFun)) : Tr SFun := List.rec (motive := fun _ => Tr SFun) .leaf (fun p _ ih => setP (pth p.1) ih p.2) l
end Go.Sh
end
section
namespace Go.Sh
section
variable {call : CallS} {lf : Nat} {ops os : List SOper} {ts ts' : T} {H H' : Heap} {D : DS} {d n : Nat} {v : SV} {s : SOp} {a b c : SCode} {Q : T → Heap → Prop} {R : SExit → T → DS → Heap → Prop}
def EO (call : CallS) (ops : List SOper) (ts : T) (H : Heap) (Q : T → Heap → Prop) : Prop := ∃ ts' H', evalOps call ops ts H = some (ts', H') ∧ Q ts' H'
def EC (call : CallS) (lf : Nat) (c : SCode) (ts : T) (D : DS) (H : Heap) (R : SExit → T → DS → Heap → Prop) : Prop := ∃ x ts' D' H', evalC call lf c ts D H = some (x, ts', D', H') ∧ R x ts' D' H'
theorem EO_nil (h : Q ts H) : EO call [] ts H Q := ⟨ts, H, rfl, h⟩
theorem EO_mv (hv : ts.getD n SV.undef = v) (hs : ts.set d v = ts') (h : EO call os ts' H Q) : EO call (oy d n :: os) ts H Q := by
  obtain ⟨t2, H2, h1, h2⟩ := h
  subst hv hs
  exact ⟨t2, H2, h1, h2⟩
theorem EO_op (he : evalOp s ts H = some (v, H')) (hs : ts.set d v = ts') (h : EO call os ts' H' Q) : EO call (ox d s :: os) ts H Q := by
  obtain ⟨t2, H2, h1, h2⟩ := h
  subst hs
  refine ⟨t2, H2, ?_, h2⟩
  simp only [evalOps, ox, wantedS, evalK, he, putT, h1]
theorem EO_opN (he : evalOp s ts H = some (v, H')) (h : EO call os ts H' Q) : EO call (⟨none, .op s, none⟩ :: os) ts H Q := by
  obtain ⟨t2, H2, h1, h2⟩ := h
  refine ⟨t2, H2, ?_, h2⟩
  simp only [evalOps, wantedS, evalK, he, putT, h1]
theorem EO_call {f : FuncId} {xs : List X} {args : List SV} (ha : evs ts xs = args) (he : call f args H = some (v, H')) (hs : ts.set d v = ts') (h : EO call os ts' H' Q) : EO call (⟨some d, .call f xs, none⟩ :: os) ts H Q := by
  obtain ⟨t2, H2, h1, h2⟩ := h
  subst hs ha
  refine ⟨t2, H2, ?_, h2⟩
  simp only [evalOps, wantedS, evalK, he, putT, h1]
theorem EO_callN {f : FuncId} {xs : List X} {args : List SV} (ha : evs ts xs = args) (he : call f args H = some (v, H')) (h : EO call os ts H' Q) : EO call (⟨none, .call f xs, none⟩ :: os) ts H Q := by
  obtain ⟨t2, H2, h1, h2⟩ := h
  subst ha
  refine ⟨t2, H2, ?_, h2⟩
  simp only [evalOps, wantedS, evalK, he, putT, h1]
theorem EO_in {o : Option Nat} {k : SK} {t : Nat} {w : Bool} (hg : ts.getD t SV.undef = .bool w) (h : EO call (⟨o, k, none⟩ :: os) ts H Q) : EO call (⟨o, k, some (t, w)⟩ :: os) ts H Q := by
  obtain ⟨t2, H2, h1, h2⟩ := h
  refine ⟨t2, H2, ?_, h2⟩
  rw [← h1]
  cases w <;> simp only [evalOps, wantedS, hg, Bool.not_false]
theorem EO_out {k : SK} {t : Nat} {w w' : Bool} (hg : ts.getD t SV.undef = .bool w') (hw : w' = !w) (hs : ts.set d SV.undef = ts') (h : EO call os ts' H Q) : EO call (⟨some d, k, some (t, w)⟩ :: os) ts H Q := by
  obtain ⟨t2, H2, h1, h2⟩ := h
  refine ⟨t2, H2, ?_, h2⟩
  subst hs hw
  cases w <;> simp only [evalOps, wantedS, hg, Bool.not_false, Bool.not_true, putT, h1]
def seqR (call : CallS) (lf : Nat) (b : SCode) (R : SExit → T → DS → Heap → Prop) (x : SExit) (ts : T) (D : DS) (H : Heap) : Prop := match x with
  | .normal => EC call lf b ts D H R
  | x => R x ts D H
theorem seqR_normal (h : EC call lf b ts D H R) : seqR call lf b R .normal ts D H := h
theorem seqR_ret (h : R .ret ts D H) : seqR call lf b R .ret ts D H := h
theorem seqR_exit {id : Nat} (h : R (.exit id) ts D H) : seqR call lf b R (.exit id) ts D H := h
theorem EC_seq (h : EC call lf a ts D H (seqR call lf b R)) : EC call lf (.seq a b) ts D H R := by
  obtain ⟨x, t, d, h1, h2, h3⟩ := h
  cases x with
  | normal =>
    obtain ⟨x', t', d', h', h4, h5⟩ := h3
    exact ⟨x', t', d', h', by simp only [evalC, h2]; exact h4, h5⟩
  | exit id => exact ⟨_, _, _, _, by simp only [evalC, h2], h3⟩
  | ret => exact ⟨_, _, _, _, by simp only [evalC, h2], h3⟩
theorem EC_reg (h : EO call ops ts H fun ts' H' => R .normal ts' D H') : EC call lf (.reg ops) ts D H R := by
  obtain ⟨t, h1, h2, h3⟩ := h
  exact ⟨_, _, _, _, by simp only [evalC, h2], h3⟩
theorem EC_skip (h : R .normal ts D H) : EC call lf .skip ts D H R := ⟨_, _, _, _, rfl, h⟩
theorem EC_ret (h : R .ret ts D H) : EC call lf .ret ts D H R := ⟨_, _, _, _, rfl, h⟩
theorem EC_exit {id : Nat} (h : R (.exit id) ts D H) : EC call lf (.exit id) ts D H R := ⟨_, _, _, _, rfl, h⟩
theorem EC_cond {x : X} {p : Bool} (hc : x.ev ts = .bool p) (h1 : p = true → EC call lf a ts D H R) (h2 : p = false → EC call lf b ts D H R) : EC call lf (.cond x a b) ts D H R := by
  cases p with
  | true =>
    obtain ⟨x', t, d, h, h3, h4⟩ := h1 rfl
    exact ⟨x', t, d, h, by simp only [evalC, hc]; exact h3, h4⟩
  | false =>
    obtain ⟨x', t, d, h, h3, h4⟩ := h2 rfl
    exact ⟨x', t, d, h, by simp only [evalC, hc]; exact h3, h4⟩
def blockR (id : Nat) (R : SExit → T → DS → Heap → Prop) (x : SExit) (ts : T) (D : DS) (H : Heap) : Prop := match x with
  | .exit id' => match Nat.beq id' id with
    | true => R .normal ts D H
    | false => R (.exit id') ts D H
  | x => R x ts D H
theorem blockR_normal {id : Nat} (h : R .normal ts D H) : blockR id R .normal ts D H := h
theorem blockR_ret {id : Nat} (h : R .ret ts D H) : blockR id R .ret ts D H := h
theorem blockR_same {id : Nat} (h : R .normal ts D H) : blockR id R (.exit id) ts D H := by
  simp only [blockR, Nat.beq_refl]; exact h
theorem blockR_other {id id' : Nat} (hne : Nat.beq id' id = false) (h : R (.exit id') ts D H) : blockR id R (.exit id') ts D H := by
  simp only [blockR, hne]; exact h
theorem EC_block {id : Nat} (h : EC call lf b ts D H (blockR id R)) : EC call lf (.block id b) ts D H R := by
  obtain ⟨x, t, d, h1, h2, h3⟩ := h
  cases x with
  | normal => exact ⟨_, _, _, _, by simp only [evalC, h2], h3⟩
  | ret => exact ⟨_, _, _, _, by simp only [evalC, h2], h3⟩
  | exit id' =>
    simp only [blockR] at h3
    split at h3
    · rename_i hb; exact ⟨_, _, _, _, by simp only [evalC, h2, hb], h3⟩
    · rename_i hb; exact ⟨_, _, _, _, by simp only [evalC, h2, hb], h3⟩
def loopR (I : Nat → T → DS → Heap → Prop) (m : Nat) (R : SExit → T → DS → Heap → Prop) (x : SExit) (ts : T) (D : DS) (H : Heap) : Prop := match x with
  | .normal => ∃ m', m' < m ∧ I m' ts D H
  | x => R x ts D H
theorem loopR_normal {I : Nat → T → DS → Heap → Prop} {m : Nat} (m' : Nat) (hm : m' < m) (h : I m' ts D H) : loopR I m R .normal ts D H := ⟨m', hm, h⟩
theorem loopR_ret {I : Nat → T → DS → Heap → Prop} {m : Nat} (h : R .ret ts D H) : loopR I m R .ret ts D H := h
theorem loopR_exit {I : Nat → T → DS → Heap → Prop} {m id : Nat} (h : R (.exit id) ts D H) : loopR I m R (.exit id) ts D H := h
theorem EC_loop {I : Nat → T → DS → Heap → Prop} (hstep : ∀ m ts D H, I m ts D H → EC call lf b ts D H (loopR I m R))
    (m : Nat) (h0 : I m ts D H) (hm : m < lf) : EC call lf (.loop b) ts D H R := by
  have key : ∀ (k m : Nat) (ts : T) (D : DS) (H : Heap), m < k → I m ts D H → ∃ x ts' D' H', loopN (evalC call lf b) k ts D H = some (x, ts', D', H') ∧ R x ts' D' H' := by
    intro k
    induction k with
    | zero => intro m ts D H h; omega
    | succ k ih =>
      intro m ts D H hmk hI
      obtain ⟨x, t, d, h, h2, h3⟩ := hstep m ts D H hI
      cases x with
      | normal =>
        obtain ⟨m', hm', hI'⟩ := h3
        obtain ⟨x', t', d', h', h4, h5⟩ := ih m' t d h (by omega) hI'
        exact ⟨x', t', d', h', by simp only [loopN, h2]; exact h4, h5⟩
      | exit id => exact ⟨_, _, _, _, by simp only [loopN, h2], h3⟩
      | ret => exact ⟨_, _, _, _, by simp only [loopN, h2], h3⟩
  obtain ⟨x, t, d, h, h1, h2⟩ := key lf m ts D H hm h0
  exact ⟨x, t, d, h, by simp only [evalC]; exact h1, h2⟩
theorem EC_loop1 (hl : 0 < lf) (h : EC call lf b ts D H (loopR (fun _ _ _ _ => False) 0 R)) : EC call lf (.loop b) ts D H R := by
  refine EC_loop (I := fun m ts' D' H' => ts' = ts ∧ D' = D ∧ H' = H) ?_ 0 ⟨rfl, rfl, rfl⟩ hl
  rintro m ts' D' H' ⟨rfl, rfl, rfl⟩
  obtain ⟨x, t, d, h', h1, h2⟩ := h
  refine ⟨x, t, d, h', h1, ?_⟩
  cases x with
  | normal => obtain ⟨_, _, hf⟩ := h2; exact hf.elim
  | exit id => exact h2
  | ret => exact h2
/-! ### Regions that draw, without effects -/
def selfB (dk : DK) (v : SV) : Bool := match dk with
  | .pure => true
  | .read 0 0 => beqS v v
  | _ => false
theorem hoistD_none : ∀ {dops : List (SOper × DK)} {ts : T}, (∀ p ∈ dops, ∀ lo hi, p.2 ≠ .hoist lo hi) → hoistD dops ts H = some (dops.map fun _ => SV.undef, H)
  | [], _, _ => rfl
  | (o, dk) :: os, ts, h => by
    have h1 : ∀ lo hi, dk ≠ .hoist lo hi := h (o, dk) (List.mem_cons_self ..)
    have ih := fun ts => hoistD_none (ts := ts) fun p hp => h p (List.mem_cons_of_mem _ hp)
    cases dk with
    | hoist lo hi => exact absurd rfl (h1 lo hi)
    | _ => simp only [hoistD, ih, List.map_cons]
def EQ (dops : List (SOper × DK)) (ts : T) (H : Heap) (Q : T → Prop) : Prop :=
  ∃ tss vs tn, textD (fun _ _ _ => none) dops (dops.map fun _ => SV.undef) ts H = some (tss, vs, [H], tn) ∧ readsD [H] dops tss vs = true ∧ Q tn
theorem textD_call {call : CallS} : ∀ {dops : List (SOper × DK)} {hvs : List SV} {ts : T} {H : Heap}, (∀ p ∈ dops, p.2 ≠ .eff) → textD call dops hvs ts H = textD (fun _ _ _ => none) dops hvs ts H
  | [], _, _, _, _ => rfl
  | _ :: _, [], _, _, _ => rfl
  | (o, dk) :: os, hv :: hvs, ts, H, h => by
    have h1 : dk ≠ .eff := h (o, dk) (List.mem_cons_self ..)
    have ih := fun ts => textD_call (call := call) (dops := os) (hvs := hvs) (ts := ts) (H := H) fun p hp => h p (List.mem_cons_of_mem _ hp)
    cases dk with
    | eff => exact absurd rfl h1
    | _ => simp only [textD, ih]
theorem EC_dreg {dops : List (SOper × DK)} (hq : (dops.all fun p => match p.2 with | .pure => true | .read 0 0 => true | _ => false) = true) (h : EQ dops ts H fun ts' => R .normal ts' D H) : EC call lf (.dreg dops false) ts D H R := by
  obtain ⟨tss, vs, tn, h1, h2, h3⟩ := h
  rw [List.all_eq_true] at hq
  have hne : ∀ p ∈ dops, p.2 ≠ .eff := by
    intro p hp he
    have := hq p hp
    rw [he] at this
    cases this
  have hnh : ∀ p ∈ dops, ∀ lo hi, p.2 ≠ .hoist lo hi := by
    intro p hp lo hi he
    have := hq p hp
    rw [he] at this
    cases this
  refine ⟨.normal, tn, D, H, ?_, h3⟩
  simp only [evalC, evalD, hoistD_none hnh, textD_call hne, h1, h2]
  rfl
theorem EQ_nil {Q : T → Prop} (h : Q ts) : EQ [] ts H Q := ⟨[], [], ts, rfl, rfl, h⟩
theorem EQ_pure {dops : List (SOper × DK)} {Q : T → Prop} (he : evalOp s ts H = some (v, H')) (hs : ts.set d v = ts') (h : EQ dops ts' H Q) : EQ ((⟨some d, .op s, none⟩, .pure) :: dops) ts H Q := by
  obtain ⟨tss, vs, tn, h1, h2, h3⟩ := h
  subst hs
  refine ⟨ts :: tss, v :: vs, tn, ?_, ?_, h3⟩
  · simp only [List.map_cons, textD, wantedS, quietOp, he, putT, h1]
  · simp only [readsD, wantedS, h2, Bool.and_self]
theorem EQ_read {dops : List (SOper × DK)} {Q : T → Prop} (he : evalOp s ts H = some (v, H')) (hb : beqS v v = true) (hs : ts.set d v = ts') (h : EQ dops ts' H Q) : EQ ((⟨some d, .op s, none⟩, .read 0 0) :: dops) ts H Q := by
  obtain ⟨tss, vs, tn, h1, h2, h3⟩ := h
  subst hs
  refine ⟨ts :: tss, v :: vs, tn, ?_, ?_, h3⟩
  · simp only [List.map_cons, textD, wantedS, quietOp, he, putT, h1]
  · simp only [readsD, wantedS, h2, allFrom, quietOp, he, hb, Bool.and_self]
theorem EQ_in {dops : List (SOper × DK)} {Q : T → Prop} {o : Option Nat} {k : SK} {t : Nat} {w : Bool} {dk : DK} (hg : ts.getD t SV.undef = .bool w) (h : EQ ((⟨o, k, none⟩, dk) :: dops) ts H Q) : EQ ((⟨o, k, some (t, w)⟩, dk) :: dops) ts H Q := by
  obtain ⟨tss, vs, tn, h1, h2, h3⟩ := h
  refine ⟨tss, vs, tn, ?_, ?_, h3⟩
  · rw [← h1]
    simp only [List.map_cons]
    cases w <;> cases dk <;> simp only [textD, wantedS, hg, Bool.not_false]
  · rw [← h2]
    have e : ∀ t0, tss.head? = some t0 → t0 = ts := by
      intro t0 ht
      simp only [List.map_cons] at h1
      cases dk <;> simp only [textD] at h1 <;> (repeat' split at h1) <;> first
        | cases h1; done
        | (simp only [Option.some.injEq, Prod.mk.injEq] at h1
           obtain ⟨h5, _⟩ := h1
           rw [← h5] at ht
           simp only [List.head?_cons, Option.some.injEq] at ht
           exact ht.symm)
    cases tss with
    | nil => cases vs <;> rfl
    | cons t0 tss =>
      obtain rfl := e t0 rfl
      cases vs with
      | nil => rfl
      | cons v vs => cases w <;> simp only [readsD, wantedS, hg, Bool.not_false]
theorem EQ_out {dops : List (SOper × DK)} {Q : T → Prop} {k : SK} {t : Nat} {w w' : Bool} {dk : DK} (hk : dk ≠ .eff) (hg : ts.getD t SV.undef = .bool w') (hw : w' = !w) (hs : ts.set d SV.undef = ts') (h : EQ dops ts' H Q) : EQ ((⟨some d, k, some (t, w)⟩, dk) :: dops) ts H Q := by
  obtain ⟨tss, vs, tn, h1, h2, h3⟩ := h
  subst hs hw
  refine ⟨ts :: tss, SV.undef :: vs, tn, ?_, ?_, h3⟩
  · cases dk with
    | eff => exact absurd rfl hk
    | _ => cases w <;> simp only [List.map_cons, textD, wantedS, hg, Bool.not_false, Bool.not_true, putT, h1]
  · cases w <;> simp only [readsD, wantedS, hg, Bool.not_false, Bool.not_true, h2, Bool.and_self]
theorem EQ_und {dops : List (SOper × DK)} {Q : T → Prop} {k : SK} {t : Nat} {w : Bool} {dk : DK} (hk : dk ≠ .eff) (hg : ts.getD t SV.undef = SV.undef) (hs : ts.set d SV.undef = ts') (h : EQ dops ts' H Q) : EQ ((⟨some d, k, some (t, w)⟩, dk) :: dops) ts H Q := by
  obtain ⟨tss, vs, tn, h1, h2, h3⟩ := h
  have hw : wantedS ts (some (t, w)) = false := by
    unfold wantedS
    dsimp only
    rw [hg]
    rfl
  subst hs
  refine ⟨ts :: tss, SV.undef :: vs, tn, ?_, ?_, h3⟩
  · cases dk with
    | eff => exact absurd rfl hk
    | _ => simp only [List.map_cons, textD, hw, putT, h1]
  · simp only [readsD, hw, h2, Bool.and_self]
theorem EO_und {k : SK} {t : Nat} {w : Bool} (hg : ts.getD t SV.undef = SV.undef) (hs : ts.set d SV.undef = ts') (h : EO call os ts' H Q) : EO call (⟨some d, k, some (t, w)⟩ :: os) ts H Q := by
  obtain ⟨t2, H2, h1, h2⟩ := h
  refine ⟨t2, H2, ?_, h2⟩
  have hw : wantedS ts (some (t, w)) = false := by
    unfold wantedS
    dsimp only
    rw [hg]
    rfl
  subst hs
  simp only [evalOps, hw, putT, h1]
/-! ### Regions that draw, with effects -/
def ED (call : CallS) (dops : List (SOper × DK)) (ts : T) (H : Heap) (Q : List T → List SV → List Heap → T → Prop) : Prop :=
  ∃ tss vs hs tn, textD call dops (dops.map fun _ => SV.undef) ts H = some (tss, vs, hs, tn) ∧ Q tss vs hs tn
theorem EC_draw {dops : List (SOper × DK)} {swap : Bool} (hq : (dops.all fun p => match p.2 with | .hoist _ _ => false | _ => true) = true)
    (h : ED call dops ts H fun tss vs hs tn => readsD hs dops tss vs = true ∧ (swap = true → swapD dops tss = true) ∧ ∃ Hn, hs.getLast? = some Hn ∧ R .normal tn D Hn) : EC call lf (.dreg dops swap) ts D H R := by
  obtain ⟨tss, vs, hs, tn, h1, h2, h3, Hn, h4, h5⟩ := h
  rw [List.all_eq_true] at hq
  have hnh : ∀ p ∈ dops, ∀ lo hi, p.2 ≠ .hoist lo hi := by
    intro p hp lo hi he
    have := hq p hp
    rw [he] at this
    cases this
  refine ⟨.normal, tn, D, Hn, ?_, h5⟩
  have h6 : (readsD hs dops tss vs && (!swap || swapD dops tss)) = true := by
    rw [h2]
    cases swap with
    | false => rfl
    | true => rw [h3 rfl]; rfl
  simp only [evalC, evalD, hoistD_none hnh, h1, h6, h4]
theorem ED_nil {Q : List T → List SV → List Heap → T → Prop} (h : Q [] [] [H] ts) : ED call [] ts H Q := ⟨[], [], [H], ts, rfl, h⟩
theorem ED_pure {dops : List (SOper × DK)} {Q : List T → List SV → List Heap → T → Prop} (he : evalOp s ts H = some (v, H')) (hs : ts.set d v = ts') (h : ED call dops ts' H fun tss vs hs tn => Q (ts :: tss) (v :: vs) hs tn) : ED call ((⟨some d, .op s, none⟩, .pure) :: dops) ts H Q := by
  obtain ⟨tss, vs, hs', tn, h1, h2⟩ := h
  subst hs
  exact ⟨ts :: tss, v :: vs, hs', tn, by simp only [List.map_cons, textD, wantedS, quietOp, he, putT, h1], h2⟩
theorem ED_read {dops : List (SOper × DK)} {lo hi : Nat} {Q : List T → List SV → List Heap → T → Prop} (he : evalOp s ts H = some (v, H')) (hs : ts.set d v = ts') (h : ED call dops ts' H fun tss vs hs tn => Q (ts :: tss) (v :: vs) hs tn) : ED call ((⟨some d, .op s, none⟩, .read lo hi) :: dops) ts H Q := by
  obtain ⟨tss, vs, hs', tn, h1, h2⟩ := h
  subst hs
  exact ⟨ts :: tss, v :: vs, hs', tn, by simp only [List.map_cons, textD, wantedS, quietOp, he, putT, h1], h2⟩
theorem ED_eff {dops : List (SOper × DK)} {Q : List T → List SV → List Heap → T → Prop} (he : evalOp s ts H = some (v, H')) (hs : ts.set d v = ts') (h : ED call dops ts' H' fun tss vs hs tn => Q (ts :: tss) (v :: vs) (H :: hs) tn) : ED call ((⟨some d, .op s, none⟩, .eff) :: dops) ts H Q := by
  obtain ⟨tss, vs, hs', tn, h1, h2⟩ := h
  subst hs
  exact ⟨ts :: tss, v :: vs, H :: hs', tn, by simp only [List.map_cons, textD, wantedS, evalK, he, putT, h1], h2⟩
theorem ED_effN {dops : List (SOper × DK)} {Q : List T → List SV → List Heap → T → Prop} (he : evalOp s ts H = some (v, H')) (h : ED call dops ts H' fun tss vs hs tn => Q (ts :: tss) (v :: vs) (H :: hs) tn) : ED call ((⟨none, .op s, none⟩, .eff) :: dops) ts H Q := by
  obtain ⟨tss, vs, hs', tn, h1, h2⟩ := h
  exact ⟨ts :: tss, v :: vs, H :: hs', tn, by simp only [List.map_cons, textD, wantedS, evalK, he, putT, h1], h2⟩
theorem wanted_in {t : Nat} {w : Bool} (hg : ts.getD t SV.undef = .bool w) : wantedS ts (some (t, w)) = true := by
  unfold wantedS
  dsimp only
  rw [hg]
  cases w <;> rfl
theorem wanted_out {t : Nat} {w w' : Bool} (hg : ts.getD t SV.undef = .bool w') (hw : w' = !w) : wantedS ts (some (t, w)) = false := by
  unfold wantedS
  dsimp only
  rw [hg, hw]
  cases w <;> rfl
theorem wanted_und {t : Nat} {w : Bool} (hg : ts.getD t SV.undef = SV.undef) : wantedS ts (some (t, w)) = false := by
  unfold wantedS
  dsimp only
  rw [hg]
  rfl
theorem ED_in {dops : List (SOper × DK)} {Q : List T → List SV → List Heap → T → Prop} {o : Option Nat} {k : SK} {t : Nat} {w : Bool} {dk : DK} (hg : ts.getD t SV.undef = .bool w) (h : ED call ((⟨o, k, none⟩, dk) :: dops) ts H Q) : ED call ((⟨o, k, some (t, w)⟩, dk) :: dops) ts H Q := by
  obtain ⟨tss, vs, hs', tn, h1, h2⟩ := h
  refine ⟨tss, vs, hs', tn, ?_, h2⟩
  rw [← h1]
  have hw := wanted_in hg
  cases dk <;> simp only [List.map_cons, textD, hw] <;> rfl
theorem ED_no {dops : List (SOper × DK)} {Q : List T → List SV → List Heap → T → Prop} {k : SK} {g : Option (Nat × Bool)} {dk : DK} (hk : dk ≠ .eff) (hg : wantedS ts g = false) (hs : ts.set d SV.undef = ts') (h : ED call dops ts' H fun tss vs hs tn => Q (ts :: tss) (SV.undef :: vs) hs tn) : ED call ((⟨some d, k, g⟩, dk) :: dops) ts H Q := by
  obtain ⟨tss, vs, hs', tn, h1, h2⟩ := h
  subst hs
  refine ⟨ts :: tss, SV.undef :: vs, hs', tn, ?_, h2⟩
  cases dk with
  | eff => exact absurd rfl hk
  | _ => simp only [List.map_cons, textD, hg, putT, h1]
theorem ED_noe {dops : List (SOper × DK)} {Q : List T → List SV → List Heap → T → Prop} {k : SK} {g : Option (Nat × Bool)} (hg : wantedS ts g = false) (hs : ts.set d SV.undef = ts') (h : ED call dops ts' H fun tss vs hs tn => Q (ts :: tss) (SV.undef :: vs) (H :: hs) tn) : ED call ((⟨some d, k, g⟩, .eff) :: dops) ts H Q := by
  obtain ⟨tss, vs, hs', tn, h1, h2⟩ := h
  subst hs
  exact ⟨ts :: tss, SV.undef :: vs, H :: hs', tn, by simp only [List.map_cons, textD, hg, putT, h1], h2⟩
/-! ### Functions -/
def funR (rs : List SRes) (P : SV → Heap → Prop) (x : SExit) (ts : T) (D : DS) (H : Heap) : Prop := match x with
  | .exit _ => False
  | _ => D = [] ∧ ∃ v, resS rs ts H = some v ∧ P v H
theorem funR_ret {rs : List SRes} {P : SV → Heap → Prop} (hr : resS rs ts H = some v) (h : P v H) : funR rs P .ret ts [] H := ⟨rfl, v, hr, h⟩
theorem funR_normal {rs : List SRes} {P : SV → Heap → Prop} (hr : resS rs ts H = some v) (h : P v H) : funR rs P .normal ts [] H := ⟨rfl, v, hr, h⟩
theorem call_code {tab : FuncId → Option SFun} {f : FuncId} {sf : SFunc} {args : List SV} {P : SV → Heap → Prop} (ht : tab f = some (.code sf)) (hs : args ++ List.replicate (sf.ntmps - args.length) SV.undef = ts)
    (h : EC (callS tab lf n) lf sf.body ts [] H (funR sf.results P)) : ∃ v H', callS tab lf (n + 1) f args H = some (v, H') ∧ P v H' := by
  subst hs
  obtain ⟨x, t, d, h1, h2, h3⟩ := h
  cases x with
  | exit id => exact h3.elim
  | normal =>
    obtain ⟨rfl, v, h4, h5⟩ := h3
    exact ⟨v, h1, by simp only [callS, ht, h2, runD, h4], h5⟩
  | ret =>
    obtain ⟨rfl, v, h4, h5⟩ := h3
    exact ⟨v, h1, by simp only [callS, ht, h2, runD, h4], h5⟩
end
attribute [irreducible] EO EC EQ ED seqR blockR loopR funR
end Go.Sh
end
section
namespace Go.Sh
open Go.RowKit (Below)
section
variable {G : Ground} {P : Program} {call : CallS}
theorem restart (hG : ∀ φ φ' B B' w, B ≤ B' → B' ≤ w.heap.size → G.p φ B w → G.p φ' B' w) (hc : CallOK G P call) {f : FuncId} {v : SV} {H0 H1 : Heap} (h8 : call f [] H0 = some (v, H1)) (hv : ∀ φ u, VR φ v u → ∀ ψ, VR ψ v u) :
    enterable P f = true ∧ ∀ φ B H w (args' : Array Value), VRL φ [] args'.toList → HG G φ B H w → Calls P f args' w (CPost φ B H w v H) := by
  obtain ⟨he, hk⟩ := hc f [] H0 v H1 h8
  refine ⟨he, fun φ B H w args' ha hh => ?_⟩
  have ha0 : VRL (fun _ => none) [] args'.toList := by
    generalize args'.toList = l at ha
    cases ha
    exact .nil
  have hr : HR (fun _ => none) w.heap.size H0 w := ⟨(fun _ _ e => (by cases e)), (fun _ _ _ _ e => (by cases e)), (fun _ _ e => (by cases e)), Nat.le_refl _⟩
  refine (hk (fun _ => none) w.heap.size w args' ha0 ⟨hr, hG _ _ _ _ _ hh.1.sz (Nat.le_refl _) hh.2⟩).mono ?_
  rintro e w' ⟨_, φ', u, _, rfl, hu, _, hb⟩
  exact ⟨Nat.le_refl _, φ, u, Emb.ext.refl φ _, rfl, hv _ _ hu _, hh.1.world hb.size fun k hk => hb.block k hk, hb.mono hh.1.sz⟩
theorem outer_ok {tab : FuncId → Option SFun} (htab : TabOK G P tab) (hcall : CallOK G P call) (hdraw : DrawOK G P call) {lf : Nat} {f : FuncId} {sf : SFunc} {args : List SV} {H : Heap} {R : SV → Heap → Prop} (ht : tab f = some (.code sf))
    (h : EC call lf sf.body (args ++ List.replicate (sf.ntmps - args.length) SV.undef) [] H (funR sf.results R)) :
    ∀ φ B w (args' : Array Value), VRL φ args args'.toList → HG G φ B H w → Calls P f args' w fun e w' => ∃ v H', R v H' ∧ CPost φ B H w v H' e w' := by
  intro φ B w args' hargs hh
  obtain ⟨fn, hfn, hcf, hname⟩ := htab.code f sf ht
  unfold compF at hcf
  split at hcf
  · cases hcf
  · rename_i c hbody
    split at hcf
    · rename_i rs hrs
      cases hcf
      have fin : ∀ (x : SExit) (ts' : T) (r : SV) (H1 : Heap), (x = .normal ∨ x = .ret) → evalC call lf (compC P c) (args ++ List.replicate (fn.ntmps - args.length) SV.undef) [] H = some (x, ts', [], H1) → resS rs ts' H1 = some r → R r H1 →
          Calls P f args' w fun e w' => ∃ v H', R v H' ∧ CPost φ B H w v H' e w' := by
        intro x ts' r H1 hx hev hrun hR
        refine (calls_of_wp_defers (R := CPost φ B H w r H1) hfn hbody ?_).mono fun e w' hp => ⟨r, H1, hR, hp⟩
        refine code_ok hcall hdraw c φ H w _ [] ⟨args' ++ Array.replicate (fn.ntmps - args'.size) Go.undef, []⟩ x ts' [] H1 _ hev (args_ok hargs) hh .nil fun φ1 a1 w1 n1 g1 g2 g3 g4 g5 => ?_
        have hcd : CDOK G P (fun _ _ _ => none) := fun f args H H' h => by cases h
        have : Leaves P fn a1.tmps (CPost φ B H w r H1) a1.defers .returning w1 :=
          leaves_ok hcd hrs [] a1.defers φ1 H1 w1 r H1 (by simp only [runD, hrun]) g3 g2 g4 fun φ2 u w2 n2 k1 k2 k3 k4 => ⟨Nat.le_trans n1 n2, φ2, u, g1.trans k1 n1, rfl, k2, k3, g5.trans k4⟩
        rcases hx with rfl | rfl <;> exact this
      unfold EC at h
      obtain ⟨x, ts', D', H', hev, hf⟩ := h
      unfold funR at hf
      cases x with
      | normal => obtain ⟨rfl, v, h1, h2⟩ := hf; exact fin _ _ _ _ (.inl rfl) hev h1 h2
      | exit id => exact hf.elim
      | ret => obtain ⟨rfl, v, h1, h2⟩ := hf; exact fin _ _ _ _ (.inr rfl) hev h1 h2
    · cases hcf
end
end Go.Sh
end
section
namespace Go.Sh
open Go.RowKit (Below)
def SV.flatA : SV → Bool
  | .agg cs => cs.all SV.flat
  | v => v.flat
def SV.flatT : SV → Bool
  | .tup vs => vs.all SV.flatA
  | v => v.flatA
theorem flat_any {φ ψ : Emb} {v : SV} {u : Value} (hv : v.flat = true) (h : VR φ v u) : VR ψ v u := by
  cases v <;> first | (simp [SV.flat] at hv; done) | (cases h; first | (constructor; done) | (constructor; assumption))
theorem flatL_any {φ ψ : Emb} : ∀ {vs : List SV} {us : List Value}, vs.all SV.flat = true → VRL φ vs us → VRL ψ vs us
  | _, _, _, .nil => .nil
  | _, _, hv, .cons h t => by
    simp only [List.all_cons, Bool.and_eq_true] at hv
    exact .cons (flat_any hv.1 h) (flatL_any hv.2 t)
theorem flatA_any {φ ψ : Emb} {v : SV} {u : Value} (hv : v.flatA = true) (h : VR φ v u) : VR ψ v u := by
  cases v with
  | agg cs => cases h with | agg h => exact .agg (flatL_any hv h)
  | _ => exact flat_any hv h
theorem flatAL_any {φ ψ : Emb} : ∀ {vs : List SV} {us : List Value}, vs.all SV.flatA = true → VRL φ vs us → VRL ψ vs us
  | _, _, _, .nil => .nil
  | _, _, hv, .cons h t => by
    simp only [List.all_cons, Bool.and_eq_true] at hv
    exact .cons (flatA_any hv.1 h) (flatAL_any hv.2 t)
theorem flatT_any {φ ψ : Emb} {v : SV} {u : Value} (hv : v.flatT = true) (h : VR φ v u) : VR ψ v u := by
  cases v with
  | tup vs => cases h with | tup h => exact .tup (flatAL_any hv h)
  | _ => exact flatA_any hv h
def Ground.up (G : Ground) : Prop := ∀ φ φ' B B' w, B ≤ B' → B' ≤ w.heap.size → G.p φ B w → G.p φ' B' w
section
variable {G : Ground} {P : Program} {call : CallS}
theorem restart_flat (hG : G.up) (hc : CallOK G P call) {f : FuncId} {args : List SV} {v : SV} {H0 H1 : Heap} (h8 : call f args H0 = some (v, H1)) (hfa : args.all SV.flatA = true) (hv : v.flatT = true) :
    enterable P f = true ∧ ∀ φ B H w (args' : Array Value), VRL φ args args'.toList → HG G φ B H w → Calls P f args' w (CPost φ B H w v H) := by
  obtain ⟨he, hk⟩ := hc f args H0 v H1 h8
  refine ⟨he, fun φ B H w args' ha hh => ?_⟩
  have hr : HR (fun _ => none) w.heap.size H0 w := ⟨(fun _ _ e => (by cases e)), (fun _ _ _ _ e => (by cases e)), (fun _ _ e => (by cases e)), Nat.le_refl _⟩
  refine (hk (fun _ => none) w.heap.size w args' (flatAL_any hfa ha) ⟨hr, hG _ _ _ _ _ hh.1.sz (Nat.le_refl _) hh.2⟩).mono ?_
  rintro e w' ⟨_, φ', u, _, rfl, hu, _, hb⟩
  exact ⟨Nat.le_refl _, φ, u, Emb.ext.refl φ _, rfl, flatT_any hv hu, hh.1.world hb.size fun k hk => hb.block k hk, hb.mono hh.1.sz⟩
def flatR (r : Option (SV × Heap)) : Option SV := match r with
  | some (v, _) => match v.flatT with
    | true => some v
    | false => none
  | none => none
def natFlat (call : CallS) (h : Heap) (f : FuncId) (args : List SV) (H : Heap) : Option (SV × Heap) := match args.all SV.flatA with
  | true => match flatR (call f args h) with
    | some v => some (v, H)
    | none => none
  | false => none
theorem natFlat_eq {h : Heap} {f : FuncId} {args : List SV} {v : SV} (ha : args.all SV.flatA = true) (hr : flatR (call f args h) = some v) (H : Heap) : natFlat call h f args H = some (v, H) := by
  unfold natFlat
  rw [ha, hr]
theorem flatR_of {h : Heap} {f : FuncId} {args : List SV} {v : SV} (hr : flatR (call f args h) = some v) : ∃ H1, call f args h = some (v, H1) ∧ v.flatT = true := by
  unfold flatR at hr
  split at hr
  · rename_i v' H1 hc
    split at hr
    · rename_i hv
      cases hr
      exact ⟨H1, hc, hv⟩
    · cases hr
  · cases hr
theorem natFlat_ok (hG : G.up) (hc : CallOK G P call) {f : FuncId} {h : Heap} {args : List SV} {v : SV} {H H' : Heap} (hv : natFlat call h f args H = some (v, H')) :
    ∀ φ B w (args' : Array Value), VRL φ args args'.toList → HG G φ B H w → Calls P f args' w (CPost φ B H w v H') := by
  unfold natFlat at hv
  split at hv
  · rename_i ha
    split at hv
    · rename_i v' hr
      cases hv
      obtain ⟨H1, h1, h2⟩ := flatR_of hr
      exact fun φ B w args' hva hh => (restart_flat hG hc h1 ha h2).2 φ B _ w args' hva hh
    · cases hv
  · cases hv
theorem frozen (hG : G.up) (hc : CallOK G P call) {f : FuncId} {args : List SV} {v : SV} {H H1 : Heap} (h8 : call f args H.froz = some (v, H1)) (hv : v.flatT = true) :
    enterable P f = true ∧ ∀ φ B w (args' : Array Value), VRL φ args args'.toList → HG G φ B H w → Calls P f args' w fun e w' => ∃ u, e = .returned u ∧ (∀ ψ, VR ψ v u) ∧ Below w.heap.size w w' := by
  obtain ⟨he, hk⟩ := hc f args _ v H1 h8
  refine ⟨he, fun φ B w args' ha hh => ?_⟩
  refine (hk φ w.heap.size w args' ha ⟨hh.1.froz, hG _ _ _ _ _ hh.1.sz (Nat.le_refl _) hh.2⟩).mono ?_
  rintro e w' ⟨_, φ', u, _, rfl, hu, _, hb⟩
  exact ⟨u, rfl, fun ψ => flatT_any hv hu, hb⟩
end
end Go.Sh
end
section
namespace Go.Sh
open Go.RowKit (Below)
/-! ### Arguments with opaque cells -/
def eqOpq : SV → SV → Bool
  | .opq a, .opq b => Nat.beq a b
  | x, y => beqOne x y
def eqOpqL : List SV → List SV → Bool
  | [], [] => true
  | x :: xs, y :: ys => match eqOpq x y with
    | true => eqOpqL xs ys
    | false => false
  | _, _ => false
def eqOpqA : SV → SV → Bool
  | .agg xs, .agg ys => eqOpqL xs ys
  | x, y => eqOpq x y
def eqArgs : List SV → List SV → Bool
  | [], [] => true
  | x :: xs, y :: ys => match eqOpqA x y with
    | true => eqArgs xs ys
    | false => false
  | _, _ => false
theorem eqOpq_eq {x y : SV} (h : eqOpq x y = true) : x = y := by
  unfold eqOpq at h
  split at h
  · rw [Nat.eq_of_beq_eq_true h]
  · exact beqOne_eq h
theorem eqOpqL_eq : ∀ {xs ys : List SV}, eqOpqL xs ys = true → xs = ys
  | [], [], _ => rfl
  | [], _ :: _, h => (by cases h)
  | _ :: _, [], h => (by cases h)
  | x :: xs, y :: ys, h => by
    unfold eqOpqL at h
    split at h
    · rename_i h1
      rw [eqOpq_eq h1, eqOpqL_eq h]
    · cases h
theorem eqOpqA_eq {x y : SV} (h : eqOpqA x y = true) : x = y := by
  unfold eqOpqA at h
  split at h
  · rw [eqOpqL_eq h]
  · exact eqOpq_eq h
theorem eqArgs_eq : ∀ {xs ys : List SV}, eqArgs xs ys = true → xs = ys
  | [], [], _ => rfl
  | [], _ :: _, h => (by cases h)
  | _ :: _, [], h => (by cases h)
  | x :: xs, y :: ys, h => by
    unfold eqArgs at h
    split at h
    · rename_i h1
      rw [eqOpqA_eq h1, eqArgs_eq h]
    · cases h
def behind (vs : List SV) : SV → SV
  | .opq i => vs.getD i .nilp
  | v => v
def behindA (vs : List SV) : SV → SV
  | .agg cs => .agg (cs.map (behind vs))
  | v => behind vs v
def SV.opqs (n : Nat) : SV → Bool
  | .opq i => Nat.blt i n
  | v => v.flat
def SV.opqsA (n : Nat) : SV → Bool
  | .agg cs => cs.all (SV.opqs n)
  | v => v.opqs n
def OpqAt (φ : Emb) (us : List Value) : Prop := ∀ i u, us[i]? = some u → ∃ l, φ i = some l ∧ l.val = u
section
variable {φ0 φ : Emb} {vs : List SV} {us : List Value}
theorem behind_ok (hv : VRL φ0 vs us) (ho : OpqAt φ us) {x : SV} {u : Value} (hx : x.opqs vs.length = true) (h : VR φ x u) : VR φ0 (behind vs x) u := by
  by_cases hq : ∃ i, x = .opq i
  · obtain ⟨i, rfl⟩ := hq
    cases h with
    | opq h1 h2 h3 =>
      have hi : i < vs.length := Nat.le_of_ble_eq_true hx
      obtain ⟨u', hu', hr⟩ := hv.get i vs[i] (List.getElem?_eq_getElem hi)
      obtain ⟨l, hl, hlv⟩ := ho i u' hu'
      rw [h1] at hl
      cases hl
      have : behind vs (.opq i) = vs[i] := by simp [behind, List.getD_eq_getElem?_getD, hi]
      rw [this, ← h2, hlv]
      exact hr
  · have e : behind vs x = x := by
      cases x <;> first | rfl | exact absurd ⟨_, rfl⟩ hq
    have hf : x.flat = true := by
      cases x <;> first | exact hx | exact absurd ⟨_, rfl⟩ hq
    rw [e]
    exact flat_any hf h
theorem behindL_ok (hv : VRL φ0 vs us) (ho : OpqAt φ us) : ∀ {xs : List SV} {ws : List Value}, xs.all (SV.opqs vs.length) = true → VRL φ xs ws → VRL φ0 (xs.map (behind vs)) ws
  | _, _, _, .nil => .nil
  | _, _, hx, .cons h t => by
    simp only [List.all_cons, Bool.and_eq_true] at hx
    exact .cons (behind_ok hv ho hx.1 h) (behindL_ok hv ho hx.2 t)
theorem behindA_ok (hv : VRL φ0 vs us) (ho : OpqAt φ us) {x : SV} {u : Value} (hx : x.opqsA vs.length = true) (h : VR φ x u) : VR φ0 (behindA vs x) u := by
  by_cases hq : ∃ cs, x = .agg cs
  · obtain ⟨cs, rfl⟩ := hq
    cases h with
    | agg h => exact .agg (behindL_ok hv ho hx h)
  · have e : behindA vs x = behind vs x := by cases x <;> first | rfl | exact absurd ⟨_, rfl⟩ hq
    have hx' : x.opqs vs.length = true := by cases x <;> first | exact hx | exact absurd ⟨_, rfl⟩ hq
    rw [e]
    exact behind_ok hv ho hx' h
theorem behindAL_ok (hv : VRL φ0 vs us) (ho : OpqAt φ us) : ∀ {xs : List SV} {ws : List Value}, xs.all (SV.opqsA vs.length) = true → VRL φ xs ws → VRL φ0 (xs.map (behindA vs)) ws
  | _, _, _, .nil => .nil
  | _, _, hx, .cons h t => by
    simp only [List.all_cons, Bool.and_eq_true] at hx
    exact .cons (behindA_ok hv ho hx.1 h) (behindAL_ok hv ho hx.2 t)
end
/-! ### What such calls answer -/
abbrev Said := FuncId × List SV × SV
def natSaid : List Said → FuncId → List SV → Heap → Option (SV × Heap)
  | [], _, _, _ => none
  | (g, xs, v) :: l, f, args, H => match Nat.beq g f with
    | true => match eqArgs xs args with
      | true => some (v, H)
      | false => natSaid l f args H
    | false => natSaid l f args H
theorem natSaid_mem : ∀ {l : List Said} {f : FuncId} {args : List SV} {H H' : Heap} {v : SV}, natSaid l f args H = some (v, H') → (f, args, v) ∈ l ∧ H' = H
  | [], _, _, _, _, _, h => (by cases h)
  | (g, xs, u) :: l, f, args, H, H', v, h => by
    unfold natSaid at h
    split at h
    · rename_i h1
      split at h
      · rename_i h2
        cases h
        rw [Nat.eq_of_beq_eq_true h1, eqArgs_eq h2]
        exact ⟨List.mem_cons_self .., rfl⟩
      · obtain ⟨h3, h4⟩ := natSaid_mem h
        exact ⟨List.mem_cons_of_mem _ h3, h4⟩
    · obtain ⟨h3, h4⟩ := natSaid_mem h
      exact ⟨List.mem_cons_of_mem _ h3, h4⟩
def SaidOK (call : CallS) (H : Heap) (vs : List SV) (s : Said) : Prop :=
  s.2.1.all (SV.opqsA vs.length) = true ∧ s.2.2.flatT = true ∧ ∃ H1, call s.1 (s.2.1.map (behindA vs)) H.froz = some (s.2.2, H1)
section
variable {G : Ground} {P : Program} {call : CallS}
theorem HR.belowB {φ : Emb} {B B1 : Nat} {H : Heap} {w w' : World} (h : HR φ B H w) (hl : ∀ b l, φ b = some l → l.rb < B1) (hb : Below B1 w w') : HR φ B H w' where
  dom b l e := ⟨(h.dom b l e).1, Nat.lt_of_lt_of_le (h.dom b l e).2 hb.size⟩
  inj := h.inj
  obj b l e := (h.obj b l e).mono (Emb.le.refl φ) (hb.block _ (hl b l e))
  sz := Nat.le_trans h.sz hb.size
def Ground.within (G : Ground) (φ0 : Emb) (B0 : Nat) (H : Heap) (s : Nat) (us : List Value) : Ground where
  p φ B w := HG G φ0 B0 H w ∧ (∀ b l, φ0 b = some l → l.rb < s) ∧ B0 ≤ s ∧ s ≤ B ∧ OpqAt φ us
  st φ φ' B w w' := by
    rintro ⟨⟨h1, h2⟩, h3, h4, h5, h6⟩ hle hb
    refine ⟨⟨h1.belowB (fun b l e => Nat.lt_of_lt_of_le (h3 b l e) h5) hb, G.st _ _ _ _ _ h2 (Emb.le.refl _) (hb.mono (Nat.le_trans h4 h5))⟩, h3, h4, h5, fun i u hu => ?_⟩
    obtain ⟨l, hl, hv⟩ := h6 i u hu
    exact ⟨l, hle _ _ hl, hv⟩
theorem said_ok (hG : G.up) (hc : CallOK G P call) {φ0 : Emb} {B0 : Nat} {H0 : Heap} {s : Nat} {vs : List SV} {us : List Value} (hv : VRL φ0 vs us) {l : List Said} (hl : ∀ x ∈ l, SaidOK call H0 vs x) {f : FuncId} {args : List SV} {v : SV} {H H' : Heap}
    (h : natSaid l f args H = some (v, H')) : ∀ φ B w (args' : Array Value), VRL φ args args'.toList → HG (G.within φ0 B0 H0 s us) φ B H w → Calls P f args' w (CPost φ B H w v H') := by
  obtain ⟨hm, rfl⟩ := natSaid_mem h
  obtain ⟨h1, h2, H1, h3⟩ := hl _ hm
  rintro φ B w args' ha ⟨hh, hp1, hp2, hp3, hp4, hp5⟩
  refine ((frozen hG hc h3 h2).2 φ0 B0 w args' (behindAL_ok hv hp5 h1 ha) hp1).mono ?_
  rintro e w' ⟨u, rfl, hu, hb⟩
  exact ⟨Nat.le_refl _, φ, u, Emb.ext.refl φ _, rfl, hu _, hh.world hb.size fun k hk => hb.block k hk, hb.mono hh.sz⟩
theorem TabOK.within {tab : FuncId → Option SFun} (hG : G.up) (h : TabOK G P tab) {φ0 : Emb} {B0 : Nat} {H0 : Heap} {s : Nat} {us : List Value} : TabOK (G.within φ0 B0 H0 s us) P tab where
  code := h.code
  native f g hg := ⟨(h.native f g hg).1, fun args H v H' hv φ B w args' ha hh => (h.native f g hg).2 args H v H' hv φ B w args' ha ⟨hh.1, hG _ _ _ _ _ (Nat.le_trans hh.2.2.2.1 hh.2.2.2.2.1) hh.1.sz hh.2.1.2⟩⟩
  dnative f g hg := ⟨(h.dnative f g hg).1, fun args hv φ B H w args' ha hh => (h.dnative f g hg).2 args hv φ B H w args' ha ⟨hh.1, hG _ _ _ _ _ (Nat.le_trans hh.2.2.2.1 hh.2.2.2.2.1) hh.1.sz hh.2.1.2⟩⟩
def tabSaid (tab : FuncId → Option SFun) (fs : List FuncId) (l : List Said) (f : FuncId) : Option SFun := match fs.any (Nat.beq f) with
  | true => some (.native (natSaid l f))
  | false => tab f
theorem tabSaid_ok (hG : G.up) (hc : CallOK G P call) {tab : FuncId → Option SFun} (htab : TabOK G P tab) {φ0 : Emb} {B0 : Nat} {H0 : Heap} {s : Nat} {vs : List SV} {us : List Value} (hv : VRL φ0 vs us) {fs : List FuncId} (hfs : ∀ f ∈ fs, enterable P f = true)
    {l : List Said} (hl : ∀ x ∈ l, SaidOK call H0 vs x) : TabOK (G.within φ0 B0 H0 s us) P (tabSaid tab fs l) where
  code f sf h := by
    unfold tabSaid at h
    split at h
    · cases h
    · exact htab.code f sf h
  native f g h := by
    unfold tabSaid at h
    split at h
    · rename_i hf
      cases h
      obtain ⟨x, hx, he⟩ := List.any_eq_true.1 hf
      rw [Nat.eq_of_beq_eq_true he]
      exact ⟨hfs x hx, fun args H v H' h φ B w args' ha hh => said_ok hG hc hv hl h φ B w args' ha hh⟩
    · exact (TabOK.within hG htab).native f g h
  dnative f g h := by
    unfold tabSaid at h
    split at h
    · cases h
    · exact (TabOK.within hG htab).dnative f g h
theorem within_ok (hm : P.follows .mixedOrders = true) (hG : G.up) (hc : CallOK G P call) {tab : FuncId → Option SFun} (htab : TabOK G P tab) {vs : List SV} {fs : List FuncId} (hfs : ∀ f ∈ fs, enterable P f = true) {l : List Said} {H : Heap}
    (hl : ∀ x ∈ l, SaidOK call H vs x) {lf n : Nat} {f : FuncId} {xs : List SV} {v : SV} {hin H1 : Heap} (hnx : vs.length ≤ hin.next) (hno : ∀ i, i < vs.length → hin.get i = none)
    (h : callS (tabSaid tab fs l) lf n f xs hin = some (v, H1)) : ∀ {φ : Emb} {B : Nat} {w : World} {us : List Value}, VRL φ vs us → 0 < w.heap.size → ∀ {args' : Array Value}, (∀ φ1, OpqAt φ1 us → VRL φ1 xs args'.toList) → HG G φ B H w →
    Calls P f args' w fun e w' => ∃ ψ u, e = .returned u ∧ VR ψ v u ∧ HR ψ w.heap.size H1 w' ∧ Below w.heap.size w w' := by
  intro φ B w us hv h0 args' ha hh
  let φ1 : Emb := fun i => match us[i]? with
    | some u => some ⟨0, 0, 0, u⟩
    | none => none
  have hφ1 : ∀ b l, φ1 b = some l → ∃ u, us[b]? = some u ∧ l = ⟨0, 0, 0, u⟩ := by
    intro b l e
    simp only [φ1] at e
    split at e
    · rename_i u hu; cases e; exact ⟨u, hu, rfl⟩
    · cases e
  have hlen := hv.length
  have hlt : ∀ b l, φ1 b = some l → b < vs.length := by
    intro b l e
    obtain ⟨u, hu, _⟩ := hφ1 b l e
    have := (List.getElem?_eq_some_iff.1 hu).1
    omega
  have hr : HR φ1 w.heap.size hin w := by
    refine ⟨fun b l e => ⟨Nat.lt_of_lt_of_le (hlt b l e) hnx, ?_⟩, fun b b' l l' e e' _ hb => ?_, fun b l e => ?_, Nat.le_refl _⟩
    · obtain ⟨u, _, rfl⟩ := hφ1 b l e; exact h0
    · rw [hno b (hlt b l e)] at hb; exact hb.elim
    · rw [hno b (hlt b l e)]; exact .none
  have hopq : OpqAt φ1 us := fun i u hu => ⟨⟨0, 0, 0, u⟩, by simp only [φ1, hu], rfl⟩
  have htab' := tabSaid_ok (φ0 := φ) (B0 := B) (s := w.heap.size) hG hc htab hv hfs hl
  refine (((shadow_ok hm htab' lf n) f xs hin v H1 h).2 φ1 w.heap.size w args' (ha φ1 hopq) ⟨hr, hh, fun b l e => (hh.1.dom b l e).2, hh.1.sz, Nat.le_refl _, hopq⟩).mono ?_
  rintro e w' ⟨_, ψ, u, _, rfl, hu, hH, hb⟩
  exact ⟨ψ, u, rfl, hu, hH, hb⟩
/-! ### What comes out -/
theorem HR.void {φ : Emb} {B : Nat} {H : Heap} {w : World} {l : Loc} (h : HR φ B H w) (hl : l.rb < w.heap.size) : HR (φ.ins H.next l) B (H.push .dead) w where
  dom b m e := by
    unfold Emb.ins at e
    split at e
    · cases e; subst_vars; exact ⟨Nat.lt_succ_self _, hl⟩
    · have := h.dom b m e; exact ⟨Nat.lt_succ_of_lt this.1, this.2⟩
  inj b b' m m' e e' hr hb hb' := by
    unfold Emb.ins at e e'
    rw [Heap.get_push] at hb hb'
    split at hb
    · exact hb.elim
    · split at hb'
      · exact hb'.elim
      · rename_i n1 n2
        rw [if_neg n1] at e
        rw [if_neg n2] at e'
        exact h.inj b b' m m' e e' hr hb hb'
  obj b m e := by
    unfold Emb.ins at e
    rw [Heap.get_push]
    split at e
    · rename_i eb; rw [if_pos eb]; exact .dead
    · rename_i n
      rw [if_neg n]
      exact (h.obj b m e).mono (Emb.le_ins h.fresh) rfl
  sz := h.sz
def isSlice : SV → Bool
  | .nils => true
  | .slice _ _ _ _ _ => true
  | _ => false
theorem isSlice_op {ψ : Emb} {v : SV} {u : Value} (hv : isSlice v = true) (h : VR ψ v u) : opOk u = true := by
  cases v <;> first | (cases hv; done) | (cases h <;> rfl)
def Heap.shield (H : Heap) : Heap := ((H.push .dead).push .dead).push .dead
theorem shield_ok {φ ψ : Emb} {B : Nat} {H : Heap} {w w' : World} {html : List Nat} {a b c : SV} {o : Bool} {e : Int} {u : Value} (hh : HR φ B H w) (h0 : 0 < w.heap.size) (hb : Below w.heap.size w w') (ha : isSlice a = true) (hb' : isSlice b = true) (hc : isSlice c = true)
    (hu : VR ψ (.tup [.agg [.str html, a, b, c, .bool o], .int .i64 e]) u) :
    CPost φ B H w (.tup [.agg [.str html, .opq H.next, .opq (H.next + 1), .opq (H.next + 2), .bool o], .int .i64 e]) H.shield (.returned u) w' := by
  cases hu with
  | tup hu =>
    rename_i us
    generalize hus : us.toList = us' at hu
    cases hu with
    | cons h1 t1 =>
      cases t1 with
      | cons h2 t2 =>
        cases t2
        cases h1 with
        | agg h1 =>
          rename_i vs
          generalize hvs : vs.toList = vs' at h1
          cases h1 with
          | cons p0 q0 =>
            cases q0 with
            | cons p1 q1 =>
              cases q1 with
              | cons p2 q2 =>
                cases q2 with
                | cons p3 q3 =>
                  cases q3 with
                  | cons p4 q4 =>
                    cases q4
                    rename_i v0 v1 v2 v3 v4
                    have hw := hh.world hb.size fun k hk => hb.block k hk
                    have h0' : 0 < w'.heap.size := Nat.lt_of_lt_of_le h0 hb.size
                    have g1 := hw.void (l := ⟨0, 0, 0, v1⟩) h0'
                    have g2 := g1.void (l := ⟨0, 0, 0, v2⟩) h0'
                    have g3 := g2.void (l := ⟨0, 0, 0, v3⟩) h0'
                    have e1 : (H.push .dead).next = H.next + 1 := rfl
                    have e2 : ((H.push .dead).push .dead).next = H.next + 2 := rfl
                    have x1 : φ.ext (φ.ins H.next ⟨0, 0, 0, v1⟩) H.next := Emb.ext_ins hw.fresh
                    have x2 := x1.trans (Emb.ext_ins (l := ⟨0, 0, 0, v2⟩) g1.fresh) (by rw [e1]; omega)
                    have x3 := x2.trans (Emb.ext_ins (l := ⟨0, 0, 0, v3⟩) g2.fresh) (by rw [e2]; omega)
                    refine ⟨by simp only [Heap.shield, Heap.push]; omega, _, _, x3, rfl, .tup ?_, g3, hb.mono hh.sz⟩
                    rw [hus]
                    refine .cons (.agg ?_) (.cons (flat_any rfl h2) .nil)
                    rw [hvs]
                    refine .cons (flat_any rfl p0) (.cons (.opq (l := ⟨0, 0, 0, v1⟩) ?_ rfl (isSlice_op ha p1)) (.cons (.opq (l := ⟨0, 0, 0, v2⟩) ?_ rfl (isSlice_op hb' p2)) (.cons (.opq (l := ⟨0, 0, 0, v3⟩) ?_ rfl (isSlice_op hc p3)) (.cons (flat_any rfl p4) .nil))))
                    · refine (Emb.le_ins g2.fresh) _ _ ((Emb.le_ins g1.fresh) _ _ (Emb.ins_same _ _ _))
                    · exact (Emb.le_ins g2.fresh) _ _ (Emb.ins_same _ _ _)
                    · exact Emb.ins_same _ _ _
end
end Go.Sh
end
