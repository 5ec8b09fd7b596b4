/-
  Soundness of the shadow's operations: unsafe.SliceData, unsafe.String, conversions to and from unsafe.Pointer, '==' of pointers.
  Every operation that compiles does in the model what it does in the shadow.
  Soundness of the shadow's code, part 1: steps, and regions without a draw.
  Soundness of the shadow's calls.
-/
import Derived.Test.YtnhogklhegmjhaaGreatDoorShA4
import Derived.Lib.UnsafeStr
import Derived.Test.YtnhogklhegmjhaaGreatDoorShA1
import Derived.Scope
import Derived.Recover
set_option linter.all false
section
namespace Go.Sh
open Go.RowKit (Below)
section
variable {P : Program} {φ : Emb} {B : Nat} {H H' : Heap} {w : World} {ts : T} {a : Act} {o : Oper} {v : SV}
theorem shape?_at (w : World) (b : Nat) (C : Array Value) (e : TypeId) (f : Nat × Nat) (h : w.heap[b]? = some (.cells C e f)) : w.shape? b = some (e, C.size) := by
  simp [World.shape?, h]
theorem ok_usd {t : TypeId} {x : Operand} {x' : X} (hx : compX x = some x') (ho : o.op = .call { callee := .builtin .unsafeSliceData, args := #[x], argTypes := #[t] })
    (ht : VRL φ ts a.tmps.toList) (hh : HR φ B H w) (he : evalOp (.usd x') ts H = some (v, H')) : Done P φ B H w (execOp a.eval o) v H' := by
  have h0 := compX_ok hx ht
  simp only [evalOp] at he
  have hexec : ∀ {p r : Value}, a.eval x = p → (Builtin.unsafeSliceData_ #[t] o.type #[p]).run P w = .ok r w → (execOp a.eval o).run P w = .ok (.value r) w := by
    intro p r e1 hr
    simp [execOp, ho, resolve, invoke, builtin, e1, hr]
  split at he
  · rename_i e1
    cases he
    rw [e1] at h0
    generalize hp : a.eval x = p at h0
    cases h0
    exact Done.pure (hexec hp rfl) .nilp hh
  · rename_i b off n c z e1
    cases he
    rw [e1] at h0
    generalize hp : a.eval x = p at h0
    cases h0 with
    | slice hl hc hn htt =>
      exact Done.pure (hexec hp (Lib.run_unsafeSliceData_row w #[t] o.type _ _ _ (by omega))) (.ptr hl) hh
  · cases he
theorem liesAt_bytes_off {e : TypeId} (hc : P.cellsOf e = 1) (count off n : Nat) (hn : off + n ≤ count) : liesAt P P.depth e count off e n = true := by
  have hd : P.depth = (2 * (P.types.size + Made.depth) + 1) + 1 := rfl
  rw [hd]
  simp only [liesAt, Bool.or_eq_true]
  left
  rw [hd]
  simp [rowAt, hc, hn, sameLayout, Nat.mod_one]
theorem bytes_list {s : List Nat} (h : ∀ n ∈ s, n < 256) : ∃ l : List UInt8, s = l.map UInt8.toNat := by
  induction s with
  | nil => exact ⟨[], rfl⟩
  | cons n s ih =>
    obtain ⟨l, hl⟩ := ih fun m hm => h m (List.mem_cons_of_mem _ hm)
    refine ⟨UInt8.ofNat n :: l, ?_⟩
    have : n < 256 := h n (List.mem_cons_self ..)
    simp [hl]
    omega
theorem run_unsafeString_at {pt it ty e : TypeId} {k : IntKind} {g off cells : Nat} (hp : P.underlying pt = some (.pointer e)) (hc : P.cellsOf e = 1) (hsh : w.shape? g = some (e, cells)) (l : List UInt8) (h0 : l ≠ []) (hn : off + l.length ≤ cells) (h63 : l.length ≤ 9223372036854775807)
    (hcell : ∀ j x, l[j]? = some x → w.cell? ((⟨g, off, none⟩ : Addr).add j) = some (.int .u8 x.toNat)) :
    (Builtin.unsafeString_ #[pt, it] ty #[.pointer (some ⟨g, off, none⟩), .int k l.length]).run P w = .ok (.string ⟨l.toArray⟩) (w.freeze ⟨g, off, none⟩ l.length) := by
  have hl : l.length ≠ 0 := by simpa using h0
  have hlb := Lib.run_loadBytes (P := P) w l ⟨g, off, none⟩ .empty hcell
  have hlies := liesAt_bytes_off (P := P) hc (cells / P.cellsOf e) off l.length (by rw [hc]; simpa using hn)
  have h63' : ¬ (9223372036854775807 : Int) < (l.length : Int) := by omega
  obtain ⟨m1, m2, m3, hdef⟩ : ∃ m1 m2 m3 : String, Builtin.unsafeString_ #[pt, it] ty #[.pointer (some ⟨g, off, none⟩), .int k l.length] =
      (do
        let n ← asInt (.int k l.length)
        if n < 0 then runtimePanic (.error m1)
        if n > IntKind.i64.max then unsupported (.unsafePointer m2)
        if n = 0 then pure (.string .empty)
        else if ← variablesAt ⟨g, off, none⟩ (← elemOf pt) n.toNat then do
          let s ← loadBytes ⟨g, off, none⟩ .empty n.toNat
          freeze ⟨g, off, none⟩ n.toNat
          pure (.string s)
        else unsupported (.unsafePointer m3)) := ⟨_, _, _, rfl⟩
  rw [hdef]
  have hmax : IntKind.i64.max = 9223372036854775807 := rfl
  have hneg : ¬ (l.length : Int) < 0 := by omega
  simp [asInt, asIntOf, hmax, h63', hneg, hl, variablesAt, hsh, elemOf, run_underlying hp, hlies, hlb]
theorem run_unsafeString_zero {pt it ty : TypeId} {k : IntKind} (p : Option Addr) : (Builtin.unsafeString_ #[pt, it] ty #[.pointer p, .int k 0]).run P w = .ok (.string .empty) w := by
  have hmax : IntKind.i64.max = 9223372036854775807 := rfl
  cases p with
  | none =>
    obtain ⟨m1, m2, m3, hdef⟩ : ∃ m1 m2 m3 : String, Builtin.unsafeString_ #[pt, it] ty #[.pointer none, .int k 0] =
        (do
          let n ← asInt (.int k 0)
          if n < 0 then runtimePanic (.error m1)
          if n > IntKind.i64.max then unsupported (.unsafePointer m2)
          if n = 0 then pure (.string .empty)
          else runtimePanic (.error m3)) := ⟨_, _, _, rfl⟩
    rw [hdef]
    simp [asInt, asIntOf, hmax]
  | some a =>
    obtain ⟨m1, m2, m3, hdef⟩ : ∃ m1 m2 m3 : String, Builtin.unsafeString_ #[pt, it] ty #[.pointer (some a), .int k 0] =
        (do
          let n ← asInt (.int k 0)
          if n < 0 then runtimePanic (.error m1)
          if n > IntKind.i64.max then unsupported (.unsafePointer m2)
          if n = 0 then pure (.string .empty)
          else if ← variablesAt a (← elemOf pt) n.toNat then do
            let s ← loadBytes a .empty n.toNat
            freeze a n.toNat
            pure (.string s)
          else unsupported (.unsafePointer m3)) := ⟨_, _, _, rfl⟩
    rw [hdef]
    simp [asInt, asIntOf, hmax]
theorem ok_ust {t u e : TypeId} {ti : TI} {p n : Operand} {p' n' : X} (hu : P.underlying t = some (.pointer e)) (hti : TIOk P e ti) (hz : ti.size = 1) (hp : compX p = some p') (hn : compX n = some n')
    (ho : o.op = .call { callee := .builtin .unsafeString, args := #[p, n], argTypes := #[t, u] })
    (ht : VRL φ ts a.tmps.toList) (hh : HR φ B H w) (he : evalOp (.ust e p' n') ts H = some (v, H')) : Done P φ B H w (execOp a.eval o) v H' := by
  have h1 := compX_ok hp ht
  have h2 := compX_ok hn ht
  obtain ⟨info, d, z, i1, _, _, i4, _⟩ := hti.ex
  have hcells : P.cellsOf e = 1 := by simp [Program.cellsOf, i1, i4, hz]
  have hexec : ∀ {x y r : Value} {w' : World}, a.eval p = x → a.eval n = y → (Builtin.unsafeString_ #[t, u] o.type #[x, y]).run P w = .ok r w' → (execOp a.eval o).run P w = .ok (.value r) w' := by
    intro x y r w' e1 e2 hr
    simp [execOp, ho, resolve, invoke, builtin, e1, e2, hr]
  simp only [evalOp] at he
  split at he
  · rename_i k e2
    rw [e2] at h2
    generalize hy : a.eval n = y at h2
    cases h2
    have : ∃ q, a.eval p = .pointer q ∧ v = .str [] ∧ H' = H := by
      split at he
      · rename_i e1; cases he; rw [e1] at h1; generalize hx : a.eval p = x at h1; cases h1; exact ⟨_, rfl, rfl, rfl⟩
      · rename_i e1; cases he; rw [e1] at h1; generalize hx : a.eval p = x at h1; cases h1; exact ⟨_, rfl, rfl, rfl⟩
      · cases he
    obtain ⟨q, hq, rfl, rfl⟩ := this
    exact Done.pure (hexec hq hy (run_unsafeString_zero q)) (.str rfl) hh
  · rename_i kk k e2
    rw [e2] at h2
    generalize hy : a.eval n = y at h2
    cases h2
    split at he
    · rename_i b off e1
      rw [e1] at h1
      generalize hx : a.eval p = x at h1
      cases h1 with
      | ptr hl =>
        rename_i l
        split at he
        · rename_i cs e' ex frz hg
          split at he
          · rename_i hcond
            simp only [Bool.and_eq_true] at hcond
            obtain ⟨hle, hee, hmx⟩ := hcond
            have hle := Nat.le_of_ble_eq_true hle
            have hee := Nat.eq_of_beq_eq_true hee
            have hmx := Nat.le_of_ble_eq_true hmx
            subst hee
            split at he
            · rename_i s hs
              cases he
              have hob := hh.obj b l hl
              rw [hg] at hob
              have hlive := HR.live_row hg
              cases hob with
              | row hb hsz hcl hlen hex hro hfr =>
                rename_i C lo hi
                have hv : VRL φ ((cs.drop off).take (k + 1)) ((C.toList.drop (l.base + off)).take (k + 1)) := VRL.of_cells hcl hle (by omega)
                obtain ⟨ns, hns1, hns2, hlt⟩ := bytesOfS_ok hs hv
                obtain ⟨bs, rfl⟩ := bytes_list hlt
                have hlb : bs.length = k + 1 := by
                  have := congrArg List.length hns1
                  simp [hns2] at this
                  omega
                have hbs : ∀ j x, bs[j]? = some x → w.cell? ((⟨l.rb, l.base + off, none⟩ : Addr).add j) = some (.int .u8 x.toNat) := by
                  intro j x hj
                  rw [addr_add, cell?_at w _ _ C _ _ hb]
                  have : ((C.toList.drop (l.base + off)).take (k + 1))[j]? = some (.int .u8 x.toNat) := by
                    rw [hns1, hns2]
                    simp [hj]
                  rw [List.getElem?_take] at this
                  split at this
                  · rw [List.getElem?_drop, Array.getElem?_toList] at this
                    exact this
                  · cases this
                have hrun := run_unsafeString_at (P := P) (w := w) (pt := t) (it := u) (ty := o.type) (k := kk) (off := l.base + off) hu hcells (shape?_at w l.rb C _ _ hb) bs (by intro h; simp [h] at hlb) (by omega) (by have : maxStr = 4611686018427387904 := rfl; omega) hbs
                have e3 : (Int.ofNat (k + 1)) = ((bs.length : Nat) : Int) := by rw [hlb]; rfl
                have hne : k + 1 ≠ 0 := by omega
                have hn0 : bs.length ≠ 0 := by omega
                have hsame : ∃ f, (w.freeze ⟨l.rb, l.base + off, none⟩ bs.length).heap[l.rb]? = some (.cells C e' f) := by
                  unfold World.freeze
                  rw [if_neg hn0]
                  refine ⟨if lo == hi then (l.base + off, l.base + off + bs.length) else (min lo (l.base + off), max hi (l.base + off + bs.length)), ?_⟩
                  simp only [Array.getElem?_modify, if_true, hb, Option.map_some]
                have hoth : ∀ q, q ≠ l.rb → (w.freeze ⟨l.rb, l.base + off, none⟩ bs.length).heap[q]? = w.heap[q]? := by
                  intro q hq
                  unfold World.freeze
                  rw [if_neg hn0]
                  simp only [Array.getElem?_modify]
                  rw [if_neg (Ne.symm hq)]
                have hsize : (w.freeze ⟨l.rb, l.base + off, none⟩ bs.length).heap.size = w.heap.size := by
                  unfold World.freeze
                  rw [if_neg hn0]
                  simp
                refine Done.mk (φ' := φ) (u := .string ⟨bs.toArray⟩) (w' := w.freeze ⟨l.rb, l.base + off, none⟩ bs.length) (Nat.le_refl _) (Emb.ext.refl φ _) (hexec hx (by rw [hy, e3]) hrun) (.str (by simp)) ?_ (Lib.below_freeze (Below.refl _ _) (hro rfl) _)
                obtain ⟨⟨lo', hi'⟩, hb2⟩ := hsame
                refine hh.change hl hlive hsize hoth ?_
                exact .row hb2 hsz hcl hlen hex (fun h => by cases h) (fun h => by cases h)
            · cases he
          · cases he
        · cases he
    · cases he
  · cases he
theorem run_seenAt {C : Array Value} {e : TypeId} {f : Nat × Nat} {g off : Nat} (hb : w.heap[g]? = some (.cells C e f)) : (Conv.seenAt ⟨g, off, none⟩).run P w = .ok ⟨g, off, none⟩ w := by
  simp [Conv.seenAt, viewAt, shape?_at w g C e f hb]
theorem ok_cvu {s d e : TypeId} {ti : TI} {x : Operand} {x' : X} (hs : P.underlying s = some (.pointer e)) (hd : P.underlying d = some .unsafePointer) (hti : TIOk P e ti) (hx : compX x = some x') (ho : o.op = .convert s d x)
    (ht : VRL φ ts a.tmps.toList) (hh : HR φ B H w) (he : evalOp (.cvu x') ts H = some (v, H')) : Done P φ B H w (execOp a.eval o) v H' := by
  have h0 := compX_ok hx ht
  obtain ⟨info, dd, z, i1, _, _, i4, _⟩ := hti.ex
  have hcells : P.cellsOf e ≠ 0 := by have := hti.pos; simp [Program.cellsOf, i1, i4]; omega
  simp only [evalOp] at he
  split at he
  · rename_i e1
    cases he
    rw [e1] at h0
    generalize hp : a.eval x = p at h0
    cases h0
    refine Done.pure (u := .pointer none) ?_ .nilp hh
    simp only [execOp, ho, hp]
    refine run_value ?_
    simp [convert, run_underlying hs, run_underlying hd, Conv.unsafePointer]
  · rename_i b off e1
    split at he
    · rename_i cs e' ex ro frz hg
      split at he
      · rename_i hlt
        cases he
        have hlt := Nat.le_of_ble_eq_true hlt
        rw [e1] at h0
        generalize hp : a.eval x = p at h0
        cases h0 with
        | ptr hl =>
          rename_i l
          have hob := hh.obj b l hl
          rw [hg] at hob
          cases hob with
          | row hb hsz hcl hlen hex hro hfr =>
            rename_i C lo hi
            refine Done.pure (u := .pointer (some ⟨l.rb, l.base + off, none⟩)) ?_ (.ptr hl) hh
            simp only [execOp, ho, hp]
            refine run_value ?_
            have hno : ¬ (C.size ≤ l.base + off) := by omega
            simp [convert, run_underlying hs, run_underlying hd, Conv.unsafePointer, run_seenAt hb, cellsIn, shape?_at w l.rb C _ _ hb, run_sizeOf w i1, hcells, hno]
      · cases he
    · cases he
  · cases he
theorem ok_cvb {s d e : TypeId} {x : Operand} {x' : X} (hs : P.underlying s = some .unsafePointer) (hd : P.underlying d = some (.pointer e)) (hi : ∃ i, P.info? e = some i) (hx : compX x = some x') (ho : o.op = .convert s d x)
    (ht : VRL φ ts a.tmps.toList) (hh : HR φ B H w) (he : evalOp (.cvb (cvbChk P e) x') ts H = some (v, H')) : Done P φ B H w (execOp a.eval o) v H' := by
  have h0 := compX_ok hx ht
  obtain ⟨info, i1⟩ := hi
  simp only [evalOp] at he
  split at he
  · rename_i e1
    cases he
    rw [e1] at h0
    generalize hp : a.eval x = p at h0
    cases h0
    refine Done.pure (u := .pointer none) ?_ .nilp hh
    simp only [execOp, ho, hp]
    refine run_value ?_
    simp [convert, run_underlying hs, run_underlying hd, Conv.unsafePointer]
  · rename_i b off e1
    split at he
    · rename_i cs e' ro frz hg
      split at he
      · rename_i hlies
        cases he
        rw [e1] at h0
        generalize hp : a.eval x = p at h0
        cases h0 with
        | ptr hl =>
          rename_i l
          have hob := hh.obj b l hl
          rw [hg] at hob
          cases hob with
          | row hb hsz hcl hlen hex hro hfr =>
            rename_i C lo hi
            obtain ⟨hb0, htot⟩ := hex rfl
            refine Done.pure (u := .pointer (some ⟨l.rb, l.base + off, none⟩)) ?_ (.ptr hl) hh
            simp only [execOp, ho, hp]
            refine run_value ?_
            have hl2 : liesAt P P.depth e' (C.size / P.cellsOf e') (l.base + off) e 1 = true := by rw [hsz, htot, hb0, Nat.zero_add]; exact hlies
            simp [convert, run_underlying hs, run_underlying hd, Conv.unsafePointer, run_seenAt hb, shape?_at w l.rb C _ _ hb, run_sizeOf w i1, variablesAt, hl2]
      · cases he
    · cases he
  · cases he
theorem run_eqPtr (d : Nat) {t e : TypeId} {i : TypeInfo} {p q : Option Addr} (hu : P.underlying t = some (.pointer e)) (i1 : P.info? e = some i) (hcells : P.cellsOf e ≠ 0)
    (hs : ∀ x y, p = some x → q = some y → x.block = y.block) : (Op.equalIn (d + 1) t (.pointer p) (.pointer q)).run P w = .ok (p == q) w := by
  cases p with
  | none => cases q <;> simp [Op.equalIn, run_underlying hu]
  | some x =>
    cases q with
    | none => simp [Op.equalIn, run_underlying hu]
    | some y =>
      have := hs x y rfl rfl
      simp [Op.equalIn, run_underlying hu, run_sizeOf w i1, hcells, sameAddr, this]
theorem ok_eqp {neg : Bool} {op : BinOp} {t yt e : TypeId} {ti : TI} {x y : Operand} {x' y' : X} (hop : op = if neg then .neq else .eql) (hu : P.underlying t = some (.pointer e)) (hti : TIOk P e ti)
    (hx : compX x = some x') (hy : compX y = some y') (ho : o.op = .binOp op t x y yt) (ht : VRL φ ts a.tmps.toList) (hh : HR φ B H w)
    (he : evalOp (.eqp neg x' y') ts H = some (v, H')) : Done P φ B H w (execOp a.eval o) v H' := by
  have h1 := compX_ok hx ht
  have h2 := compX_ok hy ht
  obtain ⟨info, dd, z, i1, _, _, i4, _⟩ := hti.ex
  have hcells : P.cellsOf e ≠ 0 := by have := hti.pos; simp [Program.cellsOf, i1, i4]; omega
  have key : ∀ (p q : Option Addr) (b : Bool), a.eval x = .pointer p → a.eval y = .pointer q → (Op.equalIn (9999 + 1) t (.pointer p) (.pointer q)).run P w = .ok b w → v = .bool (b != neg) → H' = H → Done P φ B H w (execOp a.eval o) v H' := by
    intro p q b e1 e2 hq0 hv hH
    subst hv hH
    have hq : (Op.equal t (.pointer p) (.pointer q)).run P w = .ok b w := hq0
    have hgd : ∀ op, (eqGuard op t x y (.pointer p) (.pointer q)).run P w = .ok () w := fun op => eqGuard_plain trivial
    refine Done.pure (u := .bool (b != neg)) ?_ (.bool _) hh
    simp only [execOp, ho, e1, e2]
    refine run_value ?_
    subst hop
    cases neg <;> simp [hgd, binOp, hq]
  simp only [evalOp] at he
  split at he
  · rename_i e1 e2
    rw [e1] at h1; rw [e2] at h2
    cases he
    generalize hp : a.eval x = p at h1
    generalize hq : a.eval y = q at h2
    cases h1; cases h2
    exact key _ _ true hp hq (run_eqPtr 9999 hu i1 hcells (fun x y h => by cases h)) rfl rfl
  · rename_i e1 e2
    rw [e1] at h1; rw [e2] at h2
    cases he
    generalize hp : a.eval x = p at h1
    generalize hq : a.eval y = q at h2
    cases h1; cases h2
    exact key _ _ false hp hq (run_eqPtr 9999 hu i1 hcells (fun x y h h' => by first | cases h; done | cases h'; done)) rfl rfl
  · rename_i e1 e2
    rw [e1] at h1; rw [e2] at h2
    cases he
    generalize hp : a.eval x = p at h1
    generalize hq : a.eval y = q at h2
    cases h1; cases h2
    exact key _ _ false hp hq (run_eqPtr 9999 hu i1 hcells (fun x y h h' => by first | cases h; done | cases h'; done)) rfl rfl
  · rename_i b off b' off' e1 e2
    split at he
    · rename_i hbb
      have hbb := Nat.eq_of_beq_eq_true hbb
      subst hbb
      rw [e1] at h1; rw [e2] at h2
      cases he
      generalize hp : a.eval x = p at h1
      generalize hq : a.eval y = q at h2
      cases h1 with
      | ptr hl =>
        rename_i l
        cases h2 with
        | ptr hl2 =>
          rename_i l2
          rw [hl] at hl2
          cases hl2
          refine key _ _ (Nat.beq off off') hp hq ?_ rfl rfl
          have : ((⟨l.rb, l.base + off, none⟩ : Addr) == ⟨l.rb, l.base + off', none⟩) = Nat.beq off off' := by
            by_cases h : off = off'
            · subst h; simp
            · have h3 : Nat.beq off off' = false := by
                cases h4 : Nat.beq off off' with
                | true => exact absurd (Nat.eq_of_beq_eq_true h4) h
                | false => rfl
              rw [h3]
              simp
          have h5 := run_eqPtr (P := P) (w := w) 9999 (p := some ⟨l.rb, l.base + off, none⟩) (q := some ⟨l.rb, l.base + off', none⟩) hu i1 hcells (fun x y h h' => by cases h; cases h'; rfl)
          rw [h5, ← this]
          rfl
    · cases he
  · cases he
theorem ok_cvis {s d : TypeId} {k : IntKind} {x : Operand} {y : X} (hs : P.underlying s = some (.int k)) (hd : P.underlying d = some .string) (hc : compX x = some y) (ho : o.op = .convert s d x)
    (ht : VRL φ ts a.tmps.toList) (hh : HR φ B H w) (he : evalOp (.cvis y) ts H = some (v, H')) : Done P φ B H w (execOp a.eval o) v H' := by
  have h0 := compX_ok hc ht
  simp only [evalOp] at he
  split at he
  · rename_i k' n e1
    cases he
    rw [e1] at h0
    generalize hp : a.eval x = p at h0
    cases h0
    refine Done.pure (u := .string (Utf8.encode n)) ?_ (.str rfl) hh
    simp only [execOp, ho, hp]
    refine run_value ?_
    simp [convert, run_underlying hs, run_underlying hd, Conv.intToString]
  · cases he
theorem ok_rng {t : TypeId} {x : Operand} {y : X} (hu : P.underlying t = some .string) (hc : compX x = some y) (ho : o.op = .range t x)
    (ht : VRL φ ts a.tmps.toList) (hh : HR φ B H w) (he : evalOp (.rng y) ts H = some (v, H')) : Done P φ B H w (execOp a.eval o) v H' := by
  have h0 := compX_ok hc ht
  simp only [evalOp] at he
  split at he
  · rename_i s e1
    cases he
    rw [e1] at h0
    generalize hp : a.eval x = p at h0
    cases h0 with
    | str hs =>
      rename_i t'
      refine Done.mk (φ' := φ.ins H.next ⟨w.heap.size, 0, 0, .bool false⟩) (w' := w.alloc (.stringIter t' 0)) (Nat.le_succ _) (Emb.ext_ins hh.fresh) (u := .pointer (some ⟨w.heap.size, 0, none⟩)) ?_ (.ptr (Emb.ins_same _ _ _)) ?_ ((Below.refl _ _).alloc hh.sz _)
      · simp only [execOp, ho, hp]
        refine run_value ?_
        simp [Instr.range, run_underlying hu]
      · refine hh.push (l := ⟨w.heap.size, 0, 0, .bool false⟩) (o := .stringIter t' 0) rfl (by simp) (fun k hk => Below.heap_alloc _ _ _ hk) (fun hn => ?_) (heap_alloc_new w _)
        exact .siter hn hs hh.sz rfl
  · cases he
theorem getD_bytes (t : ByteArray) (i : Nat) : (t.data.toList.map UInt8.toNat).getD i 0 = (t.get! i).toNat := by
  by_cases h : i < t.data.size
  · have e : t.get! i = t.data[i] := by
      exact getElem!_pos t.data i h
    rw [e, List.getD_eq_getElem?_getD, List.getElem?_map, Array.getElem?_toList, Array.getElem?_eq_getElem h]
    rfl
  · have e : t.get! i = default := by
      exact getElem!_neg t.data i h
    rw [e, List.getD_eq_getElem?_getD, List.getElem?_map, Array.getElem?_toList, Array.getElem?_eq_none (by omega)]
    rfl
theorem decS_ok (t : ByteArray) (i : Nat) : decS (t.data.toList.map UInt8.toNat) i = Utf8.decode t i := by
  have hlen : (t.data.toList.map UInt8.toNat).length = t.size := by rw [List.length_map, Array.length_toList]; rfl
  unfold decS Utf8.decode
  simp only [getD_bytes, hlen]
theorem ok_nxt {x : Operand} {y : X} (hc : compX x = some y) (ho : o.op = .next x true)
    (ht : VRL φ ts a.tmps.toList) (hh : HR φ B H w) (he : evalOp (.nxt y) ts H = some (v, H')) : Done P φ B H w (execOp a.eval o) v H' := by
  have h0 := compX_ok hc ht
  simp only [evalOp] at he
  split at he
  · rename_i b e1
    rw [e1] at h0
    generalize hp : a.eval x = p at h0
    cases h0 with
    | ptr hl =>
      rename_i l
      split at he
      · rename_i s pos hg
        have hob := hh.obj b l hl
        rw [hg] at hob
        have hlive : live (H.get b) := by rw [hg]; trivial
        cases hob with
        | siter hb hs hB hb0 =>
          rename_i t
          have hlen : s.length = t.size := by rw [hs, List.length_map, Array.length_toList]; rfl
          have hget : (getObj l.rb).run P w = .ok (.stringIter t pos) w := by simp [getObj, Sem.run, hb]
          have hr0 : l.rb = l.rb := rfl
          split at he
          · rename_i hlt
            cases he
            have hlt := Nat.le_of_ble_eq_true hlt
            have hlt' : pos < t.size := by rw [← hlen]; exact hlt
            have hd := decS_ok t pos
            rw [← hs] at hd
            have hset := run_setObj (P := P) (w := w) (nb := .stringIter t (pos + (Utf8.decode t pos).2)) hb (by intro c e f h; cases h)
            refine Done.mk (φ' := φ) (w' := { w with heap := w.heap.setIfInBounds l.rb (.stringIter t (pos + (Utf8.decode t pos).2)) }) (u := .tuple #[.bool true, goInt pos, .int .i32 (Utf8.decode t pos).1]) (Nat.le_refl _) (Emb.ext.refl φ _) ?_ ?_ ?_ ?_
            · simp only [execOp, ho, hp, hb0, Nat.add_zero]
              refine run_value ?_
              simp only [Instr.next, Sem.run_bind, hget, Result.andThen_ok, hlt', if_true, hset, Sem.run_pure]
            · refine .tup ?_
              rw [hd]
              exact .cons (.bool true) (.cons (.int _ _) (.cons (.int _ _) .nil))
            · have hlt2 := (hh.dom b l hl).2
              refine hh.change hl hlive (by simp) (fun k hk => by simp [Array.getElem?_setIfInBounds, Ne.symm hk]) ?_
              rw [hd]
              exact .siter (by simp [Array.getElem?_setIfInBounds, hlt2]) hs hB hb0
            · refine ⟨rfl, rfl, rfl, by simp, fun k hk => ?_⟩
              have : l.rb ≠ k := by omega
              simp [Array.getElem?_setIfInBounds, this]
          · rename_i hlt
            cases he
            have hge : ¬ pos < t.size := by
              intro h
              rw [← hlen] at h
              rw [show Nat.blt pos s.length = true from Nat.ble_eq_true_of_le h] at hlt
              cases hlt
            refine Done.pure (u := .tuple #[.bool false]) ?_ (.tup (.cons (.bool false) .nil)) hh
            simp only [execOp, ho, hp, hb0, Nat.add_zero]
            refine run_value ?_
            simp only [Instr.next, Sem.run_bind, hget, Result.andThen_ok, hge, if_false, Sem.run_pure]
      · cases he
  · cases he
end
end Go.Sh
end
section
namespace Go.Sh
open Go.RowKit (Below)
section
variable {P : Program} {φ : Emb} {B : Nat} {H H' : Heap} {w : World} {ts : T} {a : Act} {o : Oper} {v : SV}
theorem compBin_ok {op : BinOp} {t yt : TypeId} {x y : Operand} {so : SOp} (hc : compBin P op t x y = some so) (ho : o.op = .binOp op t x y yt) (ht : VRL φ ts a.tmps.toList) (hh : HR φ B H w)
    (he : evalOp so ts H = some (v, H')) : Done P φ B H w (execOp a.eval o) v H' := by
  unfold compBin at hc
  split at hc
  · rename_i x' y' hx hy
    have eqcase : ∀ neg, op = (if neg then .neq else .eql) → (match P.underlying t with
        | some (.int _) => some (.bin op x' y')
        | some .string => some (.bin op x' y')
        | some .bool => some (.eqf neg false [(0, 0)] x' y')
        | some (.struct _) => match leaves P 6 t, P.eqGuardType P.depth t with
          | some L, false => some (.eqf neg true L x' y')
          | _, _ => none
        | some d => match kindD d, isNilX x || isNilX y with
          | some k, true => some (.eqn neg k x' y')
          | _, false => match d with
            | .pointer e => match tinfo P e with
              | some _ => some (.eqp neg x' y')
              | none => none
            | _ => none
          | _, _ => none
        | none => none) = some so → Done P φ B H w (execOp a.eval o) v H' := by
      intro neg hop hq
      split at hq
      · cases hq; exact ok_bin hx hy ho ht hh he
      · cases hq; exact ok_bin hx hy ho ht hh he
      · rename_i hu; cases hq; exact ok_eqf_bool hop hu hx hy ho ht hh he
      · rename_i fs hu
        split at hq
        · rename_i L hL hg; cases hq; exact ok_eqf_struct hop hu hL hg hx hy ho ht hh he
        · cases hq
      · rename_i d _ _ _ _ hu
        split at hq
        · rename_i k hk hn; cases hq; exact ok_eqn hop hu hk hn hx hy ho ht hh he
        · split at hq
          · split at hq
            · rename_i ti hti; cases hq; exact ok_eqp hop hu (tinfo_ok hti) hx hy ho ht hh he
            · cases hq
          · cases hq
        · cases hq
      · cases hq
    cases op
    case eql => exact eqcase false rfl hc
    case neq => exact eqcase true rfl hc
    all_goals
      cases hc
      exact ok_bin hx hy ho ht hh he
  · cases hc
theorem compConv_ok {s d : TypeId} {x : Operand} {so : SOp} (hc : compConv P s d x = some so) (ho : o.op = .convert s d x) (ht : VRL φ ts a.tmps.toList) (hh : HR φ B H w)
    (he : evalOp so ts H = some (v, H')) : Done P φ B H w (execOp a.eval o) v H' := by
  unfold compConv at hc
  split at hc
  · cases hc
  · rename_i x' hx
    split at hc
    · rename_i hs hd; cases hc; exact ok_cvi hs hd hx ho ht hh he
    · rename_i hs hd; cases hc; exact ok_cvs hs hd hx ho ht hh he
    · rename_i e hs hd
      split at hc
      · rename_i he8; cases hc; exact ok_cvsb hs hd he8 hx ho ht hh he
      · cases hc
    · rename_i e hs hd
      split at hc
      · rename_i he8; cases hc; exact ok_cvbs hs hd he8 hx ho ht hh he
      · cases hc
    · rename_i e hs hd
      split at hc
      · rename_i ti hti; cases hc; exact ok_cvu hs hd (tinfo_ok hti) hx ho ht hh he
      · cases hc
    · rename_i e hs hd
      split at hc
      · rename_i ti hti
        cases hc
        obtain ⟨info, _, _, i1, _⟩ := (tinfo_ok hti).ex
        exact ok_cvb hs hd ⟨info, i1⟩ hx ho ht hh he
      · cases hc
    · rename_i hs hd; cases hc; exact ok_cvis hs hd hx ho ht hh he
    · cases hc
theorem compSlice_ok {t : TypeId} {x : Operand} {lo hi mx : Option Operand} {so : SOp} (hc : compSlice P t x lo hi mx = some so) (hne : mx ≠ none → ∃ h0, hi = some h0) (ho : o.op = .slice t x lo hi mx) (ht : VRL φ ts a.tmps.toList) (hh : HR φ B H w)
    (he : evalOp so ts H = some (v, H')) : Done P φ B H w (execOp a.eval o) v H' := by
  unfold compSlice at hc
  split at hc
  · rename_i x' lo' hi' mx' hx hlo hhi hmx
    split at hc
    · rename_i hu
      split at hc
      · cases hc
        have : mx = none := by
          cases mx with
          | none => rfl
          | some m => simp only [compXo] at hmx; split at hmx <;> cases hmx
        subst this
        exact ok_sls hu hx hlo hhi ho ht hh he
      · cases hc
    · rename_i e hu
      split at hc
      · rename_i ti hti; cases hc; exact ok_slv hu (tinfo_ok hti) hx hlo hhi hmx hne ho ht hh he
      · cases hc
    · rename_i n e hu
      split at hc
      · rename_i ti hti
        cases hc
        have : mx = none := by
          cases mx with
          | none => rfl
          | some m => simp only [compXo] at hmx; split at hmx <;> cases hmx
        subst this
        exact ok_sla hu (tinfo_ok hti) hx hlo hhi ho ht hh he
      · cases hc
    · cases hc
  · cases hc
theorem arr1 {α : Type} {xs : Array α} {x : α} (h : xs.toList = [x]) : xs = #[x] := by cases xs; simp_all
theorem arr2 {α : Type} {xs : Array α} {x y : α} (h : xs.toList = [x, y]) : xs = #[x, y] := by cases xs; simp_all
theorem compBuiltin_ok {c : Call} {b : Builtin} {so : SOp} (hc : compBuiltin P b c.args c.argTypes = some so) (hcal : c.callee = .builtin b) (ho : o.op = .call c) (ht : VRL φ ts a.tmps.toList) (hh : HR φ B H w)
    (he : evalOp so ts H = some (v, H')) : Done P φ B H w (execOp a.eval o) v H' := by
  obtain ⟨callee, args, ats⟩ := c
  simp only at hcal
  subst hcal
  unfold compBuiltin at hc
  split at hc
  · rename_i x t hax hat
    obtain rfl := arr1 hax
    obtain rfl := arr1 hat
    split at hc
    · rename_i x' hu hx; cases hc; exact ok_lens hu hx ho ht hh he
    · rename_i e x' hu hx; cases hc; exact ok_lenl hu hx ho ht hh he
    · rename_i k e x' hu hx; cases hc; exact ok_lenm hu hx ho ht hh he
    · rename_i n e x' hu hx; cases hc; exact ok_lenk hu ho hh he
    · cases hc
  · rename_i s x t u hax hat
    obtain rfl := arr2 hax
    obtain rfl := arr2 hat
    split at hc
    · rename_i e s' x' hu hs hx
      split at hc
      · rename_i ti e' hti hu'
        cases hc
        exact ok_app hu (tinfo_ok hti) hu' (by simp) (by simp) hs hx ho ht hh he
      · rename_i ti hti hu'
        split at hc
        · rename_i h1
          cases hc
          exact ok_app hu (tinfo_ok hti) hu' (by simp) (fun _ => Nat.eq_of_beq_eq_true h1) hs hx ho ht hh he
        · cases hc
      · cases hc
    · cases hc
  · split at hc
    · rename_i ys hy; cases hc; exact ok_mnx (isMax := false) hy ho ht hh he
    · cases hc
  · split at hc
    · rename_i ys hy; cases hc; exact ok_mnx (isMax := true) hy ho ht hh he
    · cases hc
  · rename_i d s t u hax hat
    obtain rfl := arr2 hax
    obtain rfl := arr2 hat
    split at hc
    · rename_i e d' s' hu hd hs
      split at hc
      · rename_i ti e' hti hu'
        cases hc
        exact ok_cpy hu (tinfo_ok hti) (by simp) hd hs ho ht hh he
      · rename_i ti hti hu'
        split at hc
        · rename_i h1
          cases hc
          exact ok_cpy hu (tinfo_ok hti) (fun _ => Nat.eq_of_beq_eq_true h1) hd hs ho ht hh he
        · cases hc
      · cases hc
    · cases hc
  · rename_i x t hax hat
    obtain rfl := arr1 hax
    obtain rfl := arr1 hat
    split at hc
    · rename_i e x' hu hx; cases hc; exact ok_usd hx ho ht hh he
    · cases hc
  · rename_i p n t u hax hat
    obtain rfl := arr2 hax
    obtain rfl := arr2 hat
    split at hc
    · rename_i e p' n' hu hp hn
      split at hc
      · rename_i ti hti
        split at hc
        · rename_i h1; cases hc; exact ok_ust hu (tinfo_ok hti) (Nat.eq_of_beq_eq_true h1) hp hn ho ht hh he
        · cases hc
      · cases hc
    · cases hc
  · cases hc
theorem compOp_ok {so : SOp} (hc : compOp P o = some so) (hfine : sliceFine o = true) (ht : VRL φ ts a.tmps.toList) (hh : HR φ B H w)
    (he : evalOp so ts H = some (v, H')) : Done P φ B H w (execOp a.eval o) v H' := by
  unfold compOp at hc
  split at hc
  · rename_i x ho; split at hc
    · rename_i y hy; cases hc; exact ok_mv hy (.inl ho) ht hh he
    · cases hc
  · rename_i x ho; split at hc
    · rename_i y hy; cases hc; exact ok_mv hy (.inr ho) ht hh he
    · cases hc
  · rename_i c x y ho; split at hc
    · rename_i c' x' y' h1 h2 h3; cases hc; exact ok_pick h1 h2 h3 ho ht hh he
    · cases hc
  · rename_i e ho; split at hc
    · rename_i ti hti; cases hc; exact ok_alloc (tinfo_ok hti) ho hh he
    · cases hc
  · rename_i e x ho; split at hc
    · rename_i y hy; cases hc; exact ok_box hy ho ht hh he
    · cases hc
  · rename_i t parts ho; split at hc
    · rename_i ti fs hti hu
      split at hc
      · rename_i ps hps hall; cases hc; exact ok_build (tinfo_ok hti) hu hps hall ho ht hh he
      · cases hc
    · rename_i ti n e hti hu
      split at hc
      · rename_i j hj
        split at hc
        · rename_i ps hps; cases hc; exact ok_buildA (tinfo_ok hti) hu hj hps ho ht hh he
        · cases hc
      · cases hc
    · cases hc
  · rename_i t len parts ho; split at hc
    · rename_i e hu
      split at hc
      · rename_i ti hti
        split at hc
        · rename_i ps hps hroom; cases hc; exact ok_bslice (tinfo_ok hti) hu hps (Nat.le_of_ble_eq_true hroom) ho ht hh he
        · cases hc
      · cases hc
    · cases hc
  · rename_i t x ho; split at hc
    · rename_i ti y hti hy; cases hc; exact ok_load (tinfo_ok hti) hy ho ht hh he
    · cases hc
  · rename_i t x y ho; split at hc
    · rename_i ti x' y' hti h1 h2; cases hc; exact ok_store (tinfo_ok hti) h1 h2 ho ht hh he
    · cases hc
  · rename_i x ho; split at hc
    · rename_i y hy; cases hc; exact ok_nilc hy ho ht hh he
    · cases hc
  · rename_i op t x y yt ho; split at hc
    · rename_i so' hb; cases hc; exact compBin_ok hb ho ht hh he
    · cases hc
  · rename_i op t x ho; split at hc
    · rename_i y hy; cases hc; exact ok_un hy ho ht hh he
    · cases hc
  · rename_i s d x ho; split at hc
    · rename_i so' hb; cases hc; exact compConv_ok hb ho ht hh he
    · cases hc
  · rename_i t x ho; split at hc
    · cases hc
    · rename_i d y hni hu hy; cases hc; exact ok_mki hu (fun ms h => hni ms h) hy ho ht hh he
    · cases hc
  · rename_i f xs ys ho; split at hc
    · rename_i us vs h1 h2; cases hc; exact ok_mkf h1 h2 ho ht hh he
    · cases hc
  · rename_i t ho; cases hc; exact ok_mkm ho hh he
  · rename_i t l c ho; split at hc
    · rename_i e hu
      split at hc
      · rename_i ti l' c' hti h1 h2; cases hc; exact ok_mks (tinfo_ok hti) hu h1 h2 ho ht hh he
      · cases hc
    · cases hc
  · rename_i t x lo hi mx ho; split at hc
    · rename_i so' hb
      cases hc
      refine compSlice_ok hb (fun hm => ?_) ho ht hh he
      simp only [sliceFine, ho, Bool.or_eq_true] at hfine
      rcases hfine with h | h
      · exact absurd (Option.isNone_iff_eq_none.1 h) hm
      · exact Option.isSome_iff_exists.1 h
    · cases hc
  · rename_i s x f ho; split at hc
    · rename_i fs y hu hy
      split at hc
      · rename_i fd hfd
        split at hc
        · rename_i ti hti; cases hc; exact ok_fad hu hfd (tinfo_ok hti) hy ho ht hh he
        · cases hc
      · cases hc
    · cases hc
  · rename_i t x f ho; split at hc
    · rename_i fs y hu hy
      split at hc
      · rename_i fd hfd
        split at hc
        · rename_i ti hti; cases hc; exact ok_fld hu hfd (tinfo_ok hti) hy ho ht hh he
        · cases hc
      · cases hc
    · cases hc
  · rename_i t x i ho; split at hc
    · rename_i e x' i' hu h1 h2
      split at hc
      · rename_i ti hti; cases hc; exact ok_iad hu (tinfo_ok hti) h1 h2 ho ht hh he
      · cases hc
    · rename_i n e x' i' hu h1 h2
      split at hc
      · rename_i ti hti; cases hc; exact ok_iaa hu (tinfo_ok hti) h1 h2 ho ht hh he
      · cases hc
    · cases hc
  · rename_i t x i ho; split at hc
    · rename_i x' i' hu h1 h2; cases hc; exact ok_ixs hu h1 h2 ho ht hh he
    · rename_i n e x' i' hu h1 h2
      split at hc
      · rename_i ti hti; cases hc; exact ok_ixa hu (tinfo_ok hti) h1 h2 ho ht hh he
      · cases hc
    · cases hc
  · rename_i t m k ok ho; split at hc
    · rename_i key elem hu
      split at hc
      · rename_i L ti m' k' hL hti h1 h2; cases hc; exact ok_lku hu hL (tinfo_ok hti) h1 h2 ho ht hh he
      · cases hc
    · cases hc
  · rename_i t m k x ho; split at hc
    · rename_i key elem hu
      split at hc
      · rename_i L m' k' x' hL h1 h2 h3; cases hc; exact ok_mup hu hL h1 h2 h3 ho ht hh he
      · cases hc
    · cases hc
  · rename_i x i ho; split at hc
    · rename_i y hy; cases hc; exact ok_ext hy ho ht hh he
    · cases hc
  · rename_i x xt t ok ho; split at hc
    · cases hc
    · rename_i d hni hu
      split at hc
      · rename_i ti y hti hy; cases hc; exact ok_tas (tinfo_ok hti) hu (fun ms h => hni ms h) hy ho ht hh he
      · cases hc
    · cases hc
  · rename_i t x ho
    split at hc
    · rename_i y hu hy; cases hc; exact ok_rng hu hy ho ht hh he
    · cases hc
  · rename_i x b ho
    split at hc
    · rename_i y hy; cases hc; exact ok_nxt hy ho ht hh he
    · cases hc
  · rename_i c ho
    split at hc
    · rename_i b hcal
      split at hc
      · rename_i so' hb; cases hc; exact compBuiltin_ok hb hcal ho ht hh he
      · cases hc
    · rename_i f hcal
      split at hc
      · rename_i so' hb; cases hc; exact compExt_ok hb ho hcal ht hh he
      · cases hc
    · cases hc
  · cases hc
theorem run_callFunc {f : FuncId} {fn : Func} {args : Array Value} (hf : P.funcs[f]? = some fn) (hn : (fn.name == "runtime.NumGoroutine") = false) (hb : fn.body.isNone = false) :
    (callFunc f args).run P w = .ok (.enter f args) w := by
  unfold callFunc
  simp only [Sem.run_bind, run_program, Result.andThen_ok, hf]
  rw [hn, hb]
  rfl
theorem compCall_ok {c : Call} {f : FuncId} {xs : List X} (ho : o.op = .call c) (hc : compCall P c = some (.call f xs)) (ht : VRL φ ts a.tmps.toList) :
    ∃ args, VRL φ (evs ts xs) args.toList ∧ (execOp a.eval o).run P w = .ok (.enter f args) w := by
  unfold compCall at hc
  split at hc
  · rename_i f' hcal
    split at hc
    · rename_i fn xs' hf hx
      split at hc
      · rename_i hb
        cases hc
        simp only [Bool.and_eq_true, Bool.not_eq_true'] at hb
        refine ⟨c.args.map a.eval, compXs_ok hx ht, ?_⟩
        have hbn : fn.body.isNone = false := by cases h : fn.body <;> simp_all
        simp only [execOp, ho, resolve, hcal, Act.eval, Deferred.ofValue, invoke, Sem.run_bind, Sem.run_pure, Result.andThen_ok]
        rw [run_callFunc hf hb.2 hbn]
        simp
      · cases hc
    · cases hc
  · split at hc <;> cases hc
  · split at hc <;> cases hc
  · cases hc
def enterable (P : Program) (f : FuncId) : Bool :=
  match P.funcs[f]? with
  | some fn => fn.body.isSome && !(fn.name == "runtime.NumGoroutine")
  | none => false
theorem compCalld_ok {c : Call} {y : X} {xs : List X} {f : FuncId} {first captured : List SV} (ho : o.op = .call c) (hc : compCall P c = some (.calld y xs)) (ht : VRL φ ts a.tmps.toList)
    (hy : y.ev ts = .func f first captured) (hf : enterable P f = true) :
    ∃ args, VRL φ (first ++ (evs ts xs ++ captured)) args.toList ∧ (execOp a.eval o).run P w = .ok (.enter f args) w := by
  unfold compCall at hc
  split at hc
  · rename_i f' hcal
    split at hc
    · split at hc <;> cases hc
    · cases hc
  · rename_i x hne hcal
    split at hc
    · rename_i y' xs' h1 h2
      cases hc
      have h3 := compX_ok h1 ht
      rw [hy] at h3
      generalize hp : a.eval x = p at h3
      cases h3 with
      | func q1 q2 =>
        rename_i us vs
        refine ⟨us ++ c.args.map a.eval ++ vs, ?_, ?_⟩
        · simp only [Array.toList_append, List.append_assoc]
          exact q1.append ((compXs_ok h2 ht).append q2)
        · unfold enterable at hf
          split at hf
          · rename_i fn hfn
            simp only [Bool.and_eq_true, Bool.not_eq_true'] at hf
            have hbn : fn.body.isNone = false := by cases h : fn.body <;> simp_all
            simp only [execOp, ho, resolve, hcal, hp, Deferred.ofValue, invoke, Sem.run_bind, Sem.run_pure, Result.andThen_ok]
            rw [run_callFunc hfn hf.2 hbn]
          · cases hf
    · cases hc
  · split at hc <;> cases hc
  · cases hc
theorem run_method {m : String} {t : TypeId} {f : FuncId} {u : Value} (h : invTab P m t = some f) (n : Nat) : (method (n + 1) t u m).run P w = .ok (f, u) w := by
  unfold invTab at h
  split at h
  · cases h
  · rename_i i hi
    split at h
    · cases h
    · rename_i r hr
      split at h
      · rename_i f' e hp hf hu
        cases h
        simp [method, run_typeInfo w hi, hr, hp, hf, follow, receiverAt, run_underlying hu, Place.get]
      · cases h
      · rename_i f' d hne hp hf hu
        cases h
        have : ∀ e, d ≠ .pointer e := fun e h => hne e h
        cases d <;> simp [method, run_typeInfo w hi, hr, hp, hf, follow, receiverAt, run_underlying hu, Place.get]
        · exact absurd rfl (this _)
      · cases h
theorem compInv_ok {c : Call} {y : X} {tab : TypeId → Option FuncId} {xs : List X} {t : TypeId} {x0 : SV} {f : FuncId} (ho : o.op = .call c) (hc : compCall P c = some (.inv y tab xs)) (ht : VRL φ ts a.tmps.toList)
    (hy : y.ev ts = .iface t x0) (htab : tab t = some f) (hf : enterable P f = true) :
    ∃ args, VRL φ (x0 :: evs ts xs) args.toList ∧ (execOp a.eval o).run P w = .ok (.enter f args) w := by
  unfold compCall at hc
  split at hc
  · rename_i f' hcal
    split at hc
    · split at hc <;> cases hc
    · cases hc
  · split at hc <;> cases hc
  · rename_i x m hcal
    split at hc
    · rename_i y' xs' h1 h2
      cases hc
      have h3 := compX_ok h1 ht
      rw [hy] at h3
      generalize hp : a.eval x = p at h3
      cases h3 with
      | iface q1 =>
        rename_i u
        refine ⟨#[u] ++ c.args.map a.eval, ?_, ?_⟩
        · simp only [Array.toList_append]
          exact VRL.append (.cons q1 .nil) (compXs_ok h2 ht)
        · unfold enterable at hf
          split at hf
          · rename_i fn hfn
            simp only [Bool.and_eq_true, Bool.not_eq_true'] at hf
            have hbn : fn.body.isNone = false := by cases h : fn.body <;> simp_all
            have hm := run_method (P := P) (w := w) (u := u) htab
            have hcm : (callMethod (.iface t u) m (c.args.map a.eval)).run P w = .ok (.enter f (#[u] ++ c.args.map a.eval)) w := by
              simp only [callMethod, Sem.run_bind, run_program, Result.andThen_ok]
              rw [show P.types.size + Made.depth = (P.types.size + Made.depth - 1) + 1 by have : Made.depth ≠ 0 := by decide
                                                                                          omega]
              rw [hm]
              simp only [Result.andThen_ok]
              exact run_callFunc hfn hf.2 hbn
            have e0 : (#[Value.iface t u] ++ c.args.map a.eval : Array Value)[0]? = some (Value.iface t u) := by
              rw [← Array.getElem?_toList, Array.toList_append]
              rfl
            have e1 : (#[Value.iface t u] ++ c.args.map a.eval).extract 1 (#[Value.iface t u] ++ c.args.map a.eval).size = c.args.map a.eval := by
              apply Array.ext'
              simp [List.extract]
              exact List.take_of_length_le (by simp)
            simp only [execOp, ho, resolve, hcal, hp, invoke, Sem.run_bind, Sem.run_pure, Result.andThen_ok, e0, e1]
            exact hcm
          · cases hf
    · cases hc
  · cases hc
end
end Go.Sh
end
section
namespace Go.Sh
open Go.RowKit (Below)
def CPost (φ : Emb) (B : Nat) (H : Heap) (w : World) (r : SV) (H' : Heap) (e : Ending) (w' : World) : Prop :=
  H.next ≤ H'.next ∧ ∃ φ' u, φ.ext φ' H.next ∧ e = .returned u ∧ VR φ' r u ∧ HR φ' B H' w' ∧ Below B w w'
structure Ground where
  p : Emb → Nat → World → Prop
  st : ∀ φ φ' B w w', p φ B w → φ.le φ' → Below B w w' → p φ' B w'
def HG (G : Ground) (φ : Emb) (B : Nat) (H : Heap) (w : World) : Prop := HR φ B H w ∧ G.p φ B w
def CallOK (G : Ground) (P : Program) (call : CallS) : Prop :=
  ∀ f args H r H', call f args H = some (r, H') → enterable P f = true ∧
    ∀ φ B w (args' : Array Value), VRL φ args args'.toList → HG G φ B H w → Calls P f args' w (CPost φ B H w r H')
section
variable {G : Ground} {P : Program} {φ : Emb} {B : Nat} {H H' : Heap} {w : World} {ts : T} {a : Act} {o : Oper} {v : SV} {call : CallS}
theorem VRL.set {xs : List SV} {vs : List Value} {x : SV} {u : Value} (h : VRL φ xs vs) (hx : VR φ x u) : ∀ d, VRL φ (xs.set d x) (vs.set d u) := by
  induction h using VRL.rec (motive_1 := fun _ _ _ => True) with
  | nil => intro d; simpa using .nil
  | cons h t _ ih =>
    intro d
    cases d with
    | zero => exact .cons hx t
    | succ d => exact .cons h (ih d)
  | _ => trivial
theorem putT_ok {dst : Option Nat} {u : Value} (ht : VRL φ ts a.tmps.toList) (hv : VR φ v u) : VRL φ (putT ts dst v) (a.put dst u).tmps.toList := by
  cases dst with
  | none => exact ht
  | some d => simpa [putT, Act.put] using ht.set hv d
def KPost (G : Ground) (φ : Emb) (B : Nat) (H : Heap) (w : World) (v : SV) (H' : Heap) (K : Act → World → Prop) (a : Act) (dst : Option Nat) : Prop :=
  ∀ φ' u w', H.next ≤ H'.next → φ.ext φ' H.next → VR φ' v u → HG G φ' B H' w' → Below B w w' → K (a.put dst u) w'
theorem wpK {so : SK} (hcall : CallOK G P call) (hc : compK P o = some so) (ht : VRL φ ts a.tmps.toList) (hh : HG G φ B H w) (he : evalK call so ts H = some (v, H')) :
    ∀ {K : Act → World → Prop} {Q : Exit → Act → World → Prop}, KPost G φ B H w v H' K a o.dst → o.wp P a w K Q := by
  unfold compK at hc
  split at hc
  · rename_i so' hop
    split at hc
    · rename_i hfine
      cases hc
      obtain ⟨hn, φ', nx, u, w', h1, h2, h3, h4, h5, h6⟩ := compOp_ok hop hfine ht hh.1 he
      have h5 : HG G φ' B H' w' := ⟨h5, G.st _ _ _ _ _ hh.2 h1.1 h6⟩
      intro K Q hK
      unfold Oper.wp
      rw [h2]
      rcases h3 with rfl | ⟨rfl, rfl⟩
      · exact hK _ _ _ hn h1 h4 h5 h6
      · exact hK _ _ _ hn h1 h4 h5 h6
    · cases hc; simp [evalK, evalOp] at he
  · split at hc
    · rename_i c ho
      split at hc
      case h_2 => cases hc; simp [evalK, evalOp] at he
      rename_i k hck
      cases hc
      have key : ∀ f (args : List SV) (args' : Array Value), call f args H = some (v, H') → VRL φ args args'.toList → (execOp a.eval o).run P w = .ok (.enter f args') w →
          ∀ {K : Act → World → Prop} {Q : Exit → Act → World → Prop}, KPost G φ B H w v H' K a o.dst → o.wp P a w K Q := by
        intro f args args' hf hv hr
        obtain ⟨_, hcl⟩ := hcall _ _ _ _ _ hf
        intro K Q hK
        unfold Oper.wp
        rw [hr]
        refine (hcl φ B w args' hv hh).mono ?_
        rintro e w' ⟨hn, φ', u, h1, rfl, h2, h3, h4⟩
        exact hK _ _ _ hn h1 h2 ⟨h3, G.st _ _ _ _ _ hh.2 h1.1 h4⟩ h4
      cases so with
      | op so =>
        exfalso
        unfold compCall at hck
        split at hck
        · split at hck
          · split at hck <;> cases hck
          · cases hck
        · split at hck <;> cases hck
        · split at hck <;> cases hck
        · cases hck
      | call f xs =>
        obtain ⟨args', hv, hr⟩ := compCall_ok (w := w) ho hck ht
        intro K Q hK
        exact key f _ _ he hv hr hK
      | calld y xs =>
        simp only [evalK] at he
        split at he
        · rename_i f fs cs hy
          obtain ⟨hen, _⟩ := hcall _ _ _ _ _ he
          obtain ⟨args', hv, hr⟩ := compCalld_ok (w := w) ho hck ht hy hen
          intro K Q hK
          exact key f _ _ he hv hr hK
        · cases he
      | inv y tab xs =>
        simp only [evalK] at he
        split at he
        · rename_i t x0 hy
          split at he
          · rename_i f hf
            obtain ⟨hen, _⟩ := hcall _ _ _ _ _ he
            obtain ⟨args', hv, hr⟩ := compInv_ok (w := w) ho hck ht hy hf hen
            intro K Q hK
            exact key f _ _ he hv hr hK
          · cases he
        · cases he
    · cases hc; simp [evalK, evalOp] at he
theorem wanted_ok {ops : Array Oper} {so : SOper} (hc : compOper P ops o = some so) (ht : VRL φ ts a.tmps.toList) : Region.wanted o (yielded ops a.tmps) = wantedS ts so.guard := by
  unfold compOper at hc
  split at hc
  · cases hc
  · split at hc
    · rename_i hg
      cases hc
      simp [Region.wanted, hg, wantedS]
    · rename_i j want hg
      split at hc
      · rename_i t hj
        cases hc
        simp only [Region.wanted, hg, wantedS, yielded, hj, Option.bind_some]
        by_cases hl : t < ts.length
        · obtain ⟨u, hu, hr⟩ := ht.get t ts[t] (List.getElem?_eq_getElem hl)
          simp only [Array.getElem?_toList] at hu
          rw [hu]
          have e : ts.getD t SV.undef = ts[t] := by simp [List.getD, List.getElem?_eq_getElem hl]
          rw [e]
          generalize ts[t] = x at hr
          cases hr with
          | bool b => cases b <;> cases want <;> rfl
          | opq _ _ ho => cases u <;> first | rfl | cases ho
          | _ => rfl
        · have hl' : ¬ t < a.tmps.size := by
            have e : List.length ts = a.tmps.size := ht.length.trans (by simp)
            intro hx; exact hl (by rw [e]; exact hx)
          have e : ts.getD t SV.undef = SV.undef := by simp [List.getD, List.getElem?_eq_none (Nat.le_of_not_lt hl)]
          rw [e, Array.getElem?_eq_none (Nat.le_of_not_lt hl')]
          rfl
      · cases hc
theorem compOper_k {ops : Array Oper} {so : SOper} (hc : compOper P ops o = some so) : compK P o = some so.k ∧ so.dst = o.dst := by
  unfold compOper at hc
  split at hc
  · cases hc
  · rename_i k hk
    split at hc
    · cases hc; exact ⟨hk, rfl⟩
    · split at hc
      · cases hc; exact ⟨hk, rfl⟩
      · cases hc
def Then (G : Ground) (φ : Emb) (B : Nat) (H : Heap) (w : World) (ts' : T) (H' : Heap) (ds : List Deferred) (K : Act → World → Prop) : Prop :=
  ∀ φ' a' w', H.next ≤ H'.next → φ.ext φ' H.next → VRL φ' ts' a'.tmps.toList → HG G φ' B H' w' → Below B w w' → a'.defers = ds → K a' w'
theorem put_defers (a : Act) (dst : Option Nat) (u : Value) : (a.put dst u).defers = a.defers := by cases dst <;> rfl
theorem wpOps_ok {ops : Array Oper} {Q : Exit → Act → World → Prop} {ds : List Deferred} {rest : List Nat} (hcall : CallOK G P call) : ∀ (l : List Oper) (is : List Nat) (sl : List SOper) (φ : Emb) (H : Heap) (w : World) (ts : T) (a : Act) (ts' : T) (H' : Heap),
    l.length = is.length → (∀ (i : Nat) (o : Oper), l[i]? = some o → ∃ k, is[i]? = some k ∧ ops[k]? = some o) → mapO (compOper P ops) l = some sl → evalOps call sl ts H = some (ts', H') → VRL φ ts a.tmps.toList → HG G φ B H w → a.defers = ds →
    Then G φ B H w ts' H' ds (wpOps P ops Q rest) → wpOps P ops Q (is ++ rest) a w
  | [], is, sl, φ, H, w, ts, a, ts', H', hlen, _, hm, he, ht, hh, hd => by
    simp [mapO] at hm
    subst hm
    simp only [evalOps, Option.some.injEq, Prod.mk.injEq] at he
    obtain ⟨rfl, rfl⟩ := he
    have : is = [] := List.eq_nil_of_length_eq_zero (by simpa using hlen.symm)
    subst this
    exact fun hT => hT φ a w (Nat.le_refl _) (Emb.ext.refl φ _) ht hh (Below.refl _ _) hd
  | o :: l, [], sl, φ, H, w, ts, a, ts', H', hlen, _, hm, he, ht, hh, hd => by simp at hlen
  | o :: l, i :: is, sl, φ, H, w, ts, a, ts', H', hlen, hix, hm, he, ht, hh, hd => by
    intro hT
    simp only [mapO] at hm
    split at hm
    · rename_i so hso
      split at hm
      · rename_i sl' hsl
        cases hm
        obtain ⟨k, hk1, hk2⟩ := hix 0 o rfl
        simp at hk1
        subst hk1
        have hw := wanted_ok hso ht
        obtain ⟨hck, hdst⟩ := compOper_k hso
        have hix' : ∀ (j : Nat) (o' : Oper), l[j]? = some o' → ∃ k, is[j]? = some k ∧ ops[k]? = some o' := fun j o' hj => by simpa using hix (j + 1) o' (by simpa using hj)
        simp only [evalOps] at he
        split at he
        · rename_i hwt
          split at he
          · rename_i v H1 hev
            simp only [List.cons_append, wpOps, hk2]
            rw [if_pos (by rw [hw, hwt])]
            refine .inl (wpK (w := w) hcall hck ht hh hev fun φ' u w' hn1 h1 h2 h3 h4 => ?_)
            have ht' : VRL φ' (putT ts so.dst v) (a.put so.dst u).tmps.toList := putT_ok (ht.mono h1.1) h2
            rw [hdst] at ht' he
            exact wpOps_ok hcall l is sl' φ' H1 w' _ (a.put o.dst u) ts' H' (by simpa using hlen) hix' hsl he ht' h3 (by rw [put_defers]; exact hd)
              fun φ'' a'' w'' hn2 g1 g2 g3 g4 g5 => hT φ'' a'' w'' (Nat.le_trans hn1 hn2) (h1.trans g1 hn1) g2 g3 (h4.trans g4) g5
          · cases he
        · rename_i hwt
          have ht' : VRL φ (putT ts so.dst .undef) (a.put so.dst Go.undef).tmps.toList := putT_ok ht (VR.undef φ)
          rw [hdst] at ht' he
          simp only [List.cons_append, wpOps, hk2]
          rw [if_neg (by rw [hw, hwt]; simp)]
          exact wpOps_ok hcall l is sl' φ H w _ (a.put o.dst Go.undef) ts' H' (by simpa using hlen) hix' hsl he ht' hh (by rw [put_defers]; exact hd) hT
      · cases hm
    · cases hm
theorem wp_reg {id : Nat} {ops : Array Oper} {Q : Exit → Act → World → Prop} {ds : List Deferred} {sl : List SOper} {ts' : T} (hcall : CallOK G P call) (hm : mapO (compOper P ops) ops.toList = some sl) (he : evalOps call sl ts H = some (ts', H'))
    (ht : VRL φ ts a.tmps.toList) (hh : HG G φ B H w) (hd : a.defers = ds) (hT : Then G φ B H w ts' H' ds (Q .normal)) : (Code.region id ops false).wp P Q a w :=
  wp_region (by
    have := wpOps_ok (Q := Q) (rest := []) hcall ops.toList (List.range ops.size) sl φ H w ts a ts' H' (by simp) (fun i o hi => by
      have hlt := (List.getElem?_eq_some_iff.1 hi).1
      simp only [Array.length_toList] at hlt
      exact ⟨i, by simp [hlt], by simpa using hi⟩) hm he ht hh hd hT
    simpa using this)
inductive DR (φ : Emb) : DS → List Deferred → Prop where
  | nil : DR φ [] []
  | cons {f : FuncId} {args : List SV} {d : Deferred} {cap : Array Value} {D : DS} {ds : List Deferred} (ht : d.target = .fn (.func f) cap) (ha : VRL φ args (d.args.toList ++ cap.toList)) (h : DR φ D ds) : DR φ ((f, args) :: D) (d :: ds)
theorem DR.mono {φ ψ : Emb} (hle : φ.le ψ) : ∀ {D : DS} {ds : List Deferred}, DR φ D ds → DR ψ D ds
  | _, _, .nil => .nil
  | _, _, .cons ht ha h => .cons ht (ha.mono hle) (DR.mono hle h)
def ThenD (G : Ground) (φ : Emb) (B : Nat) (H : Heap) (w : World) (ts' : T) (D' : DS) (H' : Heap) (K : Act → World → Prop) : Prop :=
  ∀ φ' a' w', H.next ≤ H'.next → φ.ext φ' H.next → VRL φ' ts' a'.tmps.toList → DR φ' D' a'.defers → HG G φ' B H' w' → Below B w w' → K a' w'
theorem splitLast_eq {α : Type} : ∀ {l a : List α} {x : α}, splitLast l = some (a, x) → l = a ++ [x]
  | [], a, x, h => by simp [splitLast] at h
  | [y], a, x, h => by simp [splitLast] at h; obtain ⟨rfl, rfl⟩ := h; rfl
  | y :: z :: l, a, x, h => by
    simp only [splitLast] at h
    split at h
    · rename_i b u hb
      cases h
      rw [splitLast_eq hb]
      rfl
    · cases h
theorem compRD_form {ops : Array Oper} {sc : SCode} (h : compRD P ops = some sc) : ∃ sl y xs, sc = .regd sl y xs := by
  unfold compRD at h
  (repeat' split at h) <;> cases h
  exact ⟨_, _, _, rfl⟩
theorem wp_regd {id : Nat} {ops : Array Oper} {Q : Exit → Act → World → Prop} {sl : List SOper} {y : X} {xs : List X} {D D' : DS} {x : SExit} {ts' : T} {lf : Nat} (hcall : CallOK G P call) (hm : compRD P ops = some (.regd sl y xs)) (he : evalC call lf (.regd sl y xs) ts D H = some (x, ts', D', H'))
    (ht : VRL φ ts a.tmps.toList) (hh : HG G φ B H w) (hd : DR φ D a.defers) (hT : x = .normal → ThenD G φ B H w ts' D' H' (Q .normal)) : (Code.region id ops false).wp P Q a w := by
  unfold compRD at hm
  split at hm
  · rename_i l o hsp
    split at hm
    · rename_i c hop hgd hdst
      split at hm
      · rename_i yo hcal
        split at hm
        · rename_i sl' y' xs' h1 h2 h3
          cases hm
          simp only [evalC] at he
          split at he
          · rename_i t1 H1 hev
            split at he
            · rename_i f fs cs hy
              cases he
              have hl := splitLast_eq hsp
              have hsz : ops.size = l.length + 1 := by rw [← Array.length_toList, hl]; simp
              refine wp_region ?_
              rw [hsz, List.range_succ]
              refine wpOps_ok (Q := Q) (rest := [l.length]) hcall l (List.range l.length) sl φ H w ts a ts' H' (by simp) (fun i o' hi => ?_) h1 hev ht hh rfl ?_
              · have hlt := (List.getElem?_eq_some_iff.1 hi).1
                refine ⟨i, by simp [hlt], ?_⟩
                rw [← Array.getElem?_toList, hl, List.getElem?_append_left hlt, hi]
              · intro φ' a' w' n1 g1 g2 g3 g4 g5
                have hlast : ops[l.length]? = some o := by rw [← Array.getElem?_toList, hl]; simp
                simp only [wpOps, hlast]
                rw [if_pos (by simp [Region.wanted, hgd])]
                left
                have q1 := compX_ok h2 g2
                rw [hy] at q1
                generalize hp : a'.eval yo = pv at q1
                cases q1 with
                | func q1 q2 =>
                  rename_i us vs
                  have hrun : (execOp a'.eval o).run P w' = .ok (.defer { target := .fn (.func f) vs, args := us ++ c.args.map a'.eval }) w' := by
                    simp [execOp, hop, resolve, hcal, hp, Deferred.ofValue]
                  unfold Oper.wp
                  rw [hrun, Oper.upon_defer, hdst]
                  refine hT rfl φ' _ w' n1 g1 g2 (.cons (cap := vs) rfl ?_ (by rw [g5]; exact hd.mono g1.1)) g3 g4
                  simp only [Array.toList_append, List.append_assoc]
                  exact q1.append ((compXs_ok h3 g2).append q2)
            · cases he
          · cases he
        · cases hm
      · cases hm
    · cases hm
  · cases hm
def XR : SExit → Exit
  | .normal => .normal
  | .exit id => .exit id
  | .ret => .ret
def DrawOK (G : Ground) (P : Program) (call : CallS) : Prop :=
  ∀ (φ : Emb) (B : Nat) (H H' : Heap) (w : World) (ts ts' : T) (a : Act) (ops : Array Oper) (dops : List (SOper × DK)) (swap : Bool) (id : Nat) (Q : Exit → Act → World → Prop) (ds : List Deferred),
    compD P ops = some (.dreg dops swap) → evalD call dops swap ts H = some (ts', H') → VRL φ ts a.tmps.toList → HG G φ B H w → a.defers = ds → Then G φ B H w ts' H' ds (Q .normal) →
    (Code.region id ops true).wp P Q a w
theorem tryD_form {ops : Array Oper} {l : List SOper} {wide : Bool} {sc : SCode} (h : tryD ops l wide = some sc) : ∃ dops swap, sc = .dreg dops swap := by
  unfold tryD at h
  split at h
  rename_i dops sw _
  split at h
  · cases h
    exact ⟨dops, sw, rfl⟩
  · cases h
theorem compD_form {ops : Array Oper} {sc : SCode} (h : compD P ops = some sc) : ∃ dops swap, sc = .dreg dops swap := by
  unfold compD at h
  split at h
  · cases h
  · split at h
    · rename_i c hc
      cases h
      exact tryD_form hc
    · exact tryD_form h
theorem code_ok {lf : Nat} (hcall : CallOK G P call) (hdraw : DrawOK G P call) : ∀ (c : Code) (φ : Emb) (H : Heap) (w : World) (ts : T) (D : DS) (a : Act) (x : SExit) (ts' : T) (D' : DS) (H' : Heap) (Q : Exit → Act → World → Prop),
    evalC call lf (compC P c) ts D H = some (x, ts', D', H') → VRL φ ts a.tmps.toList → HG G φ B H w → DR φ D a.defers → ThenD G φ B H w ts' D' H' (Q (XR x)) → c.wp P Q a w
  | .skip, φ, H, w, ts, D, a, x, ts', D', H', Q, he, ht, hh, hd, hT => by
    simp only [compC, evalC, Option.some.injEq, Prod.mk.injEq] at he
    obtain ⟨rfl, rfl, rfl, rfl⟩ := he
    exact wp_skip (hT φ a w (Nat.le_refl _) (Emb.ext.refl φ _) ht hd hh (Below.refl _ _))
  | .region id ops d, φ, H, w, ts, D, a, x, ts', D', H', Q, he, ht, hh, hd, hT => by
    simp only [compC] at he
    cases d with
    | false =>
      dsimp only at he
      split at he
      · rename_i sc hsc
        obtain ⟨sl, y, xs, rfl⟩ := compRD_form hsc
        refine wp_regd hcall hsc he ht hh hd fun e => ?_
        subst e
        exact hT
      · split at he
        · rename_i sl hsl
          simp only [evalC] at he
          split at he
          · rename_i t1 H1 hev
            cases he
            exact wp_reg hcall hsl hev ht hh rfl fun φ' a' w' n g1 g2 g3 g4 g5 => hT φ' a' w' n g1 g2 (by rw [g5]; exact hd.mono g1.1) g3 g4
          · cases he
        · simp [evalC] at he
    | true =>
      dsimp only at he
      split at he
      · rename_i sc hc
        obtain ⟨dops, swap, rfl⟩ := compD_form hc
        simp only [evalC] at he
        split at he
        · rename_i t1 H1 hev
          cases he
          exact hdraw φ B H H' w ts ts' a ops dops swap id Q _ hc hev ht hh rfl fun φ' a' w' n g1 g2 g3 g4 g5 => hT φ' a' w' n g1 g2 (by rw [g5]; exact hd.mono g1.1) g3 g4
        · cases he
      · simp [evalC] at he
  | .seq c1 c2, φ, H, w, ts, D, a, x, ts', D', H', Q, he, ht, hh, hd, hT => by
    simp only [compC, evalC] at he
    refine wp_seq ?_
    split at he
    · rename_i t1 D1 H1 hev
      refine code_ok hcall hdraw c1 φ H w ts D a .normal t1 D1 H1 _ hev ht hh hd fun φ1 a1 w1 n1 g1 g2 g3 g4 g5 => ?_
      exact code_ok hcall hdraw c2 φ1 H1 w1 t1 D1 a1 x ts' D' H' Q he g2 g4 g3 fun φ2 a2 w2 n2 k1 k2 k3 k4 k5 => hT φ2 a2 w2 (Nat.le_trans n1 n2) (g1.trans k1 n1) k2 k3 k4 (g5.trans k5)
    · rename_i hne
      refine code_ok hcall hdraw c1 φ H w ts D a x ts' D' H' _ he ht hh hd fun φ1 a1 w1 n1 g1 g2 g3 g4 g5 => ?_
      have := hT φ1 a1 w1 n1 g1 g2 g3 g4 g5
      cases x with
      | normal => exact absurd he (hne _ _ _)
      | exit id => exact this
      | ret => exact this
  | .cond cx c1 c2, φ, H, w, ts, D, a, x, ts', D', H', Q, he, ht, hh, hd, hT => by
    simp only [compC] at he
    split at he
    · rename_i y hy
      have hr := compX_ok hy ht
      simp only [evalC] at he
      split at he
      · rename_i hb
        rw [hb] at hr
        generalize hg : a.eval cx = u at hr
        cases hr
        exact wp_cond_true hg (code_ok hcall hdraw c1 φ H w ts D a x ts' D' H' Q he ht hh hd hT)
      · rename_i hb
        rw [hb] at hr
        generalize hg : a.eval cx = u at hr
        cases hr
        exact wp_cond_false hg (code_ok hcall hdraw c2 φ H w ts D a x ts' D' H' Q he ht hh hd hT)
      · cases he
    · simp [evalC] at he
  | .block id c, φ, H, w, ts, D, a, x, ts', D', H', Q, he, ht, hh, hd, hT => by
    simp only [compC, evalC] at he
    refine wp_block ?_
    split at he
    · rename_i id' t1 D1 H1 hev
      split at he
      · rename_i hid
        cases he
        have hid' := Nat.eq_of_beq_eq_true hid
        subst hid'
        refine code_ok hcall hdraw c φ H w ts D a (.exit id') ts' D' H' _ hev ht hh hd fun φ1 a1 w1 n1 g1 g2 g3 g4 g5 => ?_
        simp only [XR, Exit.inBlock, if_true]
        exact hT φ1 a1 w1 n1 g1 g2 g3 g4 g5
      · rename_i hid
        cases he
        have hne : id' ≠ id := fun e => by subst e; simp at hid
        refine code_ok hcall hdraw c φ H w ts D a (.exit id') ts' D' H' _ hev ht hh hd fun φ1 a1 w1 n1 g1 g2 g3 g4 g5 => ?_
        simp only [XR, Exit.inBlock, if_neg hne]
        exact hT φ1 a1 w1 n1 g1 g2 g3 g4 g5
    · rename_i hne
      refine code_ok hcall hdraw c φ H w ts D a x ts' D' H' _ he ht hh hd fun φ1 a1 w1 n1 g1 g2 g3 g4 g5 => ?_
      have := hT φ1 a1 w1 n1 g1 g2 g3 g4 g5
      cases x with
      | normal => exact this
      | exit id => exact absurd he (hne _ _ _ _)
      | ret => exact this
  | .loop c, φ, H, w, ts, D, a, x, ts', D', H', Q, he, ht, hh, hd, hT => by
    simp only [compC, evalC] at he
    refine wp_loop_rounds lf ?_
    have key : ∀ (n : Nat) (φ : Emb) (H : Heap) (w : World) (ts : T) (D : DS) (a : Act), loopN (evalC call lf (compC P c)) n ts D H = some (x, ts', D', H') → VRL φ ts a.tmps.toList → HG G φ B H w → DR φ D a.defers → ThenD G φ B H w ts' D' H' (Q (XR x)) →
        Code.rounds P c Q n a w := by
      intro n
      induction n with
      | zero => intro φ H w ts D a hl; simp [loopN] at hl
      | succ n ih =>
        intro φ H w ts D a hl ht hh hd hT
        rw [rounds_succ]
        simp only [loopN] at hl
        split at hl
        · rename_i t1 D1 H1 hev
          refine code_ok hcall hdraw c φ H w ts D a .normal t1 D1 H1 _ hev ht hh hd fun φ1 a1 w1 n1 g1 g2 g3 g4 g5 => ?_
          exact ih φ1 H1 w1 t1 D1 a1 hl g2 g4 g3 fun φ2 a2 w2 n2 k1 k2 k3 k4 k5 => hT φ2 a2 w2 (Nat.le_trans n1 n2) (g1.trans k1 n1) k2 k3 k4 (g5.trans k5)
        · rename_i hne
          refine code_ok hcall hdraw c φ H w ts D a x ts' D' H' _ hl ht hh hd fun φ1 a1 w1 n1 g1 g2 g3 g4 g5 => ?_
          have := hT φ1 a1 w1 n1 g1 g2 g3 g4 g5
          cases x with
          | normal => exact absurd hl (hne _ _ _)
          | exit id => exact this
          | ret => exact this
    exact key lf φ H w ts D a he ht hh hd hT
  | .exit id, φ, H, w, ts, D, a, x, ts', D', H', Q, he, ht, hh, hd, hT => by
    simp only [compC, evalC, Option.some.injEq, Prod.mk.injEq] at he
    obtain ⟨rfl, rfl, rfl, rfl⟩ := he
    exact wp_exit (hT φ a w (Nat.le_refl _) (Emb.ext.refl φ _) ht hd hh (Below.refl _ _))
  | .ret, φ, H, w, ts, D, a, x, ts', D', H', Q, he, ht, hh, hd, hT => by
    simp only [compC, evalC, Option.some.injEq, Prod.mk.injEq] at he
    obtain ⟨rfl, rfl, rfl, rfl⟩ := he
    exact wp_ret (hT φ a w (Nat.le_refl _) (Emb.ext.refl φ _) ht hd hh (Below.refl _ _))
  | .rangeFunc _ _ _ _, φ, H, w, ts, D, a, x, ts', D', H', Q, he, ht, hh, hd, hT => by simp [compC, evalC] at he
  | .scope c, φ, H, w, ts, D, a, x, ts', D', H', Q, he, ht, hh, hd, hT => by
    simp only [compC] at he
    refine wp_scope_straight (code_ok hcall hdraw c φ H w ts D a x ts' D' H' _ he ht hh hd fun φ1 a1 w1 n1 g1 g2 g3 g4 g5 => ?_)
    have := hT φ1 a1 w1 n1 g1 g2 g3 g4 g5
    cases x <;> exact this
  | .label _, φ, H, w, ts, D, a, x, ts', D', H', Q, he, ht, hh, hd, hT => by
    simp only [compC, evalC, Option.some.injEq, Prod.mk.injEq] at he
    obtain ⟨rfl, rfl, rfl, rfl⟩ := he
    exact wp_label (hT φ a w (Nat.le_refl _) (Emb.ext.refl φ _) ht hd hh (Below.refl _ _))
  | .goto _, φ, H, w, ts, D, a, x, ts', D', H', Q, he, ht, hh, hd, hT => by simp [compC, evalC] at he
  | .refuse _, φ, H, w, ts, D, a, x, ts', D', H', Q, he, ht, hh, hd, hT => by simp [compC, evalC] at he
end
end Go.Sh
end
section
namespace Go.Sh
open Go.RowKit (Below)
section
variable {P : Program} {φ : Emb} {B : Nat} {H H' : Heap} {w : World} {ts : T} {a : Act} {v : SV} {call : CallS}
theorem run_resOne {rv : ResultVar} {sr : SRes} {tmps : Array Value} (hc : compRes P rv = some sr) (ht : VRL φ ts tmps.toList) (hh : HR φ B H w) (he : resOne ts H sr = some v) :
    ∃ u, (match rv with | .tmp t => pure (tmps.getD t Go.undef) | .cell a t => do loadVar t (← asAddr (tmps.getD a Go.undef)) : Sem Value).run P w = .ok u w ∧ VR φ v u := by
  have htmp : ∀ t, VR φ (ts.getD t SV.undef) (tmps.getD t Go.undef) := by
    intro t
    have := compX_ok (φ := φ) (x := .tmp t) (y := .t t) rfl (ts := ts) (a := ⟨tmps, []⟩) ht
    exact this
  cases rv with
  | tmp t =>
    simp only [compRes, Option.some.injEq] at hc
    subst hc
    simp only [resOne, Option.some.injEq] at he
    subst he
    exact ⟨_, rfl, htmp t⟩
  | cell c t =>
    simp only [compRes] at hc
    split at hc
    · rename_i ti hti
      cases hc
      have hi := tinfo_ok hti
      simp only [resOne] at he
      have h0 := htmp c
      split at he
      · rename_i b off e1
        rw [e1] at h0
        generalize hp : tmps.getD c Go.undef = p at h0
        split at he
        · rename_i cs hcs
          cases h0 with
          | ptr hl =>
            rename_i l
            obtain ⟨vs, hv, hlen, hcell, _⟩ := hh.load hl hcs
            cases hag : ti.agg with
            | true =>
              rw [hag] at he
              cases he
              refine ⟨.agg vs.toArray, ?_, .agg (by simpa using hv)⟩
              have := run_loadCells_list (P := P) w ⟨l.rb, l.base + off, none⟩ vs (fun j u hu => by rw [addr_add]; exact hcell j u hu)
              rw [hlen] at this
              simp [asAddr, loadVar, hi.run_isAgg, hag, hi.run_sizeOf, this, hp]
            | false =>
              rw [hag] at he
              dsimp only at he
              split at he
              · cases he
                cases hv with
                | cons hv0 ht0 =>
                  rename_i u us
                  have hu := hcell 0 u rfl
                  refine ⟨u, ?_, hv0⟩
                  simp only [Nat.add_zero] at hu
                  simp [asAddr, loadVar, hi.run_isAgg, hag, hu, hp]
              · cases he
        · cases he
      · cases he
    · cases hc
theorem run_results {fn : Func} {rs : List SRes} {tmps : Array Value} (hc : mapO (compRes P) fn.results.toList = some rs) (ht : VRL φ ts tmps.toList) (hh : HR φ B H w) (he : resS rs ts H = some v) :
    ∃ u, (results fn tmps).run P w = .ok u w ∧ VR φ v u := by
  have key : ∀ (l : List ResultVar) (rs : List SRes) (vs : List SV), mapO (compRes P) l = some rs → mapO (resOne ts H) rs = some vs →
      ∃ us, (l.mapM fun rv => (match rv with | .tmp t => pure (tmps.getD t Go.undef) | .cell a t => do loadVar t (← asAddr (tmps.getD a Go.undef)) : Sem Value)).run P w = .ok us w ∧ VRL φ vs us := by
    intro l
    induction l with
    | nil =>
      intro rs vs h1 h2
      simp [mapO] at h1
      subst h1
      simp [mapO] at h2
      subst h2
      exact ⟨[], rfl, .nil⟩
    | cons rv l ih =>
      intro rs vs h1 h2
      simp only [mapO] at h1
      split at h1
      · rename_i sr hsr
        split at h1
        · rename_i rs' hrs
          cases h1
          simp only [mapO] at h2
          split at h2
          · rename_i x hx
            split at h2
            · rename_i xs hxs
              cases h2
              obtain ⟨u, hu, hr⟩ := run_resOne (w := w) hsr ht hh hx
              obtain ⟨us, hus, hrs'⟩ := ih _ _ hrs hxs
              refine ⟨u :: us, ?_, .cons hr hrs'⟩
              simp only [List.mapM_cons, Sem.run_bind, hu, Result.andThen_ok, hus, Sem.run_pure]
            · cases h2
          · cases h2
        · cases h1
      · cases h1
  unfold resS at he
  cases hm : mapO (resOne ts H) rs with
  | none => rw [hm] at he; cases he
  | some vs =>
    rw [hm] at he
    obtain ⟨us, hus, hvs⟩ := key _ _ _ hc hm
    have hrun : (fn.results.mapM fun rv => (match rv with | .tmp t => pure (tmps.getD t Go.undef) | .cell a t => do loadVar t (← asAddr (tmps.getD a Go.undef)) : Sem Value)).run P w = .ok us.toArray w := by
      rw [Array.mapM_eq_mapM_toList, Sem.run_map, hus]
      rfl
    have hres : (results fn tmps).run P w = .ok (if h : us.toArray.size = 1 then us.toArray[0] else .tuple us.toArray) w := by
      have e : results fn tmps = ((fn.results.mapM fun rv => (match rv with | .tmp t => pure (tmps.getD t Go.undef) | .cell a t => do loadVar t (← asAddr (tmps.getD a Go.undef)) : Sem Value)) >>= fun vs => pure (if h : vs.size = 1 then vs[0] else .tuple vs)) := rfl
      rw [e, Sem.run_bind, hrun]
      rfl
    split at he
    · rename_i x e1
      cases e1
      cases he
      cases hvs with
      | cons h1 h2 =>
        cases h2
        rename_i u
        exact ⟨u, by rw [hres]; rfl, h1⟩
    · rename_i vs' hne e1
      cases e1
      cases he
      have hlen : us.length ≠ 1 := by
        intro h
        rw [← hvs.length] at h
        match vs, h with
        | [x], _ => exact hne x rfl
      refine ⟨.tuple us.toArray, ?_, .tup (by simpa using hvs)⟩
      rw [hres, dif_neg (by simpa using hlen)]
    · rename_i e1; cases e1
def DPost (φ : Emb) (B : Nat) (H : Heap) (w : World) (H' : Heap) (e : Ending) (m : FrameMode) (w' : World) : Prop :=
  m = .returning ∧ H.next ≤ H'.next ∧ ∃ φ' u, φ.ext φ' H.next ∧ e = .returned u ∧ HR φ' B H' w' ∧ Below B w w'
structure TabOK (G : Ground) (P : Program) (tab : FuncId → Option SFun) : Prop where
  code : ∀ f sf, tab f = some (.code sf) → ∃ fn, P.funcs[f]? = some fn ∧ compF P fn = some sf ∧ (fn.name == "runtime.NumGoroutine") = false
  native : ∀ f g, tab f = some (.native g) → enterable P f = true ∧ ∀ args H v H', g args H = some (v, H') → ∀ φ B w (args' : Array Value), VRL φ args args'.toList → HG G φ B H w → Calls P f args' w (CPost φ B H w v H')
  dnative : ∀ f g, tab f = some (.dnative g) → enterable P f = true ∧ ∀ args, g args = true → ∀ φ B H w (args' : Array Value), VRL φ args args'.toList → HG G φ B H w → CallsD P f args' .returning w (DPost φ B H w H)
def CDOK (G : Ground) (P : Program) (cd : FuncId → List SV → Heap → Option Heap) : Prop :=
  ∀ f args H H', cd f args H = some H' → enterable P f = true ∧
    ∀ φ B w (args' : Array Value), VRL φ args args'.toList → HG G φ B H w → CallsD P f args' .returning w (DPost φ B H w H')
theorem VRL.replicate (n : Nat) : VRL φ (List.replicate n SV.undef) (List.replicate n Go.undef) := by
  induction n with
  | zero => exact .nil
  | succ n ih => exact .cons (VR.undef φ) ih
theorem leaves_ok {G : Ground} {cd : FuncId → List SV → Heap → Option Heap} (hcd : CDOK G P cd) {fn : Func} {rs : List SRes} {tmps : Array Value} {R : Ending → World → Prop} (hrs : mapO (compRes P) fn.results.toList = some rs) :
    ∀ (D : DS) (ds : List Deferred) (φ : Emb) (H : Heap) (w : World) (r : SV) (H' : Heap), runD cd rs ts D H = some (r, H') → DR φ D ds → VRL φ ts tmps.toList → HG G φ B H w →
      (∀ φ' u w', H.next ≤ H'.next → φ.ext φ' H.next → VR φ' r u → HR φ' B H' w' → Below B w w' → R (.returned u) w') → Leaves P fn tmps R ds .returning w
  | [], _, φ, H, w, r, H', h, .nil, ht, hh, hR => by
    simp only [runD] at h
    split at h
    · rename_i v hv
      cases h
      obtain ⟨u, hu, hr⟩ := run_results (w := w) hrs ht hh.1 hv
      exact ⟨u, hu, hR φ u w (Nat.le_refl _) (Emb.ext.refl φ _) hr hh.1 (Below.refl _ _)⟩
    · cases h
  | (f, args) :: D, _, φ, H, w, r, H', h, .cons (d := d) (cap := cap) (ds := ds) htar ha hds, ht, hh, hR => by
    simp only [runD] at h
    split at h
    · rename_i H1 hc
      obtain ⟨hen, hcall⟩ := hcd f args H H1 hc
      obtain ⟨tg, da⟩ := d
      simp only at htar ha
      subst htar
      have hinv : (invoke (.fn (.func f) cap) da).run P w = .ok (.enter f (da ++ cap)) w := by
        unfold enterable at hen
        split at hen
        · rename_i fn' hfn
          simp only [Bool.and_eq_true, Bool.not_eq_true'] at hen
          have hbn : fn'.body.isNone = false := by cases h : fn'.body <;> simp_all
          simp only [invoke]
          exact run_callFunc hfn hen.2 hbn
        · cases hen
      refine leaves_cons (by simp) hinv ((hcall φ B w (da ++ cap) (by simpa using ha) hh).mono ?_)
      rintro e u' w' ⟨rfl, hn, φ', u, g1, rfl, g2, g3⟩
      exact leaves_ok hcd hrs D ds φ' H1 w' r H' h (hds.mono g1.1) (ht.mono g1.1) ⟨g2, G.st _ _ _ _ _ hh.2 g1.1 g3⟩
        fun φ2 u2 w2 n2 k1 k2 k3 k4 => hR φ2 u2 w2 (Nat.le_trans hn n2) (g1.trans k1 hn) k2 k3 (g3.trans k4)
    · cases h
theorem args_ok {args : List SV} {args' : Array Value} {n : Nat} (hargs : VRL φ args args'.toList) : VRL φ (args ++ List.replicate (n - args.length) SV.undef) ((args' ++ Array.replicate (n - args'.size) Go.undef : Array Value)).toList := by
  have e : args.length = args'.size := hargs.length.trans (by simp)
  rw [e, Array.toList_append, Array.toList_replicate]
  exact hargs.append (VRL.replicate _)
theorem callD_ok {G : Ground} {tab : FuncId → Option SFun} {lf : Nat} {call : CallS} (htab : TabOK G P tab) (hcall : CallOK G P call) (hdraw : DrawOK G P call) : CDOK G P (callD tab call lf) := by
  intro f args H H' h
  unfold callD at h
  split at h
  · rename_i g hg
    split at h
    · rename_i hv
      cases h
      obtain ⟨h1, h2⟩ := htab.dnative f g hg
      exact ⟨h1, fun φ B w args' hargs hh => h2 args hv φ B H w args' hargs hh⟩
    · cases h
  · rename_i sf hsf
    obtain ⟨fn, hfn, hcf, hname⟩ := htab.code f sf hsf
    unfold compF at hcf
    split at hcf
    · cases hcf
    · rename_i c hbody
      split at hcf
      · rename_i rs hrs
        cases hcf
        refine ⟨by simp [enterable, hfn, hbody, hname], fun φ B w args' hargs hh => ?_⟩
        have fin : ∀ (x : SExit) (ts' : T) (v : SV), (x = .normal ∨ x = .ret) → evalC call lf (compC P c) (args ++ List.replicate (fn.ntmps - args.length) SV.undef) [] H = some (x, ts', [], H') →
            resS rs ts' H' = some v → CallsD P f args' .returning w (DPost φ B H w H') := by
          intro x ts' v hx hev hres
          refine (callsD_of_wp (R := fun e w' => H.next ≤ H'.next ∧ ∃ φ' u, φ.ext φ' H.next ∧ e = .returned u ∧ HR φ' B H' w' ∧ Below B w w') hfn hbody ?_).mono fun e u' w' h => ⟨h.1, h.2⟩
          refine code_ok hcall hdraw c φ H w _ [] ⟨args' ++ Array.replicate (fn.ntmps - args'.size) Go.undef, []⟩ x ts' [] H' _ hev (args_ok hargs) hh .nil fun φ1 a1 w1 n1 g1 g2 g3 g4 g5 => ?_
          obtain ⟨u, hu, hr⟩ := run_results (w := w1) hrs g2 g4.1 hres
          have hd : a1.defers = [] := by generalize a1.defers = l at g3; cases g3; rfl
          have : a1.defers = [] ∧ ∃ v, (results fn a1.tmps).run P w1 = .ok v w1 ∧ (H.next ≤ H'.next ∧ ∃ φ' u, φ.ext φ' H.next ∧ Ending.returned v = .returned u ∧ HR φ' B H' w1 ∧ Below B w w1) := ⟨hd, u, hu, n1, φ1, u, g1, rfl, g4.1, g5⟩
          rcases hx with rfl | rfl <;> exact this
        split at h
        · rename_i ts' H1 hev
          split at h
          · rename_i v hv; cases h; exact fin _ _ _ (.inl rfl) hev hv
          · cases h
        · rename_i ts' H1 hev
          split at h
          · rename_i v hv; cases h; exact fin _ _ _ (.inr rfl) hev hv
          · cases h
        · cases h
      · cases hcf
  · cases h
theorem callS_ok {G : Ground} {tab : FuncId → Option SFun} {lf : Nat} (htab : TabOK G P tab) (hdraw : ∀ call, CallOK G P call → DrawOK G P call) : ∀ n, CallOK G P (callS tab lf n)
  | 0 => fun f args H r H' h => by simp [callS] at h
  | n + 1 => fun f args H r H' h => by
    have ih := callS_ok htab hdraw (lf := lf) n
    simp only [callS] at h
    split at h
    · rename_i g hg
      obtain ⟨h1, h2⟩ := htab.native f g hg
      exact ⟨h1, fun φ B w args' hargs hh => h2 args H r H' h φ B w args' hargs hh⟩
    · rename_i sf hsf
      obtain ⟨fn, hfn, hcf, hname⟩ := htab.code f sf hsf
      unfold compF at hcf
      split at hcf
      · cases hcf
      · rename_i c hbody
        split at hcf
        · rename_i rs hrs
          cases hcf
          refine ⟨by simp [enterable, hfn, hbody, hname], fun φ B w args' hargs hh => ?_⟩
          refine calls_of_wp_defers hfn hbody ?_
          have fin : ∀ (x : SExit) (ts' : T) (D : DS) (H1 : Heap), (x = .normal ∨ x = .ret) → evalC (callS tab lf n) lf (compC P c) (args ++ List.replicate (fn.ntmps - args.length) SV.undef) [] H = some (x, ts', D, H1) →
              runD (callD tab (callS tab lf n) lf) rs ts' D H1 = some (r, H') → Code.wp P c (bodyPostD P fn (CPost φ B H w r H')) ⟨args' ++ Array.replicate (fn.ntmps - args'.size) Go.undef, []⟩ w := by
            intro x ts' D H1 hx hev hrun
            refine code_ok ih (hdraw _ ih) c φ H w _ [] ⟨args' ++ Array.replicate (fn.ntmps - args'.size) Go.undef, []⟩ x ts' D H1 _ hev (args_ok hargs) hh .nil fun φ1 a1 w1 n1 g1 g2 g3 g4 g5 => ?_
            have : Leaves P fn a1.tmps (CPost φ B H w r H') a1.defers .returning w1 :=
              leaves_ok (callD_ok htab ih (hdraw _ ih)) hrs D a1.defers φ1 H1 w1 r H' hrun g3 g2 g4 fun φ2 u w2 n2 k1 k2 k3 k4 => ⟨Nat.le_trans n1 n2, φ2, u, g1.trans k1 n1, rfl, k2, k3, g5.trans k4⟩
            rcases hx with rfl | rfl <;> exact this
          split at h
          · rename_i ts' D H1 hev; exact fin _ _ _ _ (.inl rfl) hev h
          · rename_i ts' D H1 hev; exact fin _ _ _ _ (.inr rfl) hev h
          · cases h
        · cases hcf
    · cases h
end
end Go.Sh
end
