/-
  Soundness of the shadow's operations, part 1: operands, constants, types, and the operations that touch no memory.
  Soundness of the shadow's operations, part 2: numbers, strings, comparisons, indexes and slices.
  Soundness of the shadow's operations, part 3: comparisons of whole values, nil, indexes, slices, lengths.
-/
import Derived.Test.YtnhogklhegmjhaaGreatDoorShA1
set_option linter.all false
section
namespace Go.Sh
open Go.RowKit (Below)
theorem mapO_ok {α β : Type} {f : α → Option β} : ∀ {xs : List α} {ys : List β}, mapO f xs = some ys → xs.length = ys.length ∧ ∀ (i : Nat) (x : α), xs[i]? = some x → ∃ y, ys[i]? = some y ∧ f x = some y
  | [], ys, h => by simp [mapO] at h; subst h; simp
  | x :: xs, ys, h => by
    simp only [mapO] at h
    split at h
    · rename_i y hy
      split at h
      · rename_i zs hz
        cases h
        obtain ⟨h1, h2⟩ := mapO_ok hz
        refine ⟨by simp [h1], fun i x' hx => ?_⟩
        cases i with
        | zero => simp at hx; subst hx; exact ⟨y, rfl, hy⟩
        | succ i => simpa using h2 i x' (by simpa using hx)
      · cases h
    · cases h
theorem VRL.of_mapO {φ : Emb} {f : Value → Option SV} (hf : ∀ v x, f v = some x → VR φ x v) : ∀ {vs : List Value} {xs : List SV}, mapO f vs = some xs → VRL φ xs vs
  | [], xs, h => by simp [mapO] at h; subst h; exact .nil
  | v :: vs, xs, h => by
    simp only [mapO] at h
    split at h
    · rename_i y hy
      split at h
      · rename_i zs hz
        cases h
        exact .cons (hf _ _ hy) (VRL.of_mapO hf hz)
      · cases h
    · cases h
theorem cv_ok {φ : Emb} : ∀ (n : Nat) (v : Value) (x : SV), cv n v = some x → VR φ x v
  | 0, v, x, h => by simp [cv] at h
  | n + 1, v, x, h => by
    unfold cv at h
    split at h
    · cases h; exact .bool _
    · cases h; exact .int _ _
    · cases h; exact .str rfl
    · cases h; exact .nilp
    · cases h; exact .nils
    · cases h; exact .nilm
    · cases h; exact .nilf
    · cases h; exact .nili
    · split at h
      · cases h; rename_i hx; exact .iface (cv_ok n _ _ hx)
      · cases h
    · split at h
      · cases h; rename_i hx; exact .agg (VRL.of_mapO (cv_ok n) hx)
      · cases h
    · split at h
      · cases h; rename_i hx; exact .tup (VRL.of_mapO (cv_ok n) hx)
      · cases h
    · split at h
      · cases h; rename_i hx hy; exact .func (VRL.of_mapO (cv_ok n) hx) (VRL.of_mapO (cv_ok n) hy)
      · cases h
    · cases h
theorem VR.undef (φ : Emb) : VR φ SV.undef Go.undef := .tup .nil
theorem compX_ok {φ : Emb} {x : Operand} {y : X} (h : compX x = some y) {ts : T} {a : Act} (ht : VRL φ ts a.tmps.toList) : VR φ (y.ev ts) (a.eval x) := by
  cases x with
  | tmp t =>
    simp only [compX] at h; cases h
    simp only [X.ev, Act.eval]
    by_cases hl : t < ts.length
    · obtain ⟨v, hv, hr⟩ := ht.get t ts[t] (List.getElem?_eq_getElem hl)
      simp only [Array.getElem?_toList] at hv
      simpa [List.getD, List.getElem?_eq_getElem hl, hv] using hr
    · have hl' : ¬ t < a.tmps.size := by
        have e : List.length ts = a.tmps.size := ht.length.trans (by simp)
        intro hx; exact hl (by rw [e]; exact hx)
      simp [List.getD, List.getElem?_eq_none (Nat.le_of_not_lt hl), Array.getElem?_eq_none (Nat.le_of_not_lt hl')]
      exact VR.undef φ
  | const v =>
    simp only [compX] at h
    split at h
    · cases h; rename_i hx; exact cv_ok _ _ _ hx
    · cases h
  | global g => simp [compX] at h
  | func f => simp only [compX] at h; cases h; exact .func .nil .nil
theorem compXs_ok {φ : Emb} {xs : Array Operand} {ys : List X} (h : compXs xs = some ys) {ts : T} {a : Act} (ht : VRL φ ts a.tmps.toList) : VRL φ (evs ts ys) (xs.map a.eval).toList := by
  unfold compXs at h
  obtain ⟨l, hl⟩ : ∃ l, xs.toList = l := ⟨_, rfl⟩
  rw [hl] at h
  have : (xs.map a.eval).toList = l.map a.eval := by simp [hl]
  rw [this]
  clear this hl
  induction l generalizing ys with
  | nil => simp [mapO] at h; subst h; exact .nil
  | cons x l ih =>
    simp only [mapO] at h
    split at h
    · rename_i y hy
      split at h
      · rename_i zs hz
        cases h
        exact .cons (compX_ok hy ht) (ih hz)
      · cases h
    · cases h
def Done (P : Program) (φ : Emb) (B : Nat) (H : Heap) (w : World) (s : Sem Next) (v : SV) (H' : Heap) : Prop :=
  H.next ≤ H'.next ∧ ∃ φ' nx u w', φ.ext φ' H.next ∧ s.run P w = .ok nx w' ∧ (nx = .value u ∨ (nx = .skip ∧ u = Go.undef)) ∧ VR φ' v u ∧ HR φ' B H' w' ∧ Below B w w'
theorem Done.pure {P : Program} {φ : Emb} {B : Nat} {w : World} {s : Sem Next} {v : SV} {u : Value} {H : Heap} (hr : s.run P w = .ok (.value u) w) (hv : VR φ v u) (hh : HR φ B H w) : Done P φ B H w s v H :=
  ⟨Nat.le_refl _, φ, _, u, w, Emb.ext.refl φ _, hr, .inl rfl, hv, hh, Below.refl _ _⟩
theorem run_value {P : Program} {w w' : World} {s : Sem Value} {u : Value} (h : s.run P w = .ok u w') : (do pure (Next.value (← s)) : Sem Next).run P w = .ok (.value u) w' := by
  simp [h]
structure TIOk (P : Program) (t : TypeId) (i : TI) : Prop where
  ex : ∃ (info : TypeInfo) (d : TypeDesc) (z : Value), P.info? t = some info ∧ P.underlying t = some d ∧ info.zero = some z ∧ info.size = i.size ∧ info.bytes = i.bytes ∧
    i.agg = (match d with | .struct _ => true | .array _ _ => true | _ => false) ∧ (∀ φ, VR φ i.zeroV z)
  zero : i.zero = i.zeroV.cells
  len : i.zero.length = i.size
  pos : 0 < i.size
  one : i.zero.all SV.one = true
theorem tinfo_ok {P : Program} {t : TypeId} {i : TI} (h : tinfo P t = some i) : TIOk P t i := by
  unfold tinfo at h
  split at h
  · cases h
  · rename_i info hi
    split at h
    · cases h
    · rename_i d hd
      split at h
      · cases h
      · rename_i z hz
        split at h
        · cases h
        · rename_i z' hz'
          dsimp only at h
          split at h
          · rename_i hb
            cases h
            simp only [Bool.and_eq_true] at hb
            obtain ⟨⟨h1, h2⟩, h3⟩ := hb
            exact ⟨⟨info, d, z, hi, hd, hz, rfl, rfl, rfl, fun φ => cv_ok _ _ _ hz'⟩, rfl, Nat.eq_of_beq_eq_true h1, by simpa [Nat.blt_eq] using h2, h3⟩
          · cases h
section
variable {P : Program} {w : World}
theorem TIOk.run_sizeOf {t : TypeId} {i : TI} (h : TIOk P t i) (w : World) : (sizeOf t).run P w = .ok i.size w := by
  obtain ⟨info, d, z, hi, hd, hz, hs, hb, ha, hv⟩ := h.ex
  simp [sizeOf, typeInfo, hi, hs]
theorem TIOk.run_isAgg {t : TypeId} {i : TI} (h : TIOk P t i) (w : World) : (isAgg t).run P w = .ok i.agg w := by
  obtain ⟨info, d, z, hi, hd, hz, hs, hb, ha, hv⟩ := h.ex
  simp only [isAgg, Sem.run_bind, run_underlying hd, Result.andThen_ok, ha]
  cases d <;> rfl
theorem TIOk.run_zeroValue {t : TypeId} {i : TI} (h : TIOk P t i) (w : World) : ∃ z, (∀ φ, VR φ i.zeroV z) ∧ (zeroValue t).run P w = .ok z w := by
  obtain ⟨info, d, z, hi, hd, hz, hs, hb, ha, hv⟩ := h.ex
  exact ⟨z, hv, by simp [zeroValue, typeInfo, hi, hz]⟩
theorem TIOk.run_part {t : TypeId} {i : TI} (h : TIOk P t i) (w : World) {φ : Emb} {cs : List SV} {vs : Array Value} {off : Nat} {v : SV} (hv : VRL φ cs vs.toList)
    (hp : partS i.agg i.size off cs = some v) : ∃ u, (part t vs off).run P w = .ok u w ∧ VR φ v u := by
  unfold partS at hp
  simp only [part, Sem.run_bind, h.run_isAgg, Result.andThen_ok]
  cases hg : i.agg with
  | true =>
    rw [hg] at hp
    simp only [Option.some.injEq] at hp
    subst hp
    refine ⟨_, by simp [h.run_sizeOf]; rfl, .agg ?_⟩
    have := (hv.drop off).take i.size
    simpa [Array.toList_extract, List.extract, List.drop_take, Nat.add_sub_cancel_left] using this
  | false =>
    rw [hg] at hp
    obtain ⟨u, hu, hr⟩ := hv.get _ _ hp
    simp only [Array.getElem?_toList] at hu
    exact ⟨u, by simp [hu], hr⟩
end
section
variable {P : Program} {φ : Emb} {B : Nat} {H H' : Heap} {w : World} {ts : T} {a : Act} {o : Oper} {v : SV}
theorem ok_mv {x : Operand} {y : X} (hc : compX x = some y) (ho : o.op = .move x ∨ o.op = .assign x) (ht : VRL φ ts a.tmps.toList) (hh : HR φ B H w)
    (he : evalOp (.mv y) ts H = some (v, H')) : Done P φ B H w (execOp a.eval o) v H' := by
  simp only [evalOp, Option.some.injEq, Prod.mk.injEq] at he
  obtain ⟨rfl, rfl⟩ := he
  refine Done.pure (u := a.eval x) ?_ (compX_ok hc ht) hh
  rcases ho with ho | ho <;> simp [execOp, ho]
theorem ok_pick {c x y : Operand} {c' x' y' : X} (hc : compX c = some c') (hx : compX x = some x') (hy : compX y = some y') (ho : o.op = .pick c x y) (ht : VRL φ ts a.tmps.toList) (hh : HR φ B H w)
    (he : evalOp (.pick c' x' y') ts H = some (v, H')) : Done P φ B H w (execOp a.eval o) v H' := by
  simp only [evalOp] at he
  have h1 := compX_ok hc ht
  have h2 := compX_ok hx ht
  have h3 := compX_ok hy ht
  split at he
  · rename_i hb
    cases he
    rw [hb] at h1
    generalize hg : a.eval c = u at h1
    cases h1
    exact Done.pure (u := a.eval x) (by simp [execOp, ho, hg, asBool]) h2 hh
  · rename_i hb
    cases he
    rw [hb] at h1
    generalize hg : a.eval c = u at h1
    cases h1
    exact Done.pure (u := a.eval y) (by simp [execOp, ho, hg, asBool]) h3 hh
  · cases he
theorem ok_nilc {x : Operand} {y : X} (hc : compX x = some y) (ho : o.op = .nilCheck x) (ht : VRL φ ts a.tmps.toList) (hh : HR φ B H w)
    (he : evalOp (.nilc y) ts H = some (v, H')) : Done P φ B H w (execOp a.eval o) v H' := by
  have h1 := compX_ok hc ht
  simp only [evalOp] at he
  split at he
  · cases he
  · cases he
  · cases he
  · cases he
  · rename_i n1 n2 n3 n4
    simp only [Option.some.injEq, Prod.mk.injEq] at he
    obtain ⟨rfl, rfl⟩ := he
    refine Done.pure (u := a.eval x) ?_ h1 hh
    simp only [execOp, ho]
    generalize a.eval x = u at h1 ⊢
    generalize y.ev ts = s at h1 n1 n2 n3 n4
    cases h1 <;> first | rfl | exact absurd rfl n1 | exact absurd rfl n2 | exact absurd rfl n3 | exact absurd rfl (n4 _)
theorem ok_mki {t : TypeId} {x : Operand} {y : X} {d : TypeDesc} (hd : P.underlying t = some d) (hni : ∀ ms, d ≠ .interface ms) (hc : compX x = some y) (ho : o.op = .makeInterface t x) (ht : VRL φ ts a.tmps.toList) (hh : HR φ B H w)
    (he : evalOp (.mki t y) ts H = some (v, H')) : Done P φ B H w (execOp a.eval o) v H' := by
  have h1 := compX_ok hc ht
  simp only [evalOp, Option.some.injEq, Prod.mk.injEq] at he
  obtain ⟨rfl, rfl⟩ := he
  refine Done.pure (u := .iface t (a.eval x)) ?_ (.iface h1) hh
  simp only [execOp, ho]
  refine run_value ?_
  simp only [Instr.makeInterface, Sem.run_bind, run_underlying hd, Result.andThen_ok]
  cases d <;> first | rfl | exact absurd rfl (hni _)
theorem ok_mkf {f : FuncId} {xs ys : Array Operand} {us vs : List X} (hx : compXs xs = some us) (hy : compXs ys = some vs) (ho : o.op = .makeFunc (.func f) xs ys) (ht : VRL φ ts a.tmps.toList) (hh : HR φ B H w)
    (he : evalOp (.mkf f us vs) ts H = some (v, H')) : Done P φ B H w (execOp a.eval o) v H' := by
  simp only [evalOp, Option.some.injEq, Prod.mk.injEq] at he
  obtain ⟨rfl, rfl⟩ := he
  exact Done.pure (by simp [execOp, ho, Instr.makeFunc] <;> rfl) (.func (compXs_ok hx ht) (compXs_ok hy ht)) hh
theorem ok_ext {x : Operand} {y : X} {i : Nat} (hc : compX x = some y) (ho : o.op = .extract x i) (ht : VRL φ ts a.tmps.toList) (hh : HR φ B H w)
    (he : evalOp (.ext i y) ts H = some (v, H')) : Done P φ B H w (execOp a.eval o) v H' := by
  have h1 := compX_ok hc ht
  simp only [evalOp] at he
  split at he
  · rename_i vs hb
    rw [hb] at h1
    split at he
    · rename_i x' hx'
      cases he
      generalize hg : a.eval x = u at h1
      cases h1 with
      | tup hv =>
        obtain ⟨u, hu, hr⟩ := hv.get _ _ hx'
        simp only [Array.getElem?_toList] at hu
        exact Done.pure (u := u) (by simp [execOp, ho, hg, Instr.extract, hu]) hr hh
    · cases he
  · cases he
theorem ok_un {op : UnOp} {t : TypeId} {x : Operand} {y : X} (hc : compX x = some y) (ho : o.op = .unOp op t x) (ht : VRL φ ts a.tmps.toList) (hh : HR φ B H w)
    (he : evalOp (.un op y) ts H = some (v, H')) : Done P φ B H w (execOp a.eval o) v H' := by
  have h1 := compX_ok hc ht
  simp only [evalOp] at he
  split at he
  · rename_i v' hb
    cases he
    unfold unS at hb
    split at hb
    · cases hb; rename_i hy; rw [hy] at h1; generalize hg : a.eval x = u at h1; cases h1
      exact Done.pure (by simp [execOp, ho, hg, Op.unary, Op.intArith] <;> rfl) (.int _ _) hh
    · cases hb; rename_i hy; rw [hy] at h1; generalize hg : a.eval x = u at h1; cases h1
      exact Done.pure (by simp [execOp, ho, hg, Op.unary, Op.intBits] <;> rfl) (.int _ _) hh
    · cases hb; rename_i hy; rw [hy] at h1; generalize hg : a.eval x = u at h1; cases h1
      exact Done.pure (by simp [execOp, ho, hg, Op.unary] <;> rfl) (.bool _) hh
    · cases hb
  · cases he
theorem ok_cvi {s d : TypeId} {k : IntKind} {x : Operand} {y : X} {ds : TypeDesc} (hs : P.underlying s = some ds) (hd : P.underlying d = some (.int k)) (hc : compX x = some y) (ho : o.op = .convert s d x) (ht : VRL φ ts a.tmps.toList) (hh : HR φ B H w)
    (he : evalOp (.cvi k y) ts H = some (v, H')) : Done P φ B H w (execOp a.eval o) v H' := by
  have h1 := compX_ok hc ht
  simp only [evalOp] at he
  split at he
  · rename_i hb; cases he; rw [hb] at h1; generalize hg : a.eval x = u at h1; cases h1
    exact Done.pure (by simp [execOp, ho, hg, convert, run_underlying hs, run_underlying hd, Conv.intToInt] <;> rfl) (.int _ _) hh
  · cases he
theorem ok_cvs {s d : TypeId} {x : Operand} {y : X} (hs : P.underlying s = some .string) (hd : P.underlying d = some .string) (hc : compX x = some y) (ho : o.op = .convert s d x) (ht : VRL φ ts a.tmps.toList) (hh : HR φ B H w)
    (he : evalOp (.cvs y) ts H = some (v, H')) : Done P φ B H w (execOp a.eval o) v H' := by
  have h1 := compX_ok hc ht
  simp only [evalOp] at he
  split at he
  · rename_i hb; cases he; rw [hb] at h1; generalize hg : a.eval x = u at h1
    cases h1 with
    | str hl => exact Done.pure (by simp [execOp, ho, hg, convert, run_underlying hs, run_underlying hd] <;> rfl) (.str hl) hh
  · cases he
theorem ok_fad {s : TypeId} {fs : Array Field} {f : Nat} {fd : Field} {i : TI} {x : Operand} {y : X} (hs : P.underlying s = some (.struct fs)) (hf : fs[f]? = some fd) (hi : TIOk P fd.type i) (hc : compX x = some y)
    (ho : o.op = .fieldAddr s x f) (ht : VRL φ ts a.tmps.toList) (hh : HR φ B H w)
    (he : evalOp (.fad fd.offset y) ts H = some (v, H')) : Done P φ B H w (execOp a.eval o) v H' := by
  have h1 := compX_ok hc ht
  simp only [evalOp] at he
  split at he
  · rename_i b off hb; cases he; rw [hb] at h1; generalize hg : a.eval x = u at h1
    cases h1 with
    | ptr hl =>
      rename_i l
      refine Done.pure (u := .pointer (some ⟨l.rb, l.base + (off + fd.offset), none⟩)) ?_ (.ptr hl) hh
      have hp : i.size ≠ 0 := Nat.ne_of_gt hi.pos
      simp only [execOp, ho, hg]
      refine run_value ?_
      simp [Instr.fieldAt, run_underlying hs, hf, Instr.sureAddr, fieldPlace, hi.run_sizeOf, hp, Addr.add]
      split
      · simp_all
      · simp [Nat.add_assoc]
  · cases he
theorem ok_fld {t : TypeId} {fs : Array Field} {f : Nat} {fd : Field} {i : TI} {x : Operand} {y : X} (hs : P.underlying t = some (.struct fs)) (hf : fs[f]? = some fd) (hi : TIOk P fd.type i) (hc : compX x = some y)
    (ho : o.op = .field t x f) (ht : VRL φ ts a.tmps.toList) (hh : HR φ B H w)
    (he : evalOp (.fld i.agg i.size fd.offset y) ts H = some (v, H')) : Done P φ B H w (execOp a.eval o) v H' := by
  have h1 := compX_ok hc ht
  simp only [evalOp] at he
  split at he
  · rename_i cs hb; rw [hb] at h1; generalize hg : a.eval x = u at h1
    split at he
    · rename_i v' hv'
      cases he
      cases h1 with
      | agg hv =>
        obtain ⟨u, hu, hr⟩ := hi.run_part w hv hv'
        exact Done.pure (by simp only [execOp, ho, hg]; exact run_value (by simp [Instr.field, run_underlying hs, hf, asAgg, hu])) hr hh
    · cases he
  · cases he
end
end Go.Sh
end
section
namespace Go.Sh
open Go.RowKit (Below)
theorem eqS_iff : ∀ {x y : List Nat}, eqS x y = true ↔ x = y
  | [], [] => by simp [eqS]
  | [], _ :: _ => by simp [eqS]
  | _ :: _, [] => by simp [eqS]
  | a :: x, b :: y => by simp [eqS, eqS_iff (x := x) (y := y)]
theorem toNat_map_inj {x y : List UInt8} (h : x.map UInt8.toNat = y.map UInt8.toNat) : x = y := by
  induction x generalizing y with
  | nil => cases y <;> simp_all
  | cons a x ih =>
    cases y with
    | nil => simp at h
    | cons b y =>
      simp only [List.map_cons, List.cons.injEq] at h
      rw [UInt8.toNat_inj.1 h.1, ih h.2]
theorem eqS_bytes (x y : List UInt8) : eqS (x.map UInt8.toNat) (y.map UInt8.toNat) = (x == y) := by
  rw [Bool.eq_iff_iff, eqS_iff, beq_iff_eq]
  exact ⟨toNat_map_inj, fun h => by rw [h]⟩
theorem ltS_bytes : ∀ (x y : List UInt8), ltS (x.map UInt8.toNat) (y.map UInt8.toNat) = Op.bytesLess x y
  | _, [] => by simp [ltS, Op.bytesLess]
  | [], _ :: _ => by simp [ltS, Op.bytesLess]
  | a :: x, b :: y => by
    simp only [List.map_cons, ltS, Op.bytesLess, ltS_bytes x y]
    congr 1
    · rw [Bool.eq_iff_iff]; simp [Nat.blt_eq, UInt8.lt_iff_toNat_lt]
    · congr 1
      rw [Bool.eq_iff_iff]; simp [← UInt8.toNat_inj]
section
variable {P : Program} {φ : Emb} {B : Nat} {H H' : Heap} {w : World} {ts : T} {a : Act} {o : Oper} {v : SV}
theorem run_binS {op : BinOp} {t : TypeId} {x y v : SV} {x' y' : Value} (h : binS op x y = some v) (hx : VR φ x x') (hy : VR φ y y') :
    ∃ u, (binOp op t x' y').run P w = .ok u w ∧ VR φ v u := by
  unfold binS at h
  split at h
  · cases hx; cases hy
    rename_i k a k' b
    cases op
    case shl | shr =>
      dsimp only at h
      split at h
      · cases h
      · cases h; rename_i hb; exact ⟨_, by simp [binOp, Op.shift, hb] <;> rfl, .int _ _⟩
    all_goals
      dsimp only at h
      split at h
      · cases h
      · rename_i hk
        have hk' : k = k' := by simpa using hk
        subst hk'
        first
          | (split at h
             · cases h
             · cases h; rename_i hb; exact ⟨_, by simp [binOp, Op.intDiv, hb] <;> rfl, .int _ _⟩)
          | (cases h; exact ⟨_, by simp only [binOp, ne_eq, not_true_eq_false, if_false, Op.intArith]; rfl, .int _ _⟩)
          | (cases h; exact ⟨_, by simp only [binOp, ne_eq, not_true_eq_false, if_false]; rfl, .int _ _⟩)
          | (cases h; exact ⟨_, by simp only [binOp, ne_eq, not_true_eq_false, if_false, Op.intCmp]; rfl, .bool _⟩)
  · cases hx with
    | str hl =>
      cases hy with
      | str hl' =>
        rename_i s s'
        subst hl hl'
        have he : (s.toList == s'.toList) = eqS (s.data.toList.map UInt8.toNat) (s'.data.toList.map UInt8.toNat) := by
          rw [eqS_bytes, ByteArray.toList_eq, ByteArray.toList_eq]
        have hlt : Op.bytesLess s.toList s'.toList = ltS (s.data.toList.map UInt8.toNat) (s'.data.toList.map UInt8.toNat) := by
          rw [ltS_bytes, ByteArray.toList_eq, ByteArray.toList_eq]
        cases op
        case add =>
          dsimp only at h
          split at h
          · rename_i hb
            cases h
            have hb' := Nat.le_of_ble_eq_true hb
            simp only [List.length_map, maxStr] at hb'
            have e1 : s.data.toList.length = s.size := by rw [Array.length_toList]; rfl
            have e2 : s'.data.toList.length = s'.size := by rw [Array.length_toList]; rfl
            refine ⟨.string (s ++ s'), ?_, .str ?_⟩
            · have := run_string_add_sum (P := P) w s s' (by omega)
              simpa [binOp] using this
            · simp
          · cases h
        all_goals
          first
            | (cases h; exact ⟨_, by simp [binOp, Op.stringOp, he, hlt] <;> rfl, .bool _⟩)
            | cases h
  · cases h
theorem eqGuard_plain {op : BinOp} {t : TypeId} {x y : Operand} {u v : Value} (h : match u, v with | .nilIface, .nilIface => False | .agg _, .agg _ => False | _, _ => True) :
    (eqGuard op t x y u v).run P w = .ok () w := by
  unfold eqGuard
  cases op <;> first
    | rfl
    | (simp only [Bool.not_true, Bool.false_eq_true, if_false]
       split
       · exact h.elim
       · exact h.elim
       · rfl)
theorem ok_bin {op : BinOp} {t yt : TypeId} {x y : Operand} {x' y' : X} (hx : compX x = some x') (hy : compX y = some y') (ho : o.op = .binOp op t x y yt) (ht : VRL φ ts a.tmps.toList) (hh : HR φ B H w)
    (he : evalOp (.bin op x' y') ts H = some (v, H')) : Done P φ B H w (execOp a.eval o) v H' := by
  have h1 := compX_ok hx ht
  have h2 := compX_ok hy ht
  simp only [evalOp] at he
  split at he
  · rename_i v' hb
    cases he
    obtain ⟨u, hu, hr⟩ := run_binS (P := P) (w := w) (t := t) hb h1 h2
    refine Done.pure (u := u) ?_ hr hh
    simp only [execOp, ho]
    refine run_value ?_
    have : (eqGuard op t x y (a.eval x) (a.eval y)).run P w = .ok () w := by
      apply eqGuard_plain
      generalize x'.ev ts = s at h1 hb
      generalize y'.ev ts = s' at h2 hb
      generalize a.eval x = p at h1 ⊢
      generalize a.eval y = q at h2 ⊢
      unfold binS at hb
      split at hb
      · cases h1; trivial
      · cases h1; trivial
      · cases hb
    simp [this, hu]
  · cases he
theorem run_eqOne {x y : SV} {x' y' : Value} {b : Bool} {t : TypeId} {kind : Nat} (d : Nat) (h : eqOne kind x y = some b) (hx : VR φ x x') (hy : VR φ y y')
    (ht : (P.underlying t = some .bool ∧ kind = 0) ∨ ((∃ k, P.underlying t = some (.int k)) ∧ kind = 1) ∨ (P.underlying t = some .string ∧ kind = 2)) :
    (Op.equalIn (d + 1) t x' y').run P w = .ok b w := by
  unfold eqOne at h
  split at h
  · cases h; cases hx; cases hy
    obtain ⟨hu, _⟩ | ⟨_, hk⟩ | ⟨_, hk⟩ := ht
    · simp [Op.equalIn, run_underlying hu]
    · cases hk
    · cases hk
  · cases hx; cases hy
    obtain ⟨_, hk⟩ | ⟨⟨k, hu⟩, _⟩ | ⟨_, hk⟩ := ht
    · cases hk
    · split at h
      · cases h; rename_i e; subst e; simp [Op.equalIn, run_underlying hu]
      · cases h
    · cases hk
  · obtain ⟨_, hk⟩ | ⟨_, hk⟩ | ⟨hu, _⟩ := ht
    · cases hk
    · cases hk
    · cases h
      cases hx with
      | str h1 => cases hy with
        | str h2 =>
          subst h1 h2
          rw [eqS_bytes]
          simp only [Op.equalIn, Sem.run_bind, run_underlying hu, Result.andThen_ok, Sem.run_pure]
          rw [beq_toListBytes, ByteArray.toList_eq, ByteArray.toList_eq]
  · cases h
theorem eqLeaves_append : ∀ (L M : List (Nat × Nat)) (xs ys : List SV), eqLeaves (L ++ M) xs ys = match eqLeaves L xs ys with | some true => eqLeaves M xs ys | r => r
  | [], M, xs, ys => rfl
  | (i, k) :: L, M, xs, ys => by
    simp only [List.cons_append, eqLeaves]
    cases xs[i]? with
    | none => rfl
    | some x =>
      cases ys[i]? with
      | none => rfl
      | some y =>
        dsimp only
        cases eqOne k x y with
        | none => rfl
        | some b =>
          cases b
          · rfl
          · exact eqLeaves_append L M xs ys
theorem eqLeaves_shift (o n : Nat) : ∀ (L : List (Nat × Nat)) (xs ys : List SV), L.all (fun p => Nat.blt p.1 n) = true →
    eqLeaves (L.map fun p => (o + p.1, p.2)) xs ys = eqLeaves L ((xs.drop o).take n) ((ys.drop o).take n)
  | [], xs, ys, _ => rfl
  | (i, k) :: L, xs, ys, h => by
    simp only [List.all_cons, Bool.and_eq_true, Nat.blt_eq] at h
    simp only [List.map_cons, eqLeaves, List.getElem?_take, List.getElem?_drop, if_pos h.1]
    cases xs[o + i]? with
    | none => rfl
    | some x =>
      cases ys[o + i]? with
      | none => rfl
      | some y =>
        dsimp only
        cases eqOne k x y with
        | none => rfl
        | some b =>
          cases b
          · rfl
          · exact eqLeaves_shift o n L xs ys h.2
def isAggD (d : TypeDesc) : Bool := match d with | .struct _ => true | .array _ _ => true | _ => false
theorem run_part_any {t : TypeId} {j : TypeInfo} {dd : TypeDesc} (hj : P.info? t = some j) (hd : P.underlying t = some dd) (vs : Array Value) (off : Nat) :
    (part t vs off).run P w = match isAggD dd with
      | true => .ok (.agg (vs.extract off (off + j.size))) w
      | false => match vs[off]? with
        | some v => .ok v w
        | none => .halt (.stuck "part: no such cell") w := by
  simp only [part, Sem.run_bind, isAgg, run_underlying hd, Result.andThen_ok]
  cases dd <;> simp [isAggD, sizeOf, typeInfo, hj, stuck] <;> (cases vs[off]? <;> rfl)
def cellsAre (agg : Bool) (x : Value) (vs : List Value) : Prop :=
  match agg with
  | true => ∃ a : Array Value, x = .agg a ∧ a.toList = vs
  | false => vs[0]? = some x
theorem eq_flat : ∀ (n : Nat) (t : TypeId) (L : List (Nat × Nat)), leaves P n t = some L → ∀ (d : Nat) (dd : TypeDesc), P.underlying t = some dd →
    ∀ (xs ys : List SV) (vs us : List Value) (x y : Value) (b : Bool), VRL φ xs vs → VRL φ ys us → cellsAre (isAggD dd) x vs → cellsAre (isAggD dd) y us → eqLeaves L xs ys = some b →
    (Op.equalIn (d + n) t x y).run P w = .ok b w
  | 0, t, L, h => by simp [leaves] at h
  | n + 1, t, L, h => by
    intro d dd hd xs ys vs us x y b hx hy cx cy he
    have plain : ∀ (k : Nat), L = [(0, k)] → isAggD dd = false → ((P.underlying t = some .bool ∧ k = 0) ∨ ((∃ q, P.underlying t = some (.int q)) ∧ k = 1) ∨ (P.underlying t = some .string ∧ k = 2)) →
        (Op.equalIn (d + (n + 1)) t x y).run P w = .ok b w := by
      intro k hL hag ht
      subst hL
      rw [hag] at cx cy
      simp only [eqLeaves] at he
      split at he
      · cases he
      · rename_i x0 hx0
        split at he
        · cases he
        · rename_i y0 hy0
          obtain ⟨v, hv, hr⟩ := hx.get _ _ hx0
          obtain ⟨u, hu, hr'⟩ := hy.get _ _ hy0
          simp only [cellsAre] at cx cy
          rw [cx] at hv; cases hv
          rw [cy] at hu; cases hu
          have hb : eqOne k x0 y0 = some b := by
            cases hq : eqOne k x0 y0 with
            | none => rw [hq] at he; cases he
            | some c => rw [hq] at he; cases c <;> simpa using he
          exact run_eqOne (d + n) hb hr hr' ht
    unfold leaves at h
    rw [hd] at h
    cases dd with
    | bool => exact plain 0 (by simpa using h.symm) rfl (.inl ⟨hd, rfl⟩)
    | int q => exact plain 1 (by simpa using h.symm) rfl (.inr (.inl ⟨⟨q, hd⟩, rfl⟩))
    | string => exact plain 2 (by simpa using h.symm) rfl (.inr (.inr ⟨hd, rfl⟩))
    | struct fs =>
      dsimp only at h
      split at h
      · cases h
      · rename_i hst
        split at h
        · rename_i Ls hLs
          cases h
          obtain ⟨va, rfl, hva⟩ := cx
          obtain ⟨ua, rfl, hua⟩ := cy
          have hfo : P.fieldsOf t = fs := by simp [Program.fieldsOf, hd]
          rw [show d + (n + 1) = (d + n) + 1 from rfl, run_equalIn_struct w (d + n) t va ua (by rw [hfo]; exact hd) hst, hfo]
          generalize fs.toList = fl at hLs
          clear hfo hd plain hst
          induction fl generalizing Ls b with
          | nil =>
            simp [mapO] at hLs; subst hLs
            simp [eqLeaves] at he; subst he
            simp [Op.eqFields]
          | cons f fl ih =>
            simp only [mapO] at hLs
            split at hLs
            · rename_i Lf hLf
              split at hLs
              · rename_i Lr hLr
                cases hLs
                simp only [List.flatten_cons, eqLeaves_append] at he
                split at hLf
                · cases hLf
                · rename_i hne
                  have hne' : f.name ≠ "_" := by simpa using hne
                  split at hLf
                  · rename_i L0 hL0
                    split at hLf
                    · rename_i j hj
                      split at hLf
                      · rename_i hall
                        cases hLf
                        rw [eqLeaves_shift f.offset j.size L0 xs ys hall] at he
                        obtain ⟨df, hdf⟩ : ∃ df, P.underlying f.type = some df := by
                          cases hu : P.underlying f.type with
                          | none => cases n <;> simp [leaves, hu] at hL0
                          | some df => exact ⟨df, rfl⟩
                        have hx' := (hx.drop f.offset).take j.size
                        have hy' := (hy.drop f.offset).take j.size
                        obtain ⟨b1, hb1, hb2⟩ : ∃ b1, eqLeaves L0 ((xs.drop f.offset).take j.size) ((ys.drop f.offset).take j.size) = some b1 ∧ (b1 = false → b = false) ∧ (b1 = true → eqLeaves Lr.flatten xs ys = some b) := by
                          revert he
                          cases eqLeaves L0 ((xs.drop f.offset).take j.size) ((ys.drop f.offset).take j.size) with
                          | none => intro he; cases he
                          | some c => cases c <;> intro he <;> simp_all
                        simp only [Op.eqFields, if_pos hne', Sem.run_bind, run_part_any hj hdf]
                        have step : ∃ p q, (match isAggD df with
                              | true => Result.ok (Value.agg (va.extract f.offset (f.offset + j.size))) w
                              | false => match va[f.offset]? with
                                | some v => .ok v w
                                | none => .halt (.stuck "part: no such cell") w) = .ok p w ∧
                            (match isAggD df with
                              | true => Result.ok (Value.agg (ua.extract f.offset (f.offset + j.size))) w
                              | false => match ua[f.offset]? with
                                | some v => .ok v w
                                | none => .halt (.stuck "part: no such cell") w) = .ok q w ∧ (Op.equalIn (d + n) f.type p q).run P w = .ok b1 w := by
                          have key := fun (p q : Value) => eq_flat n f.type L0 hL0 d df hdf ((xs.drop f.offset).take j.size) ((ys.drop f.offset).take j.size) ((vs.drop f.offset).take j.size) ((us.drop f.offset).take j.size) p q b1 hx' hy'
                          cases hag : isAggD df with
                          | true =>
                            refine ⟨.agg (va.extract f.offset (f.offset + j.size)), .agg (ua.extract f.offset (f.offset + j.size)), rfl, rfl, ?_⟩
                            refine key _ _ ?_ ?_ hb1
                            · rw [hag]; exact ⟨_, rfl, by simp [← hva, List.extract, List.drop_take, Nat.add_sub_cancel_left]⟩
                            · rw [hag]; exact ⟨_, rfl, by simp [← hua, List.extract, List.drop_take, Nat.add_sub_cancel_left]⟩
                          | false =>
                            have hL0' : ∃ k, L0 = [(0, k)] := by
                              cases n with
                              | zero => simp [leaves] at hL0
                              | succ n =>
                                unfold leaves at hL0
                                rw [hdf] at hL0
                                cases df <;> simp [isAggD] at hag hL0 <;> exact ⟨_, hL0.symm⟩
                            obtain ⟨k, rfl⟩ := hL0'
                            have hb1' := hb1
                            simp only [eqLeaves] at hb1'
                            split at hb1'
                            · cases hb1'
                            · rename_i x0 hx0
                              split at hb1'
                              · cases hb1'
                              · rename_i y0 hy0
                                obtain ⟨p, hp, _⟩ := hx'.get _ _ hx0
                                obtain ⟨q, hq, _⟩ := hy'.get _ _ hy0
                                have hp' : va[f.offset]? = some p := by
                                  rw [← hva] at hp
                                  rw [List.getElem?_take] at hp
                                  split at hp
                                  · simpa using hp
                                  · cases hp
                                have hq' : ua[f.offset]? = some q := by
                                  rw [← hua] at hq
                                  rw [List.getElem?_take] at hq
                                  split at hq
                                  · simpa using hq
                                  · cases hq
                                refine ⟨p, q, by simp only [hp'], by simp only [hq'], key _ _ ?_ ?_ hb1⟩
                                · rw [hag]; exact hp
                                · rw [hag]; exact hq
                        obtain ⟨p, q, hp, hq, hpq⟩ := step
                        rw [hp, Result.andThen_ok, hq, Result.andThen_ok, hpq, Result.andThen_ok]
                        cases b1 with
                        | false => simp [hb2.1 rfl]
                        | true => simpa using ih _ _ (hb2.2 rfl) hLr
                      · cases hLf
                    · cases hLf
                  · cases hLf
              · cases hLs
            · cases hLs
        · cases h
    | _ => cases h
end
end Go.Sh
end
section
namespace Go.Sh
open Go.RowKit (Below)
section
variable {P : Program} {φ : Emb} {B : Nat} {H H' : Heap} {w : World} {ts : T} {a : Act} {o : Oper} {v : SV}
theorem leaves_ne_array {n : Nat} {t : TypeId} {L : List (Nat × Nat)} (h : leaves P n t = some L) : (∃ fs, P.underlying t = some (.struct fs)) ∨
    (∃ k, L = [(0, k)] ∧ ((P.underlying t = some .bool ∧ k = 0) ∨ ((∃ q, P.underlying t = some (.int q)) ∧ k = 1) ∨ (P.underlying t = some .string ∧ k = 2))) := by
  cases n with
  | zero => simp [leaves] at h
  | succ n =>
    unfold leaves at h
    split at h
    · rename_i hu; cases h; exact .inr ⟨0, rfl, .inl ⟨hu, rfl⟩⟩
    · rename_i k hu; cases h; exact .inr ⟨1, rfl, .inr (.inl ⟨⟨k, hu⟩, rfl⟩)⟩
    · rename_i hu; cases h; exact .inr ⟨2, rfl, .inr (.inr ⟨hu, rfl⟩)⟩
    · rename_i fs hu; exact .inl ⟨fs, hu⟩
    · cases h
theorem run_eqVal {t : TypeId} {L : List (Nat × Nat)} {x y : SV} {x' y' : Value} {b : Bool} (hL : leaves P 6 t = some L) (hx : VR φ x x') (hy : VR φ y y')
    (he : eqVal (isAggT P t) L x y = some b) : (Op.equal t x' y').run P w = .ok b w := by
  rcases leaves_ne_array hL with ⟨fs, hu⟩ | ⟨k, rfl, hk⟩
  · have hag : isAggT P t = true := by simp [isAggT, hu]
    rw [hag] at he
    simp only [eqVal] at he
    split at he
    · cases hx with
      | agg hx => cases hy with
        | agg hy => exact eq_flat 6 t L hL 9994 _ hu _ _ _ _ _ _ b hx hy ⟨_, rfl, rfl⟩ ⟨_, rfl, rfl⟩ he
    · cases he
  · have hag : isAggT P t = false := by
      rcases hk with ⟨h, _⟩ | ⟨⟨q, h⟩, _⟩ | ⟨h, _⟩ <;> simp [isAggT, h]
    rw [hag] at he
    simp only [eqVal] at he
    exact run_eqOne 9999 he hx hy hk
theorem ok_eqf_struct {neg : Bool} {op : BinOp} {t yt : TypeId} {fs : Array Field} {L : List (Nat × Nat)} {x y : Operand} {x' y' : X} (hop : op = if neg then .neq else .eql) (hu : P.underlying t = some (.struct fs)) (hL : leaves P 6 t = some L)
    (hg : P.eqGuardType P.depth t = false) (hx : compX x = some x') (hy : compX y = some y') (ho : o.op = .binOp op t x y yt) (ht : VRL φ ts a.tmps.toList) (hh : HR φ B H w)
    (he : evalOp (.eqf neg true L x' y') ts H = some (v, H')) : Done P φ B H w (execOp a.eval o) v H' := by
  have h1 := compX_ok hx ht
  have h2 := compX_ok hy ht
  simp only [evalOp] at he
  split at he
  · rename_i b hb
    cases he
    have hag : isAggT P t = true := by simp [isAggT, hu]
    rw [← hag] at hb
    have hq := run_eqVal (P := P) (w := w) hL h1 h2 hb
    rw [hag] at hb
    have hgd : (eqGuard op t x y (a.eval x) (a.eval y)).run P w = .ok () w := by
      simp only [eqVal] at hb
      split at hb
      · rename_i e1 e2
        rw [e1] at h1; rw [e2] at h2
        generalize a.eval x = p at h1 ⊢
        generalize a.eval y = q at h2 ⊢
        cases h1; cases h2
        unfold eqGuard
        cases op <;> simp [hg]
      · cases hb
    have hbin : (binOp op t (a.eval x) (a.eval y)).run P w = .ok (.bool (b != neg)) w := by
      simp only [eqVal] at hb
      split at hb
      · rename_i e1 e2
        rw [e1] at h1; rw [e2] at h2
        generalize a.eval x = p at h1 hq ⊢
        generalize a.eval y = q at h2 hq ⊢
        cases h1; cases h2
        subst hop
        cases neg <;> simp [binOp, hq]
      · cases hb
    exact Done.pure (by simp only [execOp, ho]; exact run_value (by simp only [Sem.run_bind, hgd, Result.andThen_ok, hbin])) (.bool _) hh
  · cases he
theorem ok_eqf_bool {neg : Bool} {op : BinOp} {t yt : TypeId} {x y : Operand} {x' y' : X} (hop : op = if neg then .neq else .eql) (hu : P.underlying t = some .bool)
    (hx : compX x = some x') (hy : compX y = some y') (ho : o.op = .binOp op t x y yt) (ht : VRL φ ts a.tmps.toList) (hh : HR φ B H w)
    (he : evalOp (.eqf neg false [(0, 0)] x' y') ts H = some (v, H')) : Done P φ B H w (execOp a.eval o) v H' := by
  have h1 := compX_ok hx ht
  have h2 := compX_ok hy ht
  simp only [evalOp, eqVal] at he
  split at he
  · rename_i b hb
    cases he
    have hq : (Op.equal t (a.eval x) (a.eval y)).run P w = .ok b w := run_eqOne (P := P) (w := w) (t := t) 9999 hb h1 h2 (.inl ⟨hu, rfl⟩)
    unfold eqOne at hb
    split at hb
    · rename_i e1 e2
      rw [e1] at h1; rw [e2] at h2
      generalize hp : a.eval x = p at h1 hq
      generalize hp' : a.eval y = q at h2 hq
      cases h1; cases h2
      refine Done.pure (u := .bool (b != neg)) ?_ (.bool _) hh
      simp only [execOp, ho, hp, hp']
      refine run_value ?_
      subst hop
      have hgd : ∀ op, ∀ p q : Bool, (eqGuard op t x y (.bool p) (.bool q)).run P w = .ok () w := fun op p q => eqGuard_plain trivial
      cases neg <;> simp [hgd, binOp, hq]
    · rename_i hk _ _; cases hk
    · rename_i hk _ _; cases hk
    · cases hb
  · cases he
theorem eqGuard_const {op : BinOp} {t : TypeId} {x y : Operand} {u v : Value} (h : (isNilX x || isNilX y) = true) (hn : ∀ p q, u = .agg p → v = .agg q → False) : (eqGuard op t x y u v).run P w = .ok () w := by
  unfold eqGuard
  cases op <;> first
    | rfl
    | (simp only [Bool.not_true, Bool.false_eq_true, if_false]
       split
       · simp only [Bool.or_eq_true] at h
         rcases h with h | h
         · cases x <;> simp [isNilX] at h ⊢
         · cases y <;> simp [isNilX] at h ⊢
       · exact (hn _ _ rfl rfl).elim
       · rfl)
theorem run_eqNil (d : Nat) {t : TypeId} {dd : TypeDesc} {kind : Nat} {x y : SV} {x' y' : Value} {b : Bool} (hu : P.underlying t = some dd) (hk : kindD dd = some kind)
    (hx : VR φ x x') (hy : VR φ y y') (he : eqNil kind x y = some b) : (Op.equalIn (d + 1) t x' y').run P w = .ok b w := by
  cases dd <;> simp only [kindD, Option.some.injEq, reduceCtorEq] at hk <;> subst hk <;> simp only [eqNil] at he <;> split at he <;> cases he <;> cases hx <;> cases hy <;>
    simp [Op.equalIn, run_underlying hu]
theorem ok_eqn {neg : Bool} {op : BinOp} {t yt : TypeId} {dd : TypeDesc} {kind : Nat} {x y : Operand} {x' y' : X} (hop : op = if neg then .neq else .eql) (hu : P.underlying t = some dd) (hk : kindD dd = some kind)
    (hn : (isNilX x || isNilX y) = true)
    (hx : compX x = some x') (hy : compX y = some y') (ho : o.op = .binOp op t x y yt) (ht : VRL φ ts a.tmps.toList) (hh : HR φ B H w)
    (he : evalOp (.eqn neg kind x' y') ts H = some (v, H')) : Done P φ B H w (execOp a.eval o) v H' := by
  have h1 := compX_ok hx ht
  have h2 := compX_ok hy ht
  simp only [evalOp] at he
  split at he
  · rename_i b hb
    cases he
    have hq := run_eqNil (P := P) (w := w) 9999 hu hk h1 h2 hb
    have hq' : (Op.equal t (a.eval x) (a.eval y)).run P w = .ok b w := hq
    have nagg : ∀ p q, a.eval x = .agg p → a.eval y = .agg q → False := by
      intro p q e1 e2
      rw [e1] at h1; rw [e2] at h2
      generalize x'.ev ts = s at h1 hb
      generalize y'.ev ts = s' at h2 hb
      cases h1
      all_goals (try (rename_i ho; cases ho; done))
      cases h2
      all_goals (try (rename_i ho; cases ho; done))
      match kind with
      | 0 => simp [eqNil] at hb
      | 1 => simp [eqNil] at hb
      | 2 => simp [eqNil] at hb
      | 3 => simp [eqNil] at hb
      | n + 4 => simp [eqNil] at hb
    have hgd : (eqGuard op t x y (a.eval x) (a.eval y)).run P w = .ok () w := eqGuard_const hn nagg
    have hbin : (binOp op t (a.eval x) (a.eval y)).run P w = .ok (.bool (b != neg)) w := by
      generalize a.eval x = p at h1 hq' ⊢
      generalize a.eval y = q at h2 hq' ⊢
      generalize x'.ev ts = s at h1 hb
      generalize y'.ev ts = s' at h2 hb
      clear hq hgd nagg
      subst hop
      have : ∀ kind, eqNil kind s s' = some b → (binOp (if neg then .neq else .eql) t p q).run P w = .ok (.bool (b != neg)) w := by
        intro kind hb
        match kind with
        | 0 | 1 | 2 | 3 | n + 4 =>
          simp only [eqNil] at hb
          split at hb <;> cases hb <;> cases h1 <;> cases h2 <;> cases neg <;> simp [binOp, hq']
      exact this kind hb
    exact Done.pure (by simp only [execOp, ho]; exact run_value (by simp only [Sem.run_bind, hgd, Result.andThen_ok, hbin])) (.bool _) hh
  · cases he
theorem idx_ok {s : SV} {lim n : Nat} {x : Value} (h : idx s lim = some n) (hx : VR φ s x) : ∃ k, x = .int k (Int.ofNat n) ∧ n ≤ lim := by
  unfold idx at h
  split at h
  · split at h
    · cases h; cases hx; exact ⟨_, rfl, Nat.le_of_ble_eq_true ‹_›⟩
    · cases h
  · cases h
theorem ok_iad {t e : TypeId} {ti : TI} {x i : Operand} {x' i' : X} (hu : P.underlying t = some (.slice e)) (hi : TIOk P e ti) (hx : compX x = some x') (hy : compX i = some i') (ho : o.op = .indexAddr t x i)
    (ht : VRL φ ts a.tmps.toList) (hh : HR φ B H w) (he : evalOp (.iad ti.size x' i') ts H = some (v, H')) : Done P φ B H w (execOp a.eval o) v H' := by
  have h1 := compX_ok hx ht
  have h2 := compX_ok hy ht
  simp only [evalOp] at he
  split at he
  · rename_i b off n c z e1
    split at he
    · rename_i kk k e2
      split at he
      · rename_i hb
        cases he
        rw [e1] at h1; rw [e2] at h2
        generalize hp : a.eval x = p at h1
        generalize hq : a.eval i = q at h2
        simp only [Bool.and_eq_true, Nat.blt_eq] at hb
        obtain ⟨hlt, hz⟩ := hb
        have hz' := Nat.eq_of_beq_eq_true hz
        cases h2
        cases h1 with
        | slice0 => omega
        | slice hl hc hn htot =>
          rename_i cap l
          refine Done.pure (u := .pointer (some ⟨l.rb, l.base + (off + k * ti.size), none⟩)) ?_ (.ptr hl) hh
          simp only [execOp, ho, hp, hq]
          refine run_value ?_
          have hlt' : (Int.ofNat k) < (n : Int) := by simpa using hlt
          simp only [Instr.indexAt, asIntOf, Sem.run_bind, Sem.run_pure, Result.andThen_ok, run_underlying hu]
          simp [hlt, hi.run_sizeOf, Addr.add]
          split
          · simp_all
          · simp [Nat.add_assoc]
      · cases he
    · cases he
  · cases he
theorem ok_iaa {t e : TypeId} {n : Nat} {ti : TI} {x i : Operand} {x' i' : X} (hu : P.underlying t = some (.array n e)) (hi : TIOk P e ti) (hx : compX x = some x') (hy : compX i = some i') (ho : o.op = .indexAddr t x i)
    (ht : VRL φ ts a.tmps.toList) (hh : HR φ B H w) (he : evalOp (.iaa n ti.size x' i') ts H = some (v, H')) : Done P φ B H w (execOp a.eval o) v H' := by
  have h1 := compX_ok hx ht
  have h2 := compX_ok hy ht
  simp only [evalOp] at he
  split at he
  · rename_i b off e1
    split at he
    · rename_i kk k e2
      split at he
      · rename_i hb
        cases he
        rw [e1] at h1; rw [e2] at h2
        generalize hp : a.eval x = p at h1
        generalize hq : a.eval i = q at h2
        simp only [Nat.blt_eq] at hb
        cases h2
        cases h1 with
        | ptr hl =>
          rename_i l
          refine Done.pure (u := .pointer (some ⟨l.rb, l.base + (off + k * ti.size), none⟩)) ?_ (.ptr hl) hh
          simp only [execOp, ho, hp, hq]
          refine run_value ?_
          simp only [Instr.indexAt, asIntOf, Sem.run_bind, Sem.run_pure, Result.andThen_ok, run_underlying hu, Instr.sureAddr]
          simp [hb, hi.run_sizeOf, Addr.add]
          split
          · simp_all
          · simp [Nat.add_assoc]
      · cases he
    · cases he
  · cases he
theorem ok_ixs {t : TypeId} {x i : Operand} {x' i' : X} (hu : P.underlying t = some .string) (hx : compX x = some x') (hy : compX i = some i') (ho : o.op = .index t x i)
    (ht : VRL φ ts a.tmps.toList) (hh : HR φ B H w) (he : evalOp (.ixs x' i') ts H = some (v, H')) : Done P φ B H w (execOp a.eval o) v H' := by
  have h1 := compX_ok hx ht
  have h2 := compX_ok hy ht
  simp only [evalOp] at he
  split at he
  · rename_i s e1
    split at he
    · rename_i kk k e2
      split at he
      · rename_i b hb
        cases he
        rw [e1] at h1; rw [e2] at h2
        generalize hp : a.eval x = p at h1
        generalize hq : a.eval i = q at h2
        cases h2
        cases h1 with
        | str hl =>
          rename_i t'
          subst hl
          simp only [List.getElem?_map, Option.map_eq_some_iff, Array.getElem?_toList] at hb
          obtain ⟨c, hc, rfl⟩ := hb
          refine Done.pure (u := .int .u8 (Int.ofNat c.toNat)) ?_ (.int _ _) hh
          simp only [execOp, ho, hp, hq]
          refine run_value ?_
          have hc' : t'[k]? = some c := by
            obtain ⟨hk, hkc⟩ := Array.getElem?_eq_some_iff.1 hc
            rw [getElem?_pos t' k hk]
            exact congrArg some hkc
          simp [Instr.index, asIntOf, run_underlying hu, hc']
      · cases he
    · cases he
  · cases he
theorem ok_ixa {t e : TypeId} {n : Nat} {ti : TI} {x i : Operand} {x' i' : X} (hu : P.underlying t = some (.array n e)) (hi : TIOk P e ti) (hx : compX x = some x') (hy : compX i = some i') (ho : o.op = .index t x i)
    (ht : VRL φ ts a.tmps.toList) (hh : HR φ B H w) (he : evalOp (.ixa n ti.agg ti.size x' i') ts H = some (v, H')) : Done P φ B H w (execOp a.eval o) v H' := by
  have h1 := compX_ok hx ht
  have h2 := compX_ok hy ht
  simp only [evalOp] at he
  split at he
  · rename_i cs e1
    split at he
    · rename_i kk k e2
      split at he
      · rename_i hb
        split at he
        · rename_i v' hv'
          cases he
          rw [e1] at h1; rw [e2] at h2
          generalize hp : a.eval x = p at h1
          generalize hq : a.eval i = q at h2
          simp only [Nat.blt_eq] at hb
          cases h2
          cases h1 with
          | agg hv =>
            obtain ⟨u, hu', hr⟩ := hi.run_part w hv hv'
            refine Done.pure (u := u) ?_ hr hh
            simp only [execOp, ho, hp, hq]
            refine run_value ?_
            simp [Instr.index, asIntOf, run_underlying hu, hb, hi.run_sizeOf, hu']
        · cases he
      · cases he
    · cases he
  · cases he
/-! ### Slices -/
theorem compXo_ok {x : Option Operand} {y : Option X} (h : compXo x = some y) (ht : VRL φ ts a.tmps.toList) :
    (x = none ∧ y = none) ∨ ∃ x0 y0, x = some x0 ∧ y = some y0 ∧ VR φ (y0.ev ts) (a.eval x0) := by
  cases x with
  | none => simp [compXo] at h; exact .inl ⟨rfl, h.symm⟩
  | some x0 =>
    simp only [compXo] at h
    split at h
    · rename_i y0 hy; cases h; exact .inr ⟨x0, y0, rfl, rfl, compX_ok hy ht⟩
    · cases h
theorem run_sliceBound {s : SV} {lim n : Nat} {x : Value} {code : BoundsCode} (h : idx s lim = some n) (hx : VR φ s x) : (Instr.sliceBound x lim code).run P w = .ok n w := by
  obtain ⟨k, rfl, hn⟩ := idx_ok h hx
  simp [Instr.sliceBound, asIntOf, hn]
theorem idx_lim {s : SV} {lim lim' n : Nat} (h : idx s lim = some n) (hl : lim ≤ lim') : idx s lim' = some n := by
  unfold idx at *
  split at h
  · split at h
    · cases h
      rw [Nat.ble_eq_true_of_le (Nat.le_trans (Nat.le_of_ble_eq_true ‹_›) hl)]
    · cases h
  · cases h
theorem idxOpt_ok {x : Option Operand} {y : Option X} {dflt lim n : Nat} (hc : compXo x = some y) (ht : VRL φ ts a.tmps.toList) (h : idxOpt ts y dflt lim = some n) :
    (x = none ∧ n = dflt) ∨ ∃ x0 s, x = some x0 ∧ VR φ s (a.eval x0) ∧ idx s lim = some n := by
  rcases compXo_ok hc ht with ⟨rfl, rfl⟩ | ⟨x0, y0, rfl, rfl, hr⟩
  · simp [idxOpt] at h; exact .inl ⟨rfl, h.symm⟩
  · exact .inr ⟨x0, _, rfl, hr, h⟩
theorem run_sliceBounds2 {isSlice : Bool} {lo hi : Option Operand} {lo' hi' : Option X} {len cap lim h l : Nat} (hl : compXo lo = some lo') (hh' : compXo hi = some hi') (ht : VRL φ ts a.tmps.toList)
    (hlen : lim ≤ cap) (h1 : idxOpt ts hi' len lim = some h) (h2 : idxOpt ts lo' 0 h = some l) :
    (Instr.sliceBounds isSlice len cap (lo.map a.eval) (hi.map a.eval) none).run P w = .ok (l, h, cap) w := by
  have hb : (match hi.map a.eval with | some v => Instr.sliceBound v cap (if isSlice then .sliceAcap else .sliceAlen) | none => pure len : Sem Nat).run P w = .ok h w := by
    rcases idxOpt_ok hh' ht h1 with ⟨rfl, rfl⟩ | ⟨x0, s, rfl, hr, hi⟩
    · rfl
    · exact run_sliceBound (idx_lim hi hlen) hr
  have lb : (match lo.map a.eval with | some v => Instr.sliceBound v h .sliceB | none => pure 0 : Sem Nat).run P w = .ok l w := by
    rcases idxOpt_ok hl ht h2 with ⟨rfl, rfl⟩ | ⟨x0, s, rfl, hr, hi⟩
    · rfl
    · exact run_sliceBound hi hr
  cases hhi : hi.map a.eval with
  | none =>
    rw [hhi] at hb
    cases hlo : lo.map a.eval with
    | none =>
      rw [hlo] at lb
      simp only [Sem.run_pure, Result.ok.injEq, and_true] at hb lb
      subst hb lb
      rfl
    | some v =>
      rw [hlo] at lb
      simp only [Sem.run_pure, Result.ok.injEq, and_true] at hb
      subst hb
      simp [Instr.sliceBounds, lb]
  | some u =>
    rw [hhi] at hb
    cases hlo : lo.map a.eval with
    | none =>
      rw [hlo] at lb
      simp only [Sem.run_pure, Result.ok.injEq, and_true] at lb
      subst lb
      simp [Instr.sliceBounds, hb]
    | some v =>
      rw [hlo] at lb
      simp [Instr.sliceBounds, hb, lb]
theorem idxOpt_le {y : Option X} {dflt lim n : Nat} (h : idxOpt ts y dflt lim = some n) (hd : dflt ≤ lim) : n ≤ lim := by
  unfold idxOpt at h
  split at h
  · cases h; exact hd
  · unfold idx at h
    split at h
    · split at h
      · cases h; exact Nat.le_of_ble_eq_true ‹_›
      · cases h
    · cases h
theorem ok_sls {t : TypeId} {x : Operand} {lo hi : Option Operand} {x' : X} {lo' hi' : Option X} (hu : P.underlying t = some .string) (hx : compX x = some x') (hl : compXo lo = some lo') (hhi : compXo hi = some hi')
    (ho : o.op = .slice t x lo hi none) (ht : VRL φ ts a.tmps.toList) (hh : HR φ B H w) (he : evalOp (.sls lo' hi' x') ts H = some (v, H')) : Done P φ B H w (execOp a.eval o) v H' := by
  have h1 := compX_ok hx ht
  simp only [evalOp] at he
  split at he
  · rename_i s e1
    split at he
    · rename_i h eh
      split at he
      · rename_i l el
        cases he
        rw [e1] at h1
        generalize hp : a.eval x = p at h1
        cases h1 with
        | str hs =>
          rename_i t'
          have hsz : s.length = t'.size := by rw [hs, List.length_map, Array.length_toList]; rfl
          rw [hsz] at eh
          have hb := run_sliceBounds2 (P := P) (w := w) (isSlice := false) (len := t'.size) (cap := t'.size) hl hhi ht (Nat.le_refl _) eh el
          have hlh := idxOpt_le el (Nat.zero_le _)
          have hhs := idxOpt_le eh (Nat.le_refl _)
          refine Done.pure (u := .string (t'.extract l h)) ?_ (.str ?_) hh
          · simp only [execOp, ho, hp]
            refine run_value ?_
            simp only [Instr.sliceAt, Sem.run_bind, run_underlying hu, Result.andThen_ok, Instr.slice, Option.map_none, Option.isSome_none, Bool.false_eq_true, if_false]
            simp only [Sem.run_bind, hb, Result.andThen_ok, Sem.run_pure]
          · subst hs
            rw [ByteArray.data_extract, Array.toList_extract, List.extract, List.map_take, List.map_drop]
      · cases he
    · cases he
  · cases he
end
end Go.Sh
end
