/-
  Soundness of the shadow's operations, part 4: memory.
  Soundness of the shadow's operations, part 5: slices of slices, composites, make.
  Soundness of the shadow's operations, part 6: composites, make, conversions of strings.
  Soundness of the shadow's operations, part 7: append, copy, bytes and strings.
-/
import Derived.Test.YtnhogklhegmjhaaGreatDoorShA2
import Derived.Test.YtnhogklhegmjhaaGreatDoorShA1
import Derived.IntWalk
set_option linter.all false
section
namespace Go.Sh
open Go.RowKit (Below)
section
variable {P : Program} {φ : Emb} {B : Nat} {H H' : Heap} {w : World} {ts : T} {a : Act} {o : Oper} {v : SV}
theorem Done.mk {s : Sem Next} {u : Value} {w' : World} {φ' : Emb} (hn : H.next ≤ H'.next) (hle : φ.ext φ' H.next) (hr : s.run P w = .ok (.value u) w') (hv : VR φ' v u) (hh : HR φ' B H' w') (hb : Below B w w') : Done P φ B H w s v H' :=
  ⟨hn, φ', _, u, w', hle, hr, .inl rfl, hv, hh, hb⟩
theorem Done.skip {s : Sem Next} {w' : World} (hn : H.next ≤ H'.next) (hr : s.run P w = .ok .skip w') (hh : HR φ B H' w') (hb : Below B w w') : Done P φ B H w s .undef H' :=
  ⟨hn, φ, _, _, w', Emb.ext.refl φ _, hr, .inr ⟨rfl, rfl⟩, VR.undef φ, hh, hb⟩
theorem run_unit {w' : World} {s : Sem Unit} (h : s.run P w = .ok () w') : (do s; pure Next.skip : Sem Next).run P w = .ok .skip w' := by
  simp [h]
theorem ok_alloc {e : TypeId} {ti : TI} (hi : TIOk P e ti) (ho : o.op = .alloc e) (hh : HR φ B H w) (he : evalOp (.alloc ti.zero e) ts H = some (v, H')) : Done P φ B H w (execOp a.eval o) v H' := by
  simp only [evalOp, Option.some.injEq, Prod.mk.injEq] at he
  obtain ⟨rfl, rfl⟩ := he
  obtain ⟨z, hz, hr⟩ := hi.run_zeroValue w
  have hv : VRL φ ti.zero z.cells.toList := by rw [hi.zero]; exact (hz φ).cells
  obtain ⟨h1, h2⟩ := hh.alloc (e := e) (vs := z.cells) hv
  refine Done.mk (u := .pointer (some ⟨w.heap.size, 0, none⟩)) (Nat.le_succ _) (Emb.ext_ins hh.fresh) ?_ ?_ h1 h2
  · simp only [execOp, ho]
    refine run_value ?_
    simp [Instr.alloc, hr, newVar, newRow]
  · exact .ptr (l := ⟨w.heap.size, 0, z.cells.size, .bool false⟩) (Emb.ins_same _ _ _)
theorem ok_box {e : TypeId} {x : Operand} {y : X} (hc : compX x = some y) (ho : o.op = .box e x) (ht : VRL φ ts a.tmps.toList) (hh : HR φ B H w)
    (he : evalOp (.box e y) ts H = some (v, H')) : Done P φ B H w (execOp a.eval o) v H' := by
  have h0 := compX_ok hc ht
  simp only [evalOp, Option.some.injEq, Prod.mk.injEq] at he
  obtain ⟨rfl, rfl⟩ := he
  obtain ⟨h1, h2⟩ := hh.alloc (e := e) (vs := (a.eval x).cells) h0.cells
  refine Done.mk (u := .pointer (some ⟨w.heap.size, 0, none⟩)) (Nat.le_succ _) (Emb.ext_ins hh.fresh) ?_ ?_ h1 h2
  · simp only [execOp, ho]
    refine run_value ?_
    simp [Instr.box, newVar, newRow]
  · exact .ptr (l := ⟨w.heap.size, 0, (a.eval x).cells.size, .bool false⟩) (Emb.ins_same _ _ _)
theorem addr_add (b o n : Nat) : (⟨b, o, none⟩ : Addr).add n = ⟨b, o + n, none⟩ := by
  unfold Addr.add
  split
  · rename_i h; subst h; rfl
  · rfl
theorem ok_load {t : TypeId} {ti : TI} {x : Operand} {y : X} (hi : TIOk P t ti) (hc : compX x = some y) (ho : o.op = .load t x) (ht : VRL φ ts a.tmps.toList) (hh : HR φ B H w)
    (he : evalOp (.load ti.agg ti.size y) ts H = some (v, H')) : Done P φ B H w (execOp a.eval o) v H' := by
  have h0 := compX_ok hc ht
  simp only [evalOp] at he
  split at he
  · rename_i b off e1
    split at he
    · rename_i cs hcs
      rw [e1] at h0
      generalize hp : a.eval x = p at h0
      cases h0 with
      | ptr hl =>
        rename_i l
        obtain ⟨vs, hv, hlen, hcell, _⟩ := hh.load hl hcs
        cases hag : ti.agg with
        | true =>
          rw [hag] at he
          cases he
          refine Done.pure (u := .agg vs.toArray) ?_ (.agg (by simpa using hv)) hh
          simp only [execOp, ho, hp]
          refine run_value ?_
          have := run_loadCells_list (P := P) w ⟨l.rb, l.base + off, none⟩ vs (fun j u hu => by rw [addr_add]; exact hcell j u hu)
          rw [hlen] at this
          simp [Instr.loadAt, Instr.sureAddr, loadVar, hi.run_isAgg, hag, hi.run_sizeOf, this]
        | false =>
          rw [hag] at he
          dsimp only at he
          split at he
          · cases he
            cases hv with
            | cons hv0 ht0 =>
              rename_i u us
              have hu := hcell 0 u rfl
              refine Done.pure (u := u) ?_ hv0 hh
              simp only [execOp, ho, hp]
              refine run_value ?_
              simp only [Nat.add_zero] at hu
              simp [Instr.loadAt, Instr.sureAddr, loadVar, hi.run_isAgg, hag, hu]
          · cases he
    · cases he
  · cases he
theorem ok_store {t : TypeId} {ti : TI} {x y : Operand} {x' y' : X} (hi : TIOk P t ti) (hx : compX x = some x') (hy : compX y = some y') (ho : o.op = .store t x y) (ht : VRL φ ts a.tmps.toList) (hh : HR φ B H w)
    (he : evalOp (.store ti.size x' y') ts H = some (v, H')) : Done P φ B H w (execOp a.eval o) v H' := by
  have h0 := compX_ok hx ht
  have h1 := compX_ok hy ht
  simp only [evalOp] at he
  split at he
  · rename_i b off e1
    split at he
    · rename_i hlen
      split at he
      · rename_i H1 hst
        cases he
        rw [e1] at h0
        generalize hp : a.eval x = p at h0
        cases h0 with
        | ptr hl =>
          rename_i l
          have hv := h1.cells
          obtain ⟨g1, g2, g3, g4, g5⟩ := hh.store hl hst hv
          refine Done.skip (Nat.le_of_eq (storeC_next hst).symm) ?_ g4 g5
          simp only [execOp, ho, hp]
          refine run_unit ?_
          have hsz : (a.eval y).cells.size = ti.size := by
            have := hv.length
            rw [Nat.eq_of_beq_eq_true hlen] at this
            simpa using this.symm
          have hrun := run_storeCells_cells (P := P) l.rb (l.base + off) (a.eval y).cells.toList 0 w (by simpa using g1) (by simpa using g2) g3
          simp only [Nat.add_zero] at hrun
          simp [Instr.storeAt, Instr.sureAddr, storeVar, hsz, hi.run_sizeOf, hrun]
      · cases he
    · cases he
  · cases he
theorem ok_lens {t : TypeId} {x : Operand} {y : X} (hu : P.underlying t = some .string) (hc : compX x = some y)
    (ho : o.op = .call { callee := .builtin .len, args := #[x], argTypes := #[t] }) (ht : VRL φ ts a.tmps.toList) (hh : HR φ B H w)
    (he : evalOp (.lens y) ts H = some (v, H')) : Done P φ B H w (execOp a.eval o) v H' := by
  have h0 := compX_ok hc ht
  simp only [evalOp] at he
  split at he
  · rename_i s e1
    cases he
    rw [e1] at h0
    generalize hp : a.eval x = p at h0
    cases h0 with
    | str hs =>
      rename_i t'
      have hsz : s.length = t'.size := by rw [hs, List.length_map, Array.length_toList]; rfl
      refine Done.pure (u := goInt t'.size) ?_ ?_ hh
      · simp [execOp, ho, resolve, hp, invoke, builtin, Builtin.len_, run_underlying hu]
      · rw [hsz]; exact .int _ _
  · cases he
theorem ok_lenl {t e : TypeId} {x : Operand} {y : X} (hu : P.underlying t = some (.slice e)) (hc : compX x = some y)
    (ho : o.op = .call { callee := .builtin .len, args := #[x], argTypes := #[t] }) (ht : VRL φ ts a.tmps.toList) (hh : HR φ B H w)
    (he : evalOp (.lenl y) ts H = some (v, H')) : Done P φ B H w (execOp a.eval o) v H' := by
  have h0 := compX_ok hc ht
  simp only [evalOp] at he
  split at he
  · rename_i e1
    cases he
    rw [e1] at h0
    generalize hp : a.eval x = p at h0
    cases h0
    exact Done.pure (u := goInt 0) (by simp [execOp, ho, resolve, hp, invoke, builtin, Builtin.len_, run_underlying hu]) (.int _ _) hh
  · rename_i b off n c z e1
    cases he
    rw [e1] at h0
    generalize hp : a.eval x = p at h0
    cases h0
    · exact Done.pure (u := goInt n) (by simp [execOp, ho, resolve, hp, invoke, builtin, Builtin.len_, run_underlying hu]) (.int _ _) hh
    · exact Done.pure (u := goInt 0) (by simp [execOp, ho, resolve, hp, invoke, builtin, Builtin.len_, run_underlying hu]) (.int _ _) hh
  · cases he
theorem ok_lenm {t k e : TypeId} {x : Operand} {y : X} (hu : P.underlying t = some (.map k e)) (hc : compX x = some y)
    (ho : o.op = .call { callee := .builtin .len, args := #[x], argTypes := #[t] }) (ht : VRL φ ts a.tmps.toList) (hh : HR φ B H w)
    (he : evalOp (.lenm y) ts H = some (v, H')) : Done P φ B H w (execOp a.eval o) v H' := by
  have h0 := compX_ok hc ht
  simp only [evalOp] at he
  split at he
  · rename_i e1
    cases he
    rw [e1] at h0
    generalize hp : a.eval x = p at h0
    cases h0
    exact Done.pure (u := goInt 0) (by simp [execOp, ho, resolve, hp, invoke, builtin, Builtin.len_, run_underlying hu]) (.int _ _) hh
  · rename_i b e1
    split at he
    · rename_i es ck hg
      cases he
      rw [e1] at h0
      generalize hp : a.eval x = p at h0
      cases h0 with
      | map hl =>
        rename_i l
        have hobj := hh.obj b l hl
        rw [hg] at hobj
        cases hobj with
        | map hb hlen hcc hB =>
          rename_i es'
          refine Done.pure (u := goInt es'.size) ?_ ?_ hh
          · simp [execOp, ho, resolve, hp, invoke, builtin, Builtin.len_, run_underlying hu, getObj, Sem.run, hb]
          · rw [hlen]; exact .int _ _
    · cases he
  · cases he
theorem ok_lenk {t e : TypeId} {n : Nat} {x : Operand} (hu : P.underlying t = some (.array n e))
    (ho : o.op = .call { callee := .builtin .len, args := #[x], argTypes := #[t] }) (hh : HR φ B H w)
    (he : evalOp (.lenk n) ts H = some (v, H')) : Done P φ B H w (execOp a.eval o) v H' := by
  simp only [evalOp, Option.some.injEq, Prod.mk.injEq] at he
  obtain ⟨rfl, rfl⟩ := he
  refine Done.pure (u := goInt n) ?_ (.int _ _) hh
  simp only [execOp, ho, resolve, invoke, builtin, Builtin.len_]
  generalize a.eval x = p
  cases p <;> simp [run_underlying hu]
theorem run_minmax {isMax : Bool} : ∀ {xs : List SV} {vs : List Value} {x v : SV} {u : Value}, minmax isMax x xs = some v → VR φ x u → VRL φ xs vs →
    ∃ r, (vs.foldlM (if isMax then Builtin.max2 else Builtin.min2) u).run P w = .ok r w ∧ VR φ v r
  | [], _, x, v, u, h, hx, .nil => by
    simp only [minmax, Option.some.injEq] at h
    subst h
    exact ⟨u, by simp, hx⟩
  | y :: ys, _, x, v, u, h, hx, .cons (v := u2) (vs := us) h2 hr => by
    unfold minmax at h
    split at h
    · rename_i he; cases he
    · rename_i k a k' b rest he1 he2
      cases he2
      split at h
      · rename_i hk
        subst hk
        cases hx; cases h2
        cases isMax with
        | true =>
          obtain ⟨r, hr1, hr2⟩ := run_minmax (isMax := true) h (.int _ _) hr
          refine ⟨r, ?_, hr2⟩
          simp only [if_true] at hr1 ⊢
          simp [List.foldlM_cons, Builtin.max2, hr1]
        | false =>
          obtain ⟨r, hr1, hr2⟩ := run_minmax (isMax := false) h (.int _ _) hr
          refine ⟨r, ?_, hr2⟩
          simp only [Bool.false_eq_true, if_false] at hr1 ⊢
          simp [List.foldlM_cons, Builtin.min2, hr1]
      · cases h
    · cases h
theorem ok_mnx {isMax : Bool} {args : Array Operand} {ats : Array TypeId} {ys : List X} (hc : compXs args = some ys)
    (ho : o.op = .call { callee := .builtin (if isMax then .max else .min), args := args, argTypes := ats }) (ht : VRL φ ts a.tmps.toList) (hh : HR φ B H w)
    (he : evalOp (.mnx isMax ys) ts H = some (v, H')) : Done P φ B H w (execOp a.eval o) v H' := by
  have h0 := compXs_ok hc ht
  simp only [evalOp] at he
  split at he
  · cases he
  · rename_i x rest e1
    split at he
    · rename_i v' hv'
      cases he
      rw [e1] at h0
      generalize hp : (args.map a.eval).toList = l at h0
      cases h0 with
      | cons h1 h2 =>
        obtain ⟨r, hr1, hr2⟩ := run_minmax (P := P) (w := w) hv' h1 h2
        refine Done.pure (u := r) ?_ hr2 hh
        cases isMax with
        | true =>
          simp only [if_true] at hr1 ho
          simp [execOp, ho, resolve, invoke, builtin, Builtin.max_, -Array.toList_map, hp, hr1]
        | false =>
          simp only [Bool.false_eq_true, if_false] at hr1 ho
          simp [execOp, ho, resolve, invoke, builtin, Builtin.min_, -Array.toList_map, hp, hr1]
    · cases he
end
end Go.Sh
end
section
namespace Go.Sh
open Go.RowKit (Below)
section
variable {P : Program} {φ : Emb} {B : Nat} {H H' : Heap} {w : World} {ts : T} {a : Act} {o : Oper} {v : SV}
theorem run_sliceBounds3 {lo hi : Option Operand} {mx : Operand} {lo' : Option X} {hi' : Option X} {sm : SV} {len cap lim m h l : Nat} (hl : compXo lo = some lo') (hh' : compXo hi = some hi') (ht : VRL φ ts a.tmps.toList)
    (hm : VR φ sm (a.eval mx)) (hlim : lim ≤ cap) (hmx : idx sm lim = some m) (hne : ∃ h0, hi = some h0) (h1 : idxOpt ts hi' len m = some h) (h2 : idxOpt ts lo' 0 h = some l) :
    (Instr.sliceBounds true len cap (lo.map a.eval) (hi.map a.eval) (some (a.eval mx))).run P w = .ok (l, h, m) w := by
  obtain ⟨h0, rfl⟩ := hne
  have mb : (Instr.sliceBound (a.eval mx) cap .slice3Acap).run P w = .ok m w := run_sliceBound (idx_lim hmx hlim) hm
  have hb : (Instr.sliceBound (a.eval h0) m .slice3B).run P w = .ok h w := by
    rcases idxOpt_ok hh' ht h1 with ⟨e, _⟩ | ⟨x0, s, e, hr, hi⟩
    · cases e
    · cases e; exact run_sliceBound hi hr
  rcases idxOpt_ok hl ht h2 with ⟨rfl, rfl⟩ | ⟨x0, s, rfl, hr, hi⟩
  · simp [Instr.sliceBounds, mb, hb]
  · have lb : (Instr.sliceBound (a.eval x0) h .slice3C).run P w = .ok l w := run_sliceBound hi hr
    simp [Instr.sliceBounds, mb, hb, lb]
theorem vr_reslice {b off n z cap l h : Nat} {c : Option Nat} {u : Option Addr} (hv : VR φ (.slice b off n c z) (.slice u n cap)) (hlh : l ≤ h) (m : Option Nat) (M : Nat)
    (hm : (∃ k, m = some k ∧ M = k ∧ k ≤ cap ∧ (c = none → k ≤ n)) ∨ (m = none ∧ c = none ∧ M = cap)) (hhm : h ≤ M) (hn : m = none → h ≤ n) :
    VR φ (resl b off z l h m) (.slice (if M = l then u else u.map (·.add (l * z))) (h - l) (M - l)) := by
  unfold resl
  rcases hm with ⟨k, rfl, hM, hk, hc0⟩ | ⟨rfl, rfl, hM⟩
  · subst hM
    by_cases e : M = l
    · subst e
      have : Nat.beq M M = true := by simp
      simp only [this, if_true]
      have hz : h - M = 0 := by omega
      rw [hz, Nat.sub_self]
      cases hv with
      | slice hl hc hn' htot =>
        exact .slice hl (fun j hj => by cases hj; rfl) (Nat.le_refl _) (by omega)
      | slice0 hc => exact .slice0 (fun j hj => by cases hj; rfl)
    · have hb : Nat.beq M l = false := by
        cases hq : Nat.beq M l with
        | true => exact absurd (Nat.eq_of_beq_eq_true hq) e
        | false => rfl
      simp only [hb, if_neg e]
      cases hv with
      | slice hl hc hn' htot =>
        rename_i L
        have hle : L.base + (off + l * z) + (M - l) * z ≤ L.tot := by
          have h1 : l * z + (M - l) * z = M * z := by rw [← Nat.add_mul]; congr 1; omega
          have h2 := Nat.mul_le_mul_right z hk
          omega
        have := VR.slice (φ := φ) (b := b) (o := off + l * z) (n := h - l) (z := z) (cap := M - l) (c := some (M - l)) hl (fun j hj => by cases hj; rfl) (by omega) hle
        simpa [addr_add, Nat.add_assoc] using this
      | slice0 hc => omega
  · subst hM
    by_cases e : M = l
    · subst e
      simp only [if_true]
      have := hn rfl
      have hz : h - M = 0 := by omega
      rw [hz, Nat.sub_self]
      cases hv with
      | slice hl hc hn' htot => exact .slice0 (fun j hj => by cases hj)
      | slice0 hc => exact .slice0 (fun j hj => by cases hj)
    · simp only [if_neg e]
      cases hv with
      | slice hl hc hn' htot =>
        rename_i L
        have hle : L.base + (off + l * z) + (M - l) * z ≤ L.tot := by
          have h1 : l * z + (M - l) * z = M * z := by rw [← Nat.add_mul]; congr 1; omega
          omega
        have := VR.slice (φ := φ) (b := b) (o := off + l * z) (n := h - l) (z := z) (cap := M - l) (c := none) hl (fun j hj => by cases hj) (by omega) hle
        simpa [addr_add, Nat.add_assoc] using this
      | slice0 hc => omega
theorem VR.slice_inv {b off n z : Nat} {c : Option Nat} {u : Value} (hv : VR φ (.slice b off n c z) u) : ∃ ad cap, u = .slice (some ad) n cap ∧ n ≤ cap ∧ (∀ k, c = some k → cap = k ∨ (n = 0 ∧ cap = 0 ∧ k = 0)) := by
  cases hv with
  | slice hl hc hn ht => exact ⟨_, _, rfl, hn, fun k hk => .inl (hc k hk)⟩
  | slice0 hc => exact ⟨_, _, rfl, Nat.le_refl _, fun k hk => .inr ⟨rfl, rfl, hc k hk⟩⟩
theorem ok_slv {t e : TypeId} {ti : TI} {x : Operand} {lo hi mx : Option Operand} {x' : X} {lo' hi' mx' : Option X} (hu : P.underlying t = some (.slice e)) (hti : TIOk P e ti) (hx : compX x = some x')
    (hlo : compXo lo = some lo') (hhi : compXo hi = some hi') (hmx : compXo mx = some mx') (hne : mx ≠ none → ∃ h0, hi = some h0)
    (ho : o.op = .slice t x lo hi mx) (ht : VRL φ ts a.tmps.toList) (hh : HR φ B H w) (he : evalOp (.slv ti.size lo' hi' mx' x') ts H = some (v, H')) : Done P φ B H w (execOp a.eval o) v H' := by
  have h1 := compX_ok hx ht
  have hrun : ∀ (u : Option Addr) (n cap l h M : Nat), a.eval x = .slice u n cap → (Instr.sliceBounds true n cap (lo.map a.eval) (hi.map a.eval) (mx.map a.eval)).run P w = .ok (l, h, M) w →
      (execOp a.eval o).run P w = .ok (.value (.slice (if M = l then u else u.map (·.add (l * ti.size))) (h - l) (M - l))) w := by
    intro u n cap l h M hp hb
    simp only [execOp, ho, hp]
    refine run_value ?_
    simp only [Instr.sliceAt, Sem.run_bind, run_underlying hu, Result.andThen_ok, Instr.slice, hb, hti.run_sizeOf, Sem.run_pure]
  simp only [evalOp] at he
  split at he
  · rename_i e1
    cases hm : idxOpt ts mx' 0 0 with
    | none => simp [hm] at he
    | some m =>
      cases hhh : idxOpt ts hi' 0 0 with
      | none => simp [hm, hhh] at he
      | some h =>
        cases hll : idxOpt ts lo' 0 0 with
        | none => simp [hm, hhh, hll] at he
        | some l =>
          simp only [hm, hhh, hll, Option.some.injEq, Prod.mk.injEq] at he
          obtain ⟨rfl, rfl⟩ := he
          rw [e1] at h1
          generalize hp : a.eval x = p at h1
          cases h1
          have key : ∀ (y : Option X) (k : Nat), idxOpt ts y 0 0 = some k → k = 0 := fun y k hk => Nat.le_zero.1 (idxOpt_le hk (Nat.le_refl _))
          have e2 := key _ _ hhh
          have e3 := key _ _ hll
          have e4 := key _ _ hm
          subst e2 e3 e4
          have hb : (Instr.sliceBounds true 0 0 (lo.map a.eval) (hi.map a.eval) (mx.map a.eval)).run P w = .ok (0, 0, 0) w := by
            rcases compXo_ok hmx ht with ⟨rfl, rfl⟩ | ⟨x0, y0, rfl, rfl, hr⟩
            · exact run_sliceBounds2 hlo hhi ht (Nat.le_refl _) hhh hll
            · exact run_sliceBounds3 (lim := 0) hlo hhi ht hr (Nat.le_refl _) hm (hne (by simp)) hhh hll
          exact Done.pure (hrun none 0 0 0 0 0 hp hb) (by simpa using VR.nils) hh
  · rename_i b off n c z e1
    split at he
    · cases he
    · rename_i hz
      have hz' := Nat.eq_of_beq_eq_true hz
      rw [e1] at h1
      obtain ⟨ad, cap, hp, hncap, hcap⟩ := h1.slice_inv
      rw [hp] at h1
      subst hz'
      cases hmm : mxS ts mx' c n with
      | none => rw [hmm] at he; cases he
      | some mm =>
        rw [hmm] at he
        dsimp only at he
        cases hhh : idxOpt ts hi' n (limS mm n) with
        | none => rw [hhh] at he; cases he
        | some h =>
          rw [hhh] at he
          dsimp only at he
          cases hll : idxOpt ts lo' 0 h with
          | none => rw [hll] at he; cases he
          | some l =>
            rw [hll] at he
            simp only [Option.some.injEq, Prod.mk.injEq] at he
            obtain ⟨rfl, rfl⟩ := he
            have hlh : l ≤ h := idxOpt_le hll (Nat.zero_le _)
            have hlim : limS c n ≤ cap := by
              cases c with
              | none => exact hncap
              | some k => rcases hcap k rfl with h | ⟨_, h1, h2⟩ <;> simp [limS] <;> omega
            have hnlim : n ≤ limS c n := by
              cases c with
              | none => exact Nat.le_refl _
              | some k => rcases hcap k rfl with h | ⟨h0, h1, h2⟩ <;> simp [limS] <;> omega
            rcases compXo_ok hmx ht with ⟨rfl, rfl⟩ | ⟨x0, y0, rfl, rfl, hr⟩
            · -- no third index
              simp only [mxS, Option.some.injEq] at hmm
              subst hmm
              have hb := run_sliceBounds2 (P := P) (w := w) (isSlice := true) (len := n) (cap := cap) hlo hhi ht hlim hhh hll
              have hle : h ≤ limS c n := idxOpt_le hhh hnlim
              exact Done.pure (hrun _ _ _ _ _ _ hp hb) (vr_reslice (φ := φ) h1 hlh c cap (by
                cases c with
                | none => exact .inr ⟨rfl, rfl, rfl⟩
                | some k => exact .inl ⟨k, rfl, by rcases hcap k rfl with h | ⟨_, h1, h2⟩ <;> omega, by rcases hcap k rfl with h | ⟨_, h1, h2⟩ <;> omega, fun h => by cases h⟩) (Nat.le_trans hle hlim)
                (fun hc => by subst hc; exact hle)) hh
            · -- a third index
              simp only [mxS] at hmm
              cases hk : idx (y0.ev ts) (limS c n) with
              | none => rw [hk] at hmm; cases hmm
              | some k =>
                rw [hk] at hmm
                cases hmm
                have hb := run_sliceBounds3 (P := P) (w := w) (len := n) (cap := cap) hlo hhi ht hr hlim hk (hne (by simp)) hhh hll
                have hkl : k ≤ limS c n := (idx_ok hk hr).elim fun _ h => h.2
                have hhk : h ≤ k := by
                  obtain ⟨h0, hh0⟩ := hne (by simp)
                  rcases idxOpt_ok hhi ht hhh with ⟨e2, _⟩ | ⟨x1, s, _, hr1, hi1⟩
                  · rw [hh0] at e2; cases e2
                  · exact (idx_ok hi1 hr1).elim fun _ h => h.2
                exact Done.pure (hrun _ _ _ _ _ _ hp hb) (vr_reslice (φ := φ) h1 hlh (some k) k (.inl ⟨k, rfl, rfl, Nat.le_trans hkl hlim, fun hc => by subst hc; exact hkl⟩) hhk (fun hc => by cases hc)) hh
  · cases he
theorem ok_sla {t e : TypeId} {n : Nat} {ti : TI} {x : Operand} {lo hi : Option Operand} {x' : X} {lo' hi' : Option X} (hu : P.underlying t = some (.array n e)) (hti : TIOk P e ti) (hx : compX x = some x')
    (hlo : compXo lo = some lo') (hhi : compXo hi = some hi')
    (ho : o.op = .slice t x lo hi none) (ht : VRL φ ts a.tmps.toList) (hh : HR φ B H w)
    (he : evalOp (.sla n ti.size lo' hi' x') ts H = some (v, H')) : Done P φ B H w (execOp a.eval o) v H' := by
  have h1 := compX_ok hx ht
  simp only [evalOp] at he
  split at he
  · rename_i b off e1
    cases hld : loadC H b off (n * ti.size) with
    | none => rw [hld] at he; cases he
    | some cs0 =>
      rw [hld] at he
      dsimp only at he
      cases hhh : idxOpt ts hi' n n with
      | none => rw [hhh] at he; cases he
      | some h =>
        rw [hhh] at he
        dsimp only at he
        cases hll : idxOpt ts lo' 0 h with
        | none => rw [hll] at he; cases he
        | some l =>
          rw [hll] at he
          simp only [Option.some.injEq, Prod.mk.injEq] at he
          obtain ⟨rfl, rfl⟩ := he
          have hlh : l ≤ h := idxOpt_le hll (Nat.zero_le _)
          have hhn : h ≤ n := idxOpt_le hhh (Nat.le_refl _)
          have hb := run_sliceBounds2 (P := P) (w := w) (isSlice := false) (len := n) (cap := n) hlo hhi ht (Nat.le_refl _) hhh hll
          rw [e1] at h1
          generalize hp : a.eval x = p at h1
          cases h1 with
          | ptr hl =>
            rename_i L
            obtain ⟨_, _, _, _, hrm⟩ := hh.load hl hld
            have hv : VR φ (.slice b off n (some n) ti.size) (.slice (some ⟨L.rb, L.base + off, none⟩) n n) := .slice hl (fun k hk => by cases hk; rfl) (Nat.le_refl _) hrm
            have hkey := vr_reslice hv hlh (some n) n (.inl ⟨n, rfl, rfl, Nat.le_refl _, fun hc => by cases hc⟩) hhn (fun hc => by cases hc)
            have hrun : (execOp a.eval o).run P w = .ok (.value (.slice (if n = l then some ⟨L.rb, L.base + off, none⟩ else (some (⟨L.rb, L.base + off, none⟩ : Addr)).map (·.add (l * ti.size))) (h - l) (n - l))) w := by
              simp only [execOp, ho, hp]
              refine run_value ?_
              simp only [Instr.sliceAt, Sem.run_bind, run_underlying hu, Result.andThen_ok, Instr.sureAddr, Sem.run_pure, hti.run_sizeOf, Option.map_none, hb]
              split <;> rfl
            exact Done.pure (H := H) hrun hkey hh
  · cases he
end
end Go.Sh
end
section
namespace Go.Sh
open Go.RowKit (Below)
theorem setL_toList (vs : List Value) (C : Array Value) (o : Nat) (h : o + vs.length ≤ C.size) : (setL C o vs).toList = C.toList.take o ++ (vs ++ C.toList.drop (o + vs.length)) := by
  apply List.ext_getElem?
  intro i
  have hlen : (C.toList.take o).length = o := by rw [List.length_take, Array.length_toList (xs := C)]; omega
  rw [Array.getElem?_toList, setL_get vs C o i h, List.getElem?_append, hlen]
  by_cases h1 : i < o
  · rw [if_neg (by omega), if_pos h1, List.getElem?_take, if_pos h1, Array.getElem?_toList]
  · rw [if_neg h1, List.getElem?_append]
    by_cases h2 : i - o < vs.length
    · rw [if_pos (by omega), if_pos h2]
    · rw [if_neg (by omega), if_neg h2, List.getElem?_drop, Array.getElem?_toList]
      congr 1; omega
theorem fold_setL (off : Nat) : ∀ (l : List Value) (k : Nat) (C : Array Value), (l.zipIdx k).foldl (fun cs (p : Value × Nat) => cs.setIfInBounds (off + p.2) p.1) C = setL C (off + k) l
  | [], k, C => rfl
  | v :: r, k, C => by
    simp only [List.zipIdx_cons, List.foldl_cons, setL]
    rw [fold_setL off r (k + 1)]
    congr 1
theorem VRL.splice {φ : Emb} {cs vs : List SV} {C : Array Value} {us : List Value} {off : Nat} (h : VRL φ cs C.toList) (k : VRL φ vs us) (hf : off + us.length ≤ C.size) : VRL φ (splice cs off vs) (setL C off us).toList := by
  rw [setL_toList us C off hf, ← k.length]
  exact (h.take off).append (k.append (h.drop _))
section
variable {P : Program} {φ : Emb} {B : Nat} {H H' : Heap} {w : World} {ts : T} {a : Act} {o : Oper} {v : SV}
inductive PL (place : Nat → Option (Nat × Nat)) : List (Nat × Operand) → List (Nat × Nat × X) → Prop where
  | nil : PL place [] []
  | cons {i : Nat} {x : Operand} {off size : Nat} {y : X} {L : List (Nat × Operand)} {ps : List (Nat × Nat × X)} (h : place i = some (off, size)) (hc : compX x = some y) (t : PL place L ps) : PL place ((i, x) :: L) ((off, size, y) :: ps)
theorem run_fill {place : Nat → Option (Nat × Nat)} (ht : VRL φ ts a.tmps.toList) : ∀ {L : List (Nat × Operand)} {ps : List (Nat × Nat × X)} {cs cs' : List SV} {C : Array Value}, PL place L ps → VRL φ cs C.toList →
    fillS ts cs ps = some cs' → ∃ C', Instr.fill place C (L.map fun p => (p.1, a.eval p.2)) = some C' ∧ VRL φ cs' C'.toList
  | _, _, cs, cs', C, .nil, hv, hf => by
    simp only [fillS, Option.some.injEq] at hf
    subst hf
    exact ⟨C, rfl, hv⟩
  | _, _, cs, cs', C, .cons (i := i) (x := x) (off := off) (size := size) (y := y) (L := L) hp hc t, hv, hf => by
    simp only [fillS] at hf
    split at hf
    · rename_i hb
      simp only [Bool.and_eq_true] at hb
      have hr := (compX_ok hc ht).cells
      have e1 : (y.ev ts).cells.length = size := Nat.eq_of_beq_eq_true hb.1
      have e2 := Nat.le_of_ble_eq_true hb.2
      have e3 : (a.eval x).cells.size = size := by have := hr.length; simp only [Array.length_toList] at this; omega
      have e4 : C.size = cs.length := by have := hv.length; simp only [Array.length_toList] at this; omega
      have hv' := hv.splice (off := off) hr (by simp only [Array.length_toList]; omega)
      obtain ⟨C', hC, hr'⟩ := run_fill ht t hv' hf
      refine ⟨C', ?_, hr'⟩
      simp only [List.map_cons, Instr.fill, hp]
      rw [if_neg (by simp; omega)]
      rw [← hC]
      congr 1
      rw [← Array.foldl_toList, Array.toList_zipIdx, fold_setL off _ 0]
      rfl
    · cases hf
theorem run_mapFields (P : Program) (w : World) : ∀ (fs : List Field), (fs.all fun f => (P.info? f.type).isSome) = true →
    (fs.mapM fun f => do pure (f.offset, ← sizeOf f.type) : Sem (List (Nat × Nat))).run P w = .ok (fs.map fun f => (f.offset, P.cellsOf f.type)) w
  | [], _ => rfl
  | f :: fs, h => by
    simp only [List.all_cons, Bool.and_eq_true] at h
    obtain ⟨j, hj⟩ := Option.isSome_iff_exists.1 h.1
    have ih := run_mapFields P w fs h.2
    simp only [List.mapM_cons, Sem.run_bind, run_sizeOf w hj, Result.andThen_ok, Sem.run_pure, ih, List.map_cons]
theorem placesS_ok {fs : Array Field} : ∀ {L : List (Nat × Operand)} {ps : List (Nat × Nat × X)}, placesS P fs L = some ps → PL (fun i : Nat => (fs.map fun f => (f.offset, P.cellsOf f.type))[i]?) L ps
  | [], ps, h => by simp [placesS] at h; subst h; exact .nil
  | (i, x) :: L, ps, h => by
    simp only [placesS] at h
    split at h
    · cases h
    · rename_i f hf
      split at h
      · rename_i j y r hj hy hr
        cases h
        refine .cons ?_ hy (placesS_ok hr)
        simp [hf, Program.cellsOf, hj]
      · cases h
theorem placesA_ok {size : Nat} : ∀ {L : List (Nat × Operand)} {ps : List (Nat × Nat × X)}, placesA size L = some ps → PL (fun i => some (i * size, size)) L ps
  | [], ps, h => by simp [placesA] at h; subst h; exact .nil
  | (i, x) :: L, ps, h => by
    simp only [placesA] at h
    split at h
    · rename_i y r hy hr
      cases h
      exact .cons rfl hy (placesA_ok hr)
    · cases h
theorem ok_build {t : TypeId} {ti : TI} {fs : Array Field} {parts : Array (Nat × Operand)} {ps : List (Nat × Nat × X)} (hi : TIOk P t ti) (hu : P.underlying t = some (.struct fs)) (hp : placesS P fs parts.toList = some ps)
    (hall : (fs.toList.all fun f => (P.info? f.type).isSome) = true) (ho : o.op = .build t parts) (ht : VRL φ ts a.tmps.toList) (hh : HR φ B H w) (he : evalOp (.build ti.zero ps) ts H = some (v, H')) :
    Done P φ B H w (execOp a.eval o) v H' := by
  simp only [evalOp] at he
  split at he
  · rename_i cs hf
    cases he
    obtain ⟨z, hz, hr⟩ := hi.run_zeroValue w
    have hv : VRL φ ti.zero z.cells.toList := by rw [hi.zero]; exact (hz φ).cells
    obtain ⟨C, hC, hvC⟩ := run_fill (φ := φ) ht (placesS_ok hp) hv hf
    refine Done.pure (u := .agg C) ?_ (.agg hvC) hh
    simp only [execOp, ho]
    refine run_value ?_
    have hm := run_mapFields P w fs.toList hall
    have hlist : (parts.map fun (i, x) => (i, a.eval x)).toList = parts.toList.map fun p => (p.1, a.eval p.2) := by simp
    simp only [Instr.build, Sem.run_bind, hr, Result.andThen_ok, run_underlying hu, Array.mapM_eq_mapM_toList, Sem.run_map, hm]
    have hpl : ∀ i : Nat, (fs.toList.map fun f => (f.offset, P.cellsOf f.type)).toArray[i]? = (fs.map fun f => (f.offset, P.cellsOf f.type))[i]? := by intro i; simp
    simp only [hpl, hlist, hC, Sem.run_pure]
  · cases he
theorem ok_buildA {t e : TypeId} {n : Nat} {ti : TI} {j : TypeInfo} {parts : Array (Nat × Operand)} {ps : List (Nat × Nat × X)} (hi : TIOk P t ti) (hu : P.underlying t = some (.array n e)) (hj : P.info? e = some j) (hp : placesA j.size parts.toList = some ps)
    (ho : o.op = .build t parts) (ht : VRL φ ts a.tmps.toList) (hh : HR φ B H w) (he : evalOp (.build ti.zero ps) ts H = some (v, H')) :
    Done P φ B H w (execOp a.eval o) v H' := by
  simp only [evalOp] at he
  split at he
  · rename_i cs hf
    cases he
    obtain ⟨z, hz, hr⟩ := hi.run_zeroValue w
    have hv : VRL φ ti.zero z.cells.toList := by rw [hi.zero]; exact (hz φ).cells
    obtain ⟨C, hC, hvC⟩ := run_fill (φ := φ) ht (placesA_ok hp) hv hf
    refine Done.pure (u := .agg C) ?_ (.agg hvC) hh
    simp only [execOp, ho]
    refine run_value ?_
    have hlist : (parts.map fun (i, x) => (i, a.eval x)).toList = parts.toList.map fun p => (p.1, a.eval p.2) := by simp
    have hs : (sizeOf e).run P w = .ok j.size w := by simp [sizeOf, typeInfo, hj]
    simp only [Instr.build, Sem.run_bind, hr, Result.andThen_ok, run_underlying hu, hs, hlist, hC, Sem.run_pure]
  · cases he
theorem flatten_replicate_get {α : Type} (l : List α) (hl : 0 < l.length) : ∀ (n i : Nat), (List.replicate n l).flatten[i]? = if i < n * l.length then l[i % l.length]? else none
  | 0, i => by simp
  | n + 1, i => by
    rw [List.replicate_succ, List.flatten_cons, List.getElem?_append]
    split
    · rename_i h
      rw [if_pos (by rw [Nat.succ_mul]; omega), Nat.mod_eq_of_lt h]
    · rename_i h
      rw [flatten_replicate_get l hl n (i - l.length)]
      have e : (i - l.length) % l.length = i % l.length := by
        rw [Nat.mod_eq_sub_mod (a := i) (by omega)]
      rw [e]
      by_cases h2 : i - l.length < n * l.length
      · rw [if_pos h2, if_pos (by rw [Nat.succ_mul]; omega)]
      · rw [if_neg h2, if_neg (by rw [Nat.succ_mul]; omega)]
theorem VRL.repeat {zs : List SV} {z : Array Value} (h : VRL φ zs z.toList) (hp : 0 < zs.length) (n : Nat) : VRL φ (List.replicate n zs).flatten ((Array.range (n * zs.length)).map (z[· % z.size]!)).toList := by
  have hs : z.size = zs.length := by have := h.length; simp only [Array.length_toList] at this; omega
  refine VRL.mk (by simp [List.length_flatten]) fun i x hx => ?_
  rw [flatten_replicate_get zs hp] at hx
  split at hx
  · rename_i hi
    obtain ⟨u, hu, hr⟩ := h.get _ _ hx
    refine ⟨u, ?_, hr⟩
    simp only [Array.getElem?_toList] at hu ⊢
    rw [Array.getElem?_map, Array.getElem?_range, if_pos hi, Option.map_some, hs]
    rw [getElem!_def, hu]
  · cases hx
theorem ok_bslice {t e : TypeId} {len : Nat} {ti : TI} {parts : Array (Nat × Operand)} {ps : List (Nat × Nat × X)} (hi : TIOk P e ti) (hu : P.underlying t = some (.slice e)) (hp : placesA ti.size parts.toList = some ps)
    (hroom : len * ti.size ≤ 16777216) (ho : o.op = .buildSlice t len parts) (ht : VRL φ ts a.tmps.toList) (hh : HR φ B H w)
    (he : evalOp (.bslice e ti.size len (List.replicate len ti.zero).flatten ps) ts H = some (v, H')) :
    Done P φ B H w (execOp a.eval o) v H' := by
  simp only [evalOp] at he
  split at he
  · rename_i cs hf
    cases he
    obtain ⟨z, hz, hr⟩ := hi.run_zeroValue w
    have hv0 : VRL φ ti.zero z.cells.toList := by rw [hi.zero]; exact (hz φ).cells
    have hv := hv0.repeat (by rw [hi.len]; exact hi.pos) len
    rw [hi.len] at hv
    obtain ⟨C, hC, hvC⟩ := run_fill (φ := φ) ht (placesA_ok hp) hv hf
    obtain ⟨h1, h2⟩ := hh.alloc (e := e) (vs := C) hvC
    have hClen : C.size = cs.length := by have := hvC.length; simp only [Array.length_toList] at this; omega
    have hcslen : ∀ (ps : List (Nat × Nat × X)) (c c' : List SV), fillS ts c ps = some c' → c'.length = c.length := by
      intro ps
      induction ps with
      | nil => intro c c' h; simp [fillS] at h; rw [h]
      | cons p ps ih =>
        intro c c' h
        obtain ⟨off, sz, x⟩ := p
        simp only [fillS] at h
        split at h
        · rename_i hb
          simp only [Bool.and_eq_true] at hb
          have e2 := Nat.le_of_ble_eq_true hb.2
          rw [ih _ _ h]
          simp [splice]
          omega
        · cases h
    have hl2 := hcslen _ _ _ hf
    refine Done.mk (u := .slice (some ⟨w.heap.size, 0, none⟩) len len) (Nat.le_succ _) (Emb.ext_ins hh.fresh) ?_ ?_ h1 h2
    · simp only [execOp, ho]
      refine run_value ?_
      have hlist : (parts.map fun (i, x) => (i, a.eval x)).toList = parts.toList.map fun p => (p.1, a.eval p.2) := by simp
      have hn : ¬ (len * ti.size > 2 ^ 24) := by omega
      simp only [Instr.buildSlice, Sem.run_bind, run_underlying hu, Result.andThen_ok, hi.run_sizeOf, if_neg hn]
      by_cases hz0 : len * ti.size = 0
      · have hC' : Instr.fill (fun i => some (i * ti.size, ti.size)) ((Array.range (len * ti.size)).map (fun x => (#[] : Array Value)[x % 0]!)) (parts.toList.map fun p => (p.1, a.eval p.2)) = some C := by
          have hemp : ∀ f : Nat → Value, (Array.range 0).map f = #[] := fun f => by simp
          rw [← hC, hz0, hemp, hemp]
        simp only [if_pos hz0, Sem.run_pure, Result.andThen_ok, hlist]
        simp only [List.size_toArray, List.length_nil, hC', Sem.run_bind, newRow, Result.andThen_ok, Sem.run_pure]
        simp
      · simp only [if_neg hz0, Sem.run_bind, hr, Result.andThen_ok, Sem.run_pure, hlist, hC, newRow]
        simp
    · refine .slice (l := ⟨w.heap.size, 0, C.size, .bool false⟩) (Emb.ins_same _ _ _) (fun k hk => by cases hk; rfl) (Nat.le_refl _) ?_
      simp only [Nat.zero_add, hClen, hl2, List.length_flatten, List.map_replicate, List.sum_replicate_nat, hi.len]
      omega
  · cases he
theorem ok_mkm {t : TypeId} (ho : o.op = .makeMap t none) (hh : HR φ B H w) (he : evalOp .mkm ts H = some (v, H')) : Done P φ B H w (execOp a.eval o) v H' := by
  simp only [evalOp, Option.some.injEq, Prod.mk.injEq] at he
  obtain ⟨rfl, rfl⟩ := he
  have hnew := hh.push (so := .map [] 0) (l := ⟨w.heap.size, 0, 0, .bool false⟩) (o := .map #[] 0) (w' := w.alloc (.map #[] 0)) rfl (by simp) (fun k hk => Below.heap_alloc _ _ _ hk)
    (fun hn => .map hn rfl (fun i k v n h => by simp at h) hh.sz) (heap_alloc_new w _)
  refine Done.mk (u := .map (some w.heap.size)) (Nat.le_succ _) (Emb.ext_ins hh.fresh) ?_ (.map (l := ⟨w.heap.size, 0, 0, .bool false⟩) (Emb.ins_same _ _ _)) hnew ((Below.refl _ _).alloc hh.sz _)
  simp [execOp, ho, Instr.makeMap]
theorem ok_mks {t e : TypeId} {ti : TI} {l c : Operand} {l' c' : X} (hi : TIOk P e ti) (hu : P.underlying t = some (.slice e)) (hl : compX l = some l') (hc : compX c = some c') (ho : o.op = .makeSlice t l c) (ht : VRL φ ts a.tmps.toList) (hh : HR φ B H w)
    (he : evalOp (.mks e ti.size ti.bytes ti.zero l' c') ts H = some (v, H')) : Done P φ B H w (execOp a.eval o) v H' := by
  have h1 := compX_ok hl ht
  have h2 := compX_ok hc ht
  simp only [evalOp] at he
  split at he
  · rename_i k1 n k2 m e1 e2
    split at he
    · rename_i hb
      cases he
      simp only [Bool.and_eq_true] at hb
      have b1 := Nat.le_of_ble_eq_true hb.1.1
      have b2 := Nat.le_of_ble_eq_true hb.1.2
      have b3 := Nat.le_of_ble_eq_true hb.2
      simp only [roomS] at b2 b3
      rw [e1] at h1
      rw [e2] at h2
      generalize hp : a.eval l = p at h1
      generalize hq : a.eval c = q at h2
      cases h1; cases h2
      obtain ⟨z, hz, hr⟩ := hi.run_zeroValue w
      have hv0 : VRL φ ti.zero z.cells.toList := by rw [hi.zero]; exact (hz φ).cells
      have hv := hv0.repeat (by rw [hi.len]; exact hi.pos) m
      rw [hi.len] at hv
      obtain ⟨info, d, z', hinfo, hd, hz', hs, hby, ha, _⟩ := hi.ex
      have hti : (typeInfo e).run P w = .ok info w := by simp [typeInfo, hinfo]
      have wn : IntKind.i64.wrap (Int.ofNat n) = Int.ofNat n := IntWalk.i64_in _ (by simp only [Int.ofNat_eq_natCast]; omega)
      have wm : IntKind.i64.wrap (Int.ofNat m) = Int.ofNat m := IntWalk.i64_in _ (by simp only [Int.ofNat_eq_natCast]; omega)
      have hbm : ((info.bytes : Int) * (m : Int)) ≤ 35184372088832 := by
        have h : ((m * ti.bytes : Nat) : Int) ≤ 35184372088832 := Int.ofNat_le.2 b2
        rw [hby, Int.mul_comm, ← Int.natCast_mul]
        exact h
      obtain ⟨h3, h4⟩ := hh.alloc (e := e) (vs := (Array.range (m * ti.size)).map (z.cells[· % z.cells.size]!)) hv
      refine Done.mk (u := .slice (some ⟨w.heap.size, 0, none⟩) n m) (Nat.le_succ _) (Emb.ext_ins hh.fresh) ?_ ?_ h3 h4
      · simp only [execOp, ho, hp, hq]
        refine run_value ?_
        have c1 : ((decide ((m : Int) < 0) || decide ((info.bytes : Int) * (m : Int) > 2 ^ 48)) || decide ((n : Int) < 0) || decide ((n : Int) > (m : Int))) = false := by
          have h0 : ¬ ((m : Int) < 0) := by omega
          have h1 : ¬ ((info.bytes : Int) * (m : Int) > 2 ^ 48) := by omega
          have h2 : ¬ ((n : Int) < 0) := by omega
          have h3 : ¬ ((n : Int) > (m : Int)) := by omega
          simp only [h0, h1, h2, h3, decide_false, Bool.or_self]
        simp only [Instr.makeSlice, Sem.run_bind, run_underlying hu, Result.andThen_ok, asInt, asIntOf, Sem.run_pure, hti, wn, wm]
        have c2 : ((decide (Int.ofNat m < 0) || decide ((info.bytes : Int) * Int.ofNat m > 2 ^ 48)) || decide (Int.ofNat n < 0) || decide (Int.ofNat n > Int.ofNat m)) = false := c1
        have hask : (askRoom ((Int.ofNat m).toNat * info.bytes)).run P w = .ok () w := by
          have hb0 : ¬ ((Int.ofNat m).toNat * info.bytes > roomBytes) := by
            rw [hby]
            simp only [Int.ofNat_eq_natCast, Int.toNat_natCast, roomBytes]
            omega
          simp only [askRoom, if_neg hb0, Sem.run_pure]
        simp only [c2, Bool.false_eq_true, if_false, Sem.run_bind, hask, Result.andThen_ok, hi.run_sizeOf]
        by_cases hz0 : m * ti.size = 0
        · have hz1 : (Int.ofNat m).toNat * ti.size = 0 := hz0
          have hemp : ∀ f : Nat → Value, (Array.range 0).map f = #[] := fun f => by simp
          rw [if_pos hz1]
          simp only [Sem.run_bind, Sem.run_pure, Result.andThen_ok, newRow]
          rw [hz1, hz0, hemp, hemp]
          simp
        · have hz1 : ¬ (Int.ofNat m).toNat * ti.size = 0 := hz0
          rw [if_neg hz1]
          simp only [Sem.run_bind, hr, Sem.run_pure, Result.andThen_ok, newRow]
          simp
      · refine .slice (l := ⟨w.heap.size, 0, _, .bool false⟩) (Emb.ins_same _ _ _) (fun k hk => by cases hk; rfl) b1 ?_
        simp
    · cases he
  · cases he
end
end Go.Sh
end
section
namespace Go.Sh
open Go.RowKit (Below)
section
variable {P : Program} {w : World}
structure Src (P : Program) (w : World) (size : Nat) (x : Value) (n : Nat) (news : List Value) : Prop where
  len : ∀ w' : World, (Builtin.lenOf x).run P w' = .ok n w'
  take : ∀ (k : Nat) (w' : World), k ≤ n → w'.heap = w.heap → (Builtin.firstCells size k x).run P w' = .ok (news.take (k * size)).toArray w'
  long : news.length = n * size
theorem Src.cells {P : Program} {w : World} {size n : Nat} {x : Value} {news : List Value} (h : Src P w size x n news) (w' : World) (hw : w'.heap = w.heap) : (Builtin.firstCells size n x).run P w' = .ok news.toArray w' := by
  rw [h.take n w' (Nat.le_refl _) hw, List.take_of_length_le (by rw [h.long]; exact Nat.le_refl _)]
theorem run_app_none {t u ty e : TypeId} {i : TypeInfo} {du : TypeDesc} {base : Option Addr} {sLen sCap : Nat} {x : Value} {news : List Value} (ht : P.underlying t = some (.slice e)) (hi : P.info? e = some i)
    (hu : P.underlying u = some du) (hdu : ∀ k, du ≠ .int k) (hs : Src P w i.size x 0 news) (hn : news = []) (hle : sLen ≤ sCap) :
    (Builtin.append_ #[t, u] ty #[.slice base sLen sCap, x]).run P w = .ok (.slice base sLen sCap) w := by
  subst hn
  have hm : (match du with | .int _ => true | _ => false) = false := by cases du <;> first | rfl | exact absurd rfl (hdu _)
  have h1 := hs.len w
  have h2 := hs.cells w rfl
  simp only [Builtin.append_, List.getElem?_toArray, List.getElem?_cons_zero, List.getElem?_cons_succ, Sem.run_bind, run_underlying ht, run_underlying hu, Result.andThen_ok, sizeOf, typeInfo, hi, run_program, Sem.run_pure]
  cases du <;> first
    | exact absurd rfl (hdu _)
    | (simp [h1, h2, hle]; cases base <;> simp [storeCells])
theorem run_app_room {t u ty e : TypeId} {i : TypeInfo} {du : TypeDesc} {g b sLen sCap n : Nat} {x : Value} {news : List Value} (ht : P.underlying t = some (.slice e)) (hi : P.info? e = some i)
    (hu : P.underlying u = some du) (hdu : ∀ k, du ≠ .int k) (hs : Src P w i.size x n news) (hle : sLen + n ≤ sCap)
    (hc : ∀ j, j < news.length → (w.cell? ⟨g, b + sLen * i.size + j, none⟩).isSome = true) (hf : ∀ j, j < news.length → w.frozen? ⟨g, b + sLen * i.size + j, none⟩ = false) (h1 : ∀ v ∈ news, v.oneCell' = true) :
    (Builtin.append_ #[t, u] ty #[.slice (some ⟨g, b, none⟩) sLen sCap, x]).run P w = .ok (.slice (some ⟨g, b, none⟩) (sLen + n) sCap) (w.setCells g (b + sLen * i.size) news) := by
  have hst := run_storeCells_cells (P := P) g (b + sLen * i.size) news 0 w (by simpa using hc) (by simpa using hf) h1
  have hl := hs.len w
  have hcl := hs.cells w rfl
  simp only [Nat.add_zero] at hst
  simp only [Builtin.append_, List.getElem?_toArray, List.getElem?_cons_zero, List.getElem?_cons_succ, Sem.run_bind, run_underlying ht, run_underlying hu, Result.andThen_ok, sizeOf, typeInfo, hi, run_program, Sem.run_pure]
  cases du <;> first
    | exact absurd rfl (hdu _)
    | (simp [hl, hcl, hle, addr_add, hst])
theorem run_app_grow {t u ty e : TypeId} {i : TypeInfo} {z : Value} {du : TypeDesc} {base : Option Addr} {sLen sCap n : Nat} {x : Value} {olds news : List Value} (ht : P.underlying t = some (.slice e)) (hi : P.info? e = some i) (hz : i.zero = some z)
    (hu : P.underlying u = some du) (hdu : ∀ k, du ≠ .int k) (hs : Src P w i.size x n news) (hg : sCap < sLen + n)
    (ho : ∀ w' : World, w'.heap = w.heap → (Builtin.firstCells i.size sLen (.slice base sLen sCap)).run P w' = .ok olds.toArray w')
    (h63 : ((sLen + n : Nat) : Int) ≤ 9223372036854775807) (hfit : (sLen + n) * i.bytes ≤ 140737488355328) :
    (Builtin.append_ #[t, u] ty #[.slice base sLen sCap, x]).run P w =
      .ok (.slice (some ⟨w.heap.size, 0, none⟩) (sLen + n) (grownCap w (sLen + n) sCap e))
        (w.drew.alloc (.cells (olds.toArray ++ news.toArray ++ Builtin.zeroCells z.cells (grownCap w (sLen + n) sCap e - (sLen + n))) e)) := by
  have hn : ¬ (sLen + n ≤ sCap) := by omega
  have h63' : ¬ (9223372036854775807 < ((sLen : Int) + (n : Int))) := by omega
  have hfit' := growslice_fits hg hfit
  have h48' : ¬ (281474976710656 < Builtin.nextslicecap (sLen + n) sCap * i.bytes) := by omega
  have hl := hs.len w
  have hcl := hs.cells w.drew rfl
  have hol := ho w.drew rfl
  simp only [Builtin.append_, List.getElem?_toArray, List.getElem?_cons_zero, List.getElem?_cons_succ, Sem.run_bind, run_underlying ht, run_underlying hu, Result.andThen_ok, sizeOf, typeInfo, hi, run_program, Sem.run_pure]
  cases du <;> first
    | exact absurd rfl (hdu _)
    | (simp [zeroValue, typeInfo, hi, hz, hl, hn, h63', h48', Question.forced, hcl, hol, newRow, grownCap]
       try (congr 2; apply Array.ext'; simp [List.append_assoc]))
theorem cell?_heap {w w' : World} (h : w'.heap = w.heap) (ad : Addr) : w'.cell? ad = w.cell? ad := by simp [World.cell?, h]
variable {φ : Emb} {B : Nat} {H H' : Heap} {ts : T} {a : Act} {o : Oper} {v : SV}
theorem byteCells_ok (s : ByteArray) : VRL φ (byteCells (s.data.toList.map UInt8.toNat)) (s.data.map fun b => Value.int .u8 b.toNat).toList := by
  rw [Array.toList_map]
  induction s.data.toList with
  | nil => exact .nil
  | cons b l ih => exact .cons (.int _ _) ih
theorem srcS_ok {str : Bool} {z n : Nat} {x : SV} {xs : List SV} {x' : Value} (h : srcS H str z x = some (n, xs)) (hx : VR φ x x') (hh : HR φ B H w) (hz : str = true → z = 1) :
    ∃ news, Src P w z x' n news ∧ VRL φ xs news ∧ news.length = n * z := by
  unfold srcS at h
  split at h
  · split at h
    · cases h
      cases hx with
      | str hs =>
        rename_i l s
        have hsz : l.length = s.size := by rw [hs, List.length_map, Array.length_toList]; rfl
        have hlong : (s.data.map fun b => Value.int .u8 b.toNat).toList.length = l.length * z := by rw [hz rfl, hsz]; simp
        refine ⟨(s.data.map fun b => Value.int .u8 b.toNat).toList, ⟨fun w' => ?_, fun k w' hk _ => ?_, hlong⟩, ?_, hlong⟩
        · simp [Builtin.lenOf, hsz]
        · simp only [Builtin.firstCells, Sem.run_pure, Result.ok.injEq, and_true, hz rfl, Nat.mul_one]
          apply Array.ext'
          simp only [ByteArray.data_extract, Array.toList_map, Array.toList_extract, List.extract, List.drop_zero, Nat.sub_zero]
          rw [← List.map_take]
        · subst hs; exact byteCells_ok s
    · cases h
  · split at h
    · cases h
      cases hx
      exact ⟨[], ⟨fun w' => by simp [Builtin.lenOf], fun k w' _ _ => by simp [Builtin.firstCells], by simp⟩, .nil, by simp⟩
    · rename_i b off n' c z'
      split at h
      · cases h
        obtain ⟨ad, cap, rfl, _, _⟩ := hx.slice_inv
        exact ⟨[], ⟨fun w' => by simp [Builtin.lenOf], fun k w' hk _ => by
          obtain rfl : k = 0 := by omega
          simp [Builtin.firstCells, loadCells, loadCellsFrom], by simp⟩, .nil, by simp⟩
      · split at h
        · split at h
          · rename_i k _ cs hcs
            cases h
            cases hx with
            | slice hl hc hn ht =>
              rename_i cap l
              obtain ⟨vs, hv, hlen, hcell, _⟩ := hh.load hl hcs
              refine ⟨vs, ⟨fun w' => by simp [Builtin.lenOf], fun m w' hm hw' => ?_, hlen⟩, hv, hlen⟩
              have hl2 : (vs.take (m * z)).length = m * z := by
                rw [List.length_take, hlen]
                exact Nat.min_eq_left (Nat.mul_le_mul_right _ hm)
              have := run_loadCells_list (P := P) w' ⟨l.rb, l.base + off, none⟩ (vs.take (m * z)) (fun j u hu => by
                rw [addr_add, cell?_heap hw']
                rw [List.getElem?_take] at hu
                split at hu
                · exact hcell j u hu
                · cases hu)
              rw [hl2] at this
              simp [Builtin.firstCells, this]
          · cases h
        · cases h
    · cases h
theorem HR.kill (hh : HR φ B H w) (b : Nat) : HR φ B (H.put b .dead) w where
  dom c m e := hh.dom c m e
  inj c c' m m' e e' hr hc hc' := by
    rw [Heap.get_put] at hc hc'
    by_cases k : c = b
    · rw [if_pos k] at hc; exact hc.elim
    · by_cases k' : c' = b
      · rw [if_pos k'] at hc'; exact hc'.elim
      · rw [if_neg k] at hc; rw [if_neg k'] at hc'; exact hh.inj c c' m m' e e' hr hc hc'
  obj c m e := by
    rw [Heap.get_put]
    split
    · exact .dead
    · exact hh.obj c m e
  sz := hh.sz
theorem HR.inplace {b off n : Nat} {l : Loc} {cs old new : List SV} {e : TypeId} {ex : Bool} {frz : Nat} {news : List Value} (hh : HR φ B H w) (hl : φ b = some l) (hg : H.get b = some (.row cs e ex false frz))
    (hold : loadC H b off n = some old) (hnew : VRL φ new news) (hone : new.all SV.one = true) (hf : frz ≤ off + n) (hroom : l.base + off + n + news.length ≤ l.tot) :
    (∀ j, j < news.length → (w.cell? ⟨l.rb, l.base + off + n + j, none⟩).isSome = true) ∧ (∀ j, j < news.length → w.frozen? ⟨l.rb, l.base + off + n + j, none⟩ = false) ∧ (∀ v ∈ news, v.oneCell' = true) ∧
    HR (φ.ins H.next ⟨l.rb, l.base + off, l.tot, .bool false⟩) B ((H.put b .dead).push (.row (old ++ new) e false false (frz - off))) (w.setCells l.rb (l.base + off + n) news) ∧ Below B w (w.setCells l.rb (l.base + off + n) news) := by
  have ho := hh.obj b l hl
  have hlive := HR.live_row hg
  rw [hg] at ho
  unfold loadC at hold
  rw [hg] at hold
  dsimp only at hold
  split at hold
  · rename_i hle
    cases hold
    have hle := Nat.le_of_ble_eq_true hle
    cases ho with
    | row hb hs hc hlen hex hro hfr =>
      rename_i C lo hi
      have hB := hro rfl
      have hlv := hnew.length
      have hle1 : φ.le (φ.ins H.next ⟨l.rb, l.base + off, l.tot, .bool false⟩) := Emb.le_ins hh.fresh
      refine ⟨fun j hj => ?_, fun j hj => ?_, hnew.one hone, ?_, Below.setCells hB _ _ _⟩
      · rw [cell?_at w _ _ C e _ hb]
        simp; omega
      · rw [frozen?_at w _ _ C e lo hi hb]
        have := hfr rfl (l.base + off + n + j) (by omega) (.inl (by omega))
        simp at this ⊢
        omega
      · have hb' := World.heap_setCells_same l.rb news (l.base + off + n) w C e (lo, hi) hb
        have hd := hh.dom b l hl
        refine ⟨fun c m em => ?_, fun c c' m m' em em' hr hc1 hc2 => ?_, fun c m em => ?_, ?_⟩
        · unfold Emb.ins at em
          rw [World.size_setCells]
          split at em
          · cases em; rename_i ec; subst ec; simp only [Heap.push, Heap.put]; omega
          · have := hh.dom c m em; simp only [Heap.push, Heap.put]; omega
        · have hnext : (H.put b .dead).next = H.next := rfl
          have bne : b ≠ H.next := by omega
          have hdead : ∀ c, c ≠ H.next → live (((H.put b .dead).push (.row ((cs.drop off).take n ++ new) e false false (frz - off))).get c) → c ≠ b ∧ live (H.get c) := by
            intro c hcn hlv
            rw [Heap.get_push, hnext, if_neg hcn, Heap.get_put] at hlv
            by_cases k : c = b
            · rw [if_pos k] at hlv; exact hlv.elim
            · rw [if_neg k] at hlv; exact ⟨k, hlv⟩
          by_cases k : c = H.next
          · by_cases k' : c' = H.next
            · rw [k, k']
            · exfalso
              obtain ⟨q1, q2⟩ := hdead c' k' hc2
              simp only [Emb.ins, if_pos k, Option.some.injEq] at em
              simp only [Emb.ins, if_neg k'] at em'
              subst em
              exact q1 (hh.inj c' b m' l em' hl hr.symm q2 hlive)
          · obtain ⟨q1, q2⟩ := hdead c k hc1
            by_cases k' : c' = H.next
            · exfalso
              simp only [Emb.ins, if_pos k', Option.some.injEq] at em'
              simp only [Emb.ins, if_neg k] at em
              subst em'
              exact q1 (hh.inj c b m l em hl hr q2 hlive)
            · obtain ⟨q1', q2'⟩ := hdead c' k' hc2
              simp only [Emb.ins, if_neg k] at em
              simp only [Emb.ins, if_neg k'] at em'
              exact hh.inj c c' m m' em em' hr q2 q2'
        · rw [Heap.get_push, show (H.put b .dead).next = H.next from rfl]
          by_cases k : c = H.next
          · rw [if_pos k]
            simp only [Emb.ins, if_pos k, Option.some.injEq] at em
            subst em
            refine .row hb' (by rw [setL_size, hs]) (fun i x hx => ?_) ?_ (fun h => by cases h) hro (fun h0 i h1 h2 => hfr h0 i (by simp only at h1; omega) (h2.elim .inl (fun h => by cases h)))
            · rw [setL_get _ _ _ _ (by omega)]
              rw [List.getElem?_append] at hx
              split at hx
              · rename_i hi1
                simp only [List.length_take, List.length_drop] at hi1
                rw [List.getElem?_take, if_pos (by omega), List.getElem?_drop] at hx
                rw [if_neg (by simp only; omega)]
                obtain ⟨u, h1, h2⟩ := hc _ _ hx
                exact ⟨u, by rw [← h1]; congr 1; simp only; omega, h2.mono hle1⟩
              · rename_i hi1
                simp only [List.length_take, List.length_drop] at hi1 hx
                obtain ⟨u, h1, h2⟩ := hnew.get _ _ hx
                have hlt : i - min n (cs.length - off) < news.length := (List.getElem?_eq_some_iff.1 h1).1
                rw [if_pos (by simp only; omega)]
                exact ⟨u, by rw [← h1]; congr 1; simp only; omega, h2.mono hle1⟩
            · simp; omega
          · rw [if_neg k, Heap.get_put]
            simp only [Emb.ins, if_neg k] at em
            split
            · exact .dead
            · rename_i k2
              by_cases hr : m.rb = l.rb
              · cases hgc : H.get c with
                | none => exact .none
                | some oo =>
                  cases oo with
                  | dead => exact .dead
                  | _ => exact absurd (hh.inj c b m l em hl hr (by rw [hgc]; trivial) hlive) k2
              · exact (hh.obj c m em).mono hle1 (World.heap_setCells_other _ _ hr _ _ _)
        · rw [World.size_setCells]; exact hh.sz
  · cases hold
theorem VR.slice_room {b off n z cap : Nat} {c : Option Nat} {ad : Addr} (hv : VR φ (.slice b off n c z) (.slice (some ad) n cap)) :
    (∃ l, φ b = some l ∧ ad = ⟨l.rb, l.base + off, none⟩ ∧ (∀ k, c = some k → cap = k) ∧ n ≤ cap ∧ l.base + off + cap * z ≤ l.tot) ∨ (n = 0 ∧ cap = 0 ∧ (∀ k, c = some k → k = 0)) := by
  cases hv with
  | slice hl hc hn ht => exact .inl ⟨_, hl, rfl, hc, hn, ht⟩
  | slice0 hc => exact .inr ⟨rfl, rfl, hc⟩
theorem grown_get {olds news : List Value} {rest : Array Value} (i : Nat) (u : Value) (h : (olds ++ news)[i]? = some u) : (olds.toArray ++ news.toArray ++ rest)[i]? = some u := by
  rw [← Array.getElem?_toList]
  simp only [Array.toList_append]
  rw [List.getElem?_append_left (by have := (List.getElem?_eq_some_iff.1 h).1; simpa using this)]
  exact h
theorem ok_app {str : Bool} {t u e : TypeId} {du : TypeDesc} {ti : TI} {s x : Operand} {s' x' : X} (ht : P.underlying t = some (.slice e)) (hti : TIOk P e ti) (hu : P.underlying u = some du) (hdu : ∀ k, du ≠ .int k) (hz1 : str = true → ti.size = 1)
    (hs : compX s = some s') (hx : compX x = some x') (ho : o.op = .call { callee := .builtin .append, args := #[s, x], argTypes := #[t, u] }) (htm : VRL φ ts a.tmps.toList) (hh : HR φ B H w)
    (he : evalOp (.app str e ti.size ti.bytes s' x') ts H = some (v, H')) : Done P φ B H w (execOp a.eval o) v H' := by
  have h1 := compX_ok hs htm
  have h2 := compX_ok hx htm
  obtain ⟨info, d, z, hinfo, hd, hz, hsz, hby, hag, hzv⟩ := hti.ex
  have hzl : z.cells.size = ti.size := by
    have := (hzv φ).cells.length
    rw [← hti.zero, hti.len] at this
    simpa using this.symm
  have hexec : ∀ {p q : Value} {r : Value} {w' : World}, a.eval s = p → a.eval x = q → (Builtin.append_ #[t, u] o.type #[p, q]).run P w = .ok r w' → (execOp a.eval o).run P w = .ok (.value r) w' := by
    intro p q r w' e1 e2 hr
    simp [execOp, ho, resolve, invoke, builtin, e1, e2, hr]
  simp only [evalOp, appS] at he
  cases hsrc : srcS H str ti.size (x'.ev ts) with
  | none => rw [hsrc] at he; cases he
  | some pr =>
    obtain ⟨n, xs⟩ := pr
    rw [hsrc] at he
    obtain ⟨news, hS, hvn, hnl⟩ := srcS_ok (P := P) hsrc h2 hh hz1
    rw [← hsz] at hS
    generalize hp : a.eval s = p at h1
    cases n with
    | zero =>
      dsimp only at he
      have hne : news = [] := List.eq_nil_of_length_eq_zero (by simpa using hnl)
      split at he
      · rename_i e1
        cases he
        rw [e1] at h1 ⊢
        cases h1
        exact Done.pure (hexec hp rfl (run_app_none ht hinfo hu hdu hS hne (Nat.le_refl _))) .nils hh
      · rename_i b off k c z' e1
        cases he
        rw [e1] at h1 ⊢
        obtain ⟨ad, cap, rfl, hle, _⟩ := h1.slice_inv
        exact Done.pure (hexec hp rfl (run_app_none ht hinfo hu hdu hS hne hle)) h1 hh
      · cases he
    | succ n =>
      dsimp only at he
      have grow : ∀ {base : Option Addr} {sLen sCap : Nat} {old : List SV} {olds : List Value} {Hk : Heap} {frz : Nat}, HR φ B Hk w → Hk.next = H.next → a.eval s = .slice base sLen sCap → sCap < sLen + (n + 1) → VRL φ old olds → olds.length = sLen * ti.size →
          (∀ w' : World, w'.heap = w.heap → (Builtin.firstCells info.size sLen (.slice base sLen sCap)).run P w' = .ok olds.toArray w') → (sLen + (n + 1)) * ti.bytes ≤ roomS → sLen + (n + 1) ≤ 9223372036854775807 →
          Done P φ B H w (execOp a.eval o) (.slice H.next 0 (sLen + (n + 1)) none ti.size) (Hk.push (.row (old ++ xs) e false false frz)) := by
        intro base sLen sCap old olds Hk frz hk hnx e1 hlt hvo hol hfo hrm h63
        have hrun := run_app_grow (P := P) (w := w) (t := t) (u := u) (ty := o.type) ht hinfo hz hu hdu hS hlt hfo (by omega) (by rw [hby]; simp only [roomS] at hrm; omega)
        have hle : sLen + (n + 1) ≤ grownCap w (sLen + (n + 1)) sCap e := grownCap_ge _ _ _ _
        have hsize : (olds.toArray ++ news.toArray ++ Builtin.zeroCells z.cells (grownCap w (sLen + (n + 1)) sCap e - (sLen + (n + 1)))).size = grownCap w (sLen + (n + 1)) sCap e * ti.size := by
          simp only [Array.size_append, List.size_toArray, size_zeroCells, hzl, hol, hnl]
          rw [← Nat.add_mul, ← Nat.add_mul]
          congr 1
          omega
        have hall := hk.allocMore (vs := olds.toArray ++ news.toArray ++ Builtin.zeroCells z.cells (grownCap w (sLen + (n + 1)) sCap e - (sLen + (n + 1)))) (e := e) (hvo.append hvn) (fun i v h => grown_get i v h) (by simp) (w0 := w.drew) rfl (Below.refl _ _).drew
        obtain ⟨g1, g2⟩ := hall
        rw [hnx] at g1
        have g1' := HR.frz (frz := frz) g1
        refine Done.mk (by rw [← hnx]; exact Nat.le_succ _) (Emb.ext_ins hh.fresh) (hexec e1 rfl hrun) (.slice (l := ⟨w.heap.size, 0, _, .bool false⟩) (Emb.ins_same _ _ _) (fun k hk => by cases hk) hle ?_) g1' g2
        simp only [Nat.zero_add, hsize]
        exact Nat.le_refl _
      split at he
      · -- onto nil
        rename_i e1
        split at he
        · rename_i hb
          cases he
          simp only [Bool.and_eq_true] at hb
          have hb1 := Nat.le_of_ble_eq_true hb.1
          have hb2 := Nat.le_of_ble_eq_true hb.2
          rw [e1] at h1
          cases h1
          have := grow (base := none) (sLen := 0) (sCap := 0) (old := []) (olds := []) (Hk := H) (frz := 0) hh rfl hp (by omega) .nil (by simp) (fun w' _ => by simp [Builtin.firstCells]) (by simpa using hb1) (by simp only [roomS] at hb2; omega)
          simpa using this
        · cases he
      · rename_i b off len c z' e1
        split at he
        · cases he
        · rename_i hb
          simp only [Bool.and_eq_true] at hb
          have hzz := Nat.eq_of_beq_eq_true hb.1.1
          have hb1 := Nat.le_of_ble_eq_true hb.1.2
          have hb2 := Nat.le_of_ble_eq_true hb.2
          subst hzz
          rw [e1] at h1
          obtain ⟨ad, cap, hpe, hlc, hcap⟩ := h1.slice_inv
          rw [hpe] at h1 hp
          cases hld : loadC H b off (len * ti.size) with
          | none => rw [hld] at he; cases he
          | some old =>
            rw [hld] at he
            dsimp only at he
            have h63 : len + (n + 1) ≤ 9223372036854775807 := by simp only [roomS] at hb2; omega
            have hold : ∃ olds, VRL φ old olds ∧ olds.length = len * ti.size ∧ (∀ w' : World, w'.heap = w.heap → (Builtin.firstCells info.size len (.slice (some ad) len cap)).run P w' = .ok olds.toArray w') := by
              rcases h1.slice_room with ⟨l, hl, rfl, _, _, _⟩ | ⟨h0, _, _⟩
              · obtain ⟨vs, hv, hlen, hcell, _⟩ := hh.load hl hld
                refine ⟨vs, hv, hlen, fun w' hw' => ?_⟩
                have := run_loadCells_list (P := P) w' ⟨l.rb, l.base + off, none⟩ vs (fun j u hu => by rw [addr_add, cell?_heap hw']; exact hcell j u hu)
                rw [hlen] at this
                simp [Builtin.firstCells, hsz, this]
              · subst h0
                have : old = [] := by
                  have hlen : old.length = 0 := by
                    unfold loadC at hld
                    split at hld
                    · split at hld
                      · cases hld; simp
                      · cases hld
                    · cases hld
                  exact List.eq_nil_of_length_eq_zero hlen
                subst this
                exact ⟨[], .nil, by simp, fun w' _ => by simp [Builtin.firstCells, loadCells, loadCellsFrom]⟩
            obtain ⟨olds, hvo, hol, hfo⟩ := hold
            cases c with
            | some k =>
              dsimp only at he
              split at he
              · -- room for sure
                rename_i hk
                have hk' := Nat.le_of_ble_eq_true hk
                split at he
                · rename_i H1 hst
                  cases he
                  rcases h1.slice_room with ⟨l, hl, rfl, hc, hn, htot⟩ | ⟨h0, h0', hc⟩
                  · have hck := hc k rfl
                    subst hck
                    obtain ⟨g1, g2, g3, g4, g5⟩ := hh.store hl hst hvn
                    have e3 : l.base + (off + len * ti.size) = l.base + off + len * info.size := by rw [hsz]; omega
                    rw [e3] at g1 g2 g4 g5
                    have hrun := run_app_room (P := P) (w := w) (t := t) (u := u) (ty := o.type) (g := l.rb) (b := l.base + off) ht hinfo hu hdu hS hk' g1 g2 g3
                    exact Done.mk (Nat.le_of_eq (storeC_next hst).symm) (Emb.ext.refl φ _) (hexec hp rfl hrun) (.slice hl (fun j hj => by cases hj; rfl) hk' htot) g4 g5
                  · have := hc k rfl; omega
                · cases he
              · -- no room for sure
                rename_i hk
                cases he
                have hk' : k < len + (n + 1) := by
                  rcases Nat.lt_or_ge k (len + (n + 1)) with h | h
                  · exact h
                  · rw [Nat.ble_eq_true_of_le h] at hk; cases hk
                exact grow hh rfl hp (by rcases hcap k rfl with h | ⟨h0, h3, h4⟩ <;> omega) hvo hol hfo hb1 h63
            | none =>
              dsimp only at he
              split at he
              · rename_i cs e0 ex frz hg
                split at he
                · rename_i hcond
                  cases he
                  simp only [Bool.and_eq_true] at hcond
                  have hf := Nat.le_of_ble_eq_true hcond.1.1
                  have hee := Nat.eq_of_beq_eq_true hcond.1.2
                  have hone := hcond.2
                  subst hee
                  by_cases hroom : len + (n + 1) ≤ cap
                  · rcases h1.slice_room with ⟨l, hl, rfl, hc, hn, htot⟩ | ⟨h0, h0', _⟩
                    · have hmul : len * ti.size + (n + 1) * ti.size ≤ cap * ti.size := by rw [← Nat.add_mul]; exact Nat.mul_le_mul_right _ hroom
                      obtain ⟨g1, g2, g3, g4, g5⟩ := hh.inplace hl hg hld hvn hone hf (by omega)
                      have hrun := run_app_room (P := P) (w := w) (t := t) (u := u) (ty := o.type) (g := l.rb) (b := l.base + off) ht hinfo hu hdu hS hroom (by rw [hsz]; exact g1) (by rw [hsz]; exact g2) g3
                      rw [hsz] at hrun
                      refine Done.mk (Nat.le_succ _) (Emb.ext_ins hh.fresh) (hexec hp rfl hrun) ?_ g4 g5
                      have hv' := VR.slice (φ := φ.ins H.next ⟨l.rb, l.base + off, l.tot, .bool false⟩) (b := H.next) (o := 0) (n := len + (n + 1)) (z := ti.size) (cap := cap) (c := none) (Emb.ins_same _ _ _) (fun j hj => by cases hj) hroom (by simpa using htot)
                      simpa using hv'
                    · omega
                  · exact grow (hh.kill b) rfl hp (by omega) hvo hol hfo hb1 h63
                · cases he
              · cases he
      · cases he
end
end Go.Sh
end
