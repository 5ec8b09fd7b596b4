/-
  Soundness of the shadow's operations, part 8: bytes and strings, type assertions, maps, copy.
  Soundness of the shadow's operations, part 9: maps.
  Soundness of the shadow's operations: functions without a body.
-/
import Derived.Test.YtnhogklhegmjhaaGreatDoorShA3
import Derived.Lib.Bytealg
import Derived.Laws.LoneSync
set_option linter.all false
section
namespace Go.Sh
open Go.RowKit (Below)
section
variable {P : Program} {φ : Emb} {B : Nat} {H H' : Heap} {w : World} {ts : T} {a : Act} {o : Oper} {v : SV}
theorem ok_tas {t xt : TypeId} {dd : TypeDesc} {ti : TI} {ok : Bool} {x : Operand} {y : X} (hi : TIOk P t ti) (hu : P.underlying t = some dd) (hni : ∀ ms, dd ≠ .interface ms) (hc : compX x = some y)
    (ho : o.op = .typeAssert x xt t ok) (ht : VRL φ ts a.tmps.toList) (hh : HR φ B H w) (he : evalOp (.tas t ti.zeroV ok y) ts H = some (v, H')) : Done P φ B H w (execOp a.eval o) v H' := by
  have h0 := compX_ok hc ht
  obtain ⟨z, hz, hr⟩ := hi.run_zeroValue w
  simp only [evalOp] at he
  split at he
  · rename_i t' x' e1
    rw [e1] at h0
    generalize hp : a.eval x = p at h0
    cases h0 with
    | iface h0 =>
      rename_i u
      split at he
      · rename_i hb
        have hb' := Nat.eq_of_beq_eq_true hb
        subst hb'
        cases he
        cases ok with
        | true =>
          refine Done.pure (u := .tuple #[u, .bool true]) ?_ (.tup (.cons h0 (.cons (.bool _) .nil))) hh
          simp only [execOp, ho, hp]
          refine run_value ?_
          cases dd <;> first | exact absurd rfl (hni _) | simp [Instr.typeAssert, run_underlying hu]
        | false =>
          refine Done.pure (u := u) ?_ h0 hh
          simp only [execOp, ho, hp]
          refine run_value ?_
          cases dd <;> first | exact absurd rfl (hni _) | simp [Instr.typeAssert, run_underlying hu]
      · rename_i hb
        have hne : t' ≠ t := fun h => by subst h; simp at hb
        cases ok with
        | true =>
          simp only [if_true, Option.some.injEq, Prod.mk.injEq] at he
          obtain ⟨rfl, rfl⟩ := he
          refine Done.pure (u := .tuple #[z, .bool false]) ?_ (.tup (.cons (hz φ) (.cons (.bool _) .nil))) hh
          simp only [execOp, ho, hp]
          refine run_value ?_
          cases dd <;> first | exact absurd rfl (hni _) | simp [Instr.typeAssert, run_underlying hu, hne, hr]
        | false => simp at he
  · rename_i e1
    rw [e1] at h0
    generalize hp : a.eval x = p at h0
    cases h0
    cases ok with
    | true =>
      simp only [if_true, Option.some.injEq, Prod.mk.injEq] at he
      obtain ⟨rfl, rfl⟩ := he
      refine Done.pure (u := .tuple #[z, .bool false]) ?_ (.tup (.cons (hz φ) (.cons (.bool _) .nil))) hh
      simp only [execOp, ho, hp]
      refine run_value ?_
      cases dd <;> first | exact absurd rfl (hni _) | simp [Instr.typeAssert, run_underlying hu, hr]
    | false => simp at he
  · cases he
theorem bytesOfS_ok : ∀ {cs : List SV} {s : List Nat} {vs : List Value}, bytesOfS cs = some s → VRL φ cs vs → ∃ ns : List Int, vs = ns.map (Value.int .u8) ∧ ns = s.map (fun n : Nat => (n : Int)) ∧ ∀ n ∈ s, n < 256
  | [], s, _, h, .nil => by simp [bytesOfS] at h; subst h; exact ⟨[], rfl, rfl, by simp⟩
  | x :: cs, s, _, h, .cons hx ht => by
    unfold bytesOfS at h
    split at h
    · rename_i e; cases e
    · rename_i n rest e
      cases e
      split at h
      · rename_i l hl
        split at h
        · rename_i m
          split at h
          · rename_i hm
            cases h
            obtain ⟨ns, h1, h2, h3⟩ := bytesOfS_ok hl ht
            cases hx
            refine ⟨Int.ofNat m :: ns, by simp [h1], by simp [h2], ?_⟩
            intro n hn
            rcases List.mem_cons.1 hn with rfl | hn
            · simpa [Nat.blt_eq] using hm
            · exact h3 n hn
          · cases h
        · cases h
      · cases h
    · cases h
theorem foldl_push_nats : ∀ (l : List Nat) (r : ByteArray), (∀ n ∈ l, n < 256) → ((l.map (fun n : Nat => (n : Int))).foldl (fun r n => r.push (UInt8.ofNat n.toNat)) r).data.toList.map UInt8.toNat = r.data.toList.map UInt8.toNat ++ l
  | [], r, _ => by simp
  | n :: l, r, h => by
    simp only [List.map_cons, List.foldl_cons]
    rw [foldl_push_nats l _ (fun m hm => h m (List.mem_cons_of_mem _ hm))]
    have hn := h n (List.mem_cons_self ..)
    simp [ByteArray.push]
    omega
theorem ok_cvbs {s d e : TypeId} {x : Operand} {y : X} (hs : P.underlying s = some (.slice e)) (hd : P.underlying d = some .string) (he8 : P.underlying e = some (.int .u8)) (hc : compX x = some y) (ho : o.op = .convert s d x)
    (ht : VRL φ ts a.tmps.toList) (hh : HR φ B H w) (he : evalOp (.cvbs y) ts H = some (v, H')) : Done P φ B H w (execOp a.eval o) v H' := by
  have h0 := compX_ok hc ht
  simp only [evalOp] at he
  split at he
  · rename_i e1
    cases he
    rw [e1] at h0
    generalize hp : a.eval x = p at h0
    cases h0
    refine Done.pure (u := .string .empty) ?_ (.str rfl) hh
    simp only [execOp, ho, hp]
    refine run_value ?_
    simp [convert, run_underlying hs, run_underlying hd, run_underlying he8, Conv.bytesToString]
  · rename_i b off n c e1
    split at he
    · rename_i cs hcs
      split at he
      · rename_i s' hs'
        cases he
        rw [e1] at h0
        obtain ⟨ad, cap, hp, hn, _⟩ := h0.slice_inv
        rw [hp] at h0
        have hload : ∃ vs, VRL φ cs vs ∧ (loadCells ad n).run P w = .ok vs.toArray w := by
          rcases h0.slice_room with ⟨l, hl, rfl, _, _, _⟩ | ⟨h1, _, _⟩
          · obtain ⟨vs, hv, hlen, hcell, _⟩ := hh.load hl hcs
            have := run_loadCells_list (P := P) w ⟨l.rb, l.base + off, none⟩ vs (fun j u hu => by rw [addr_add]; exact hcell j u hu)
            rw [hlen] at this
            exact ⟨vs, hv, this⟩
          · subst h1
            have : cs = [] := by
              unfold loadC at hcs
              split at hcs
              · split at hcs
                · cases hcs; simp
                · cases hcs
              · cases hcs
            subst this
            exact ⟨[], .nil, by simp [loadCells, loadCellsFrom]⟩
        obtain ⟨vs, hv, hrun⟩ := hload
        obtain ⟨ns, rfl, hns, hlt⟩ := bytesOfS_ok hs' hv
        have hb := run_bytesToString w ad n cap ns hrun
        refine Done.pure (u := .string (ns.foldl (fun r n => r.push (UInt8.ofNat n.toNat)) ByteArray.empty)) ?_ (.str ?_) hh
        · simp only [execOp, ho, hp]
          refine run_value ?_
          simp only [convert, Sem.run_bind, run_underlying hs, run_underlying hd, run_underlying he8, Result.andThen_ok]
          exact hb
        · subst hns
          rw [foldl_push_nats _ _ hlt]
          rfl
      · cases he
    · cases he
  · cases he
theorem ok_cvsb {s d e : TypeId} {x : Operand} {y : X} (hs : P.underlying s = some .string) (hd : P.underlying d = some (.slice e)) (he8 : P.underlying e = some (.int .u8)) (hc : compX x = some y) (ho : o.op = .convert s d x)
    (ht : VRL φ ts a.tmps.toList) (hh : HR φ B H w) (he : evalOp (.cvsb e y) ts H = some (v, H')) : Done P φ B H w (execOp a.eval o) v H' := by
  have h0 := compX_ok hc ht
  simp only [evalOp] at he
  split at he
  · rename_i l e1
    cases he
    rw [e1] at h0
    generalize hp : a.eval x = p at h0
    cases h0 with
    | str hs' =>
      rename_i s'
      have hsz : l.length = s'.size := by rw [hs', List.length_map, Array.length_toList]; rfl
      have hrun := run_bytes_of_string (P := P) w s d e s' hs hd he8
      have hcap : s'.size ≤ grownCap w s'.size 0 e := grownCap_ge _ _ _ _
      have hrow : (bytesRow s' (grownCap w s'.size 0 e)).size = grownCap w s'.size 0 e := by simp [bytesRow]; omega
      have hpre : ∀ (i : Nat) (u : Value), (s'.data.map fun b => Value.int .u8 b.toNat).toList[i]? = some u → (bytesRow s' (grownCap w s'.size 0 e))[i]? = some u := by
        intro i u h
        have hlt := (List.getElem?_eq_some_iff.1 h).1
        simp only [Array.getElem?_toList] at h
        unfold bytesRow
        rw [Array.getElem?_append_left (by simpa using hlt)]
        exact h
      refine Done.mk (φ' := φ.ins H.next ⟨w.heap.size, 0, grownCap w s'.size 0 e, .bool false⟩) (w' := w.drew.alloc (.cells (bytesRow s' (grownCap w s'.size 0 e)) e ((bytesRow s' (grownCap w s'.size 0 e)).size, (bytesRow s' (grownCap w s'.size 0 e)).size + 1))) (Nat.le_succ _) (Emb.ext_ins hh.fresh) (u := .slice (some ⟨w.heap.size, 0, none⟩) s'.size (grownCap w s'.size 0 e)) ?_ ?_ ?_ (((Below.refl _ _).drew).alloc (by simpa using hh.sz) _)
      · simp only [execOp, ho, hp]
        exact run_value hrun
      · rw [hsz]
        exact .slice (l := ⟨w.heap.size, 0, grownCap w s'.size 0 e, .bool false⟩) (Emb.ins_same _ _ _) (fun k hk => by cases hk) hcap (by simp)
      · refine hh.push (l := ⟨w.heap.size, 0, grownCap w s'.size 0 e, .bool false⟩) rfl (by simp) (fun k hk => Below.heap_alloc _ _ _ hk) (fun hn => ?_) (heap_alloc_new w.drew _)
        have hv : VRL φ (byteCells l) (s'.data.map fun b => Value.int .u8 b.toNat).toList := by subst hs'; exact byteCells_ok s'
        refine .row hn hrow (fun i x hx => ?_) ?_ (fun h => by cases h) (fun _ => hh.sz) (fun _ i _ h2 => by rw [hrow]; rcases h2 with h2 | h2 <;> first | (cases h2; done) | (simp only at h2; omega))
        · obtain ⟨u, h1, h2⟩ := hv.get i x hx
          exact ⟨u, by simpa using hpre i u h1, h2.mono (Emb.le_ins hh.fresh)⟩
        · have := hv.length
          simp at this ⊢
          omega
  · cases he
theorem ok_cpy {str : Bool} {t u e : TypeId} {ti : TI} {d s : Operand} {d' s' : X} (ht : P.underlying t = some (.slice e)) (hti : TIOk P e ti) (hz1 : str = true → ti.size = 1)
    (hd : compX d = some d') (hs : compX s = some s') (ho : o.op = .call { callee := .builtin .copy, args := #[d, s], argTypes := #[t, u] }) (htm : VRL φ ts a.tmps.toList) (hh : HR φ B H w)
    (he : evalOp (.cpy str ti.size d' s') ts H = some (v, H')) : Done P φ B H w (execOp a.eval o) v H' := by
  have h1 := compX_ok hd htm
  have h2 := compX_ok hs htm
  have hexec : ∀ {p q : Value} {r : Value} {w' : World}, a.eval d = p → a.eval s = q → (Builtin.copy_ #[t, u] o.type #[p, q]).run P w = .ok r w' → (execOp a.eval o).run P w = .ok (.value r) w' := by
    intro p q r w' e1 e2 hr
    simp [execOp, ho, resolve, invoke, builtin, e1, e2, hr]
  simp only [evalOp] at he
  cases hsrc : srcS H str ti.size (s'.ev ts) with
  | none => rw [hsrc] at he; cases he
  | some pr =>
    obtain ⟨n, xs⟩ := pr
    rw [hsrc] at he
    obtain ⟨news, hS, hvn, hnl⟩ := srcS_ok (P := P) hsrc h2 hh hz1
    generalize hp : a.eval d = p at h1
    dsimp only at he
    split at he
    · rename_i e1
      cases he
      rw [e1] at h1
      cases h1
      refine Done.pure (u := goInt 0) (hexec hp rfl ?_) (.int _ _) hh
      have hl := hS.len w
      have hc := hS.take 0 w (Nat.zero_le _) rfl
      simp [Builtin.copy_, run_underlying ht, hl, hti.run_sizeOf, hc]
    · rename_i b off n' c z' e1
      split at he
      · cases he
      · rename_i hzz
        have hzz' := Nat.eq_of_beq_eq_true hzz
        subst hzz'
        rw [e1] at h1
        obtain ⟨ad, cap, rfl, hlc, hcap⟩ := h1.slice_inv
        have hl := hS.len w
        split at he
        · rename_i hmin
          cases he
          refine Done.pure (u := goInt 0) (hexec hp rfl ?_) (.int _ _) hh
          have hc := hS.take 0 w (Nat.zero_le _) rfl
          simp [Builtin.copy_, run_underlying ht, hl, hti.run_sizeOf, hmin, hc, storeCells]
        · rename_i k hmin
          split at he
          · rename_i H1 hst
            cases he
            have hkn : k + 1 ≤ n := by have h3 : Nat.min n n' = k + 1 := hmin; have h4 := Nat.min_le_left n n'; simp only [Nat.min_def] at *; omega
            have hkn' : k + 1 ≤ n' := by have h3 : Nat.min n n' = k + 1 := hmin; have h4 := Nat.min_le_right n n'; simp only [Nat.min_def] at *; omega
            rcases h1.slice_room with ⟨l, hl', rfl, hc, hn, htot⟩ | ⟨h0, h0', _⟩
            · obtain ⟨g1, g2, g3, g4, g5⟩ := hh.store hl' hst (hvn.take ((k + 1) * ti.size))
              have hc := hS.take (k + 1) w hkn rfl
              have hrun := run_storeCells_cells (P := P) l.rb (l.base + off) (news.take ((k + 1) * ti.size)) 0 w (by simpa using g1) (by simpa using g2) g3
              simp only [Nat.add_zero] at hrun
              refine Done.mk (u := goInt (k + 1 : Nat)) (Nat.le_of_eq (storeC_next hst).symm) (Emb.ext.refl φ _) (hexec hp rfl ?_) (.int _ _) g4 g5
              simp [Builtin.copy_, run_underlying ht, hl, hti.run_sizeOf, hmin, hc, hrun]
            · omega
          · cases he
    · cases he
end
end Go.Sh
end
section
namespace Go.Sh
open Go.RowKit (Below)
section
variable {P : Program} {φ : Emb} {B : Nat} {H H' : Heap} {w : World} {ts : T} {a : Act} {o : Oper} {v : SV}
theorem eqLeaves_isSome_get : ∀ {L : List (Nat × Nat)} {xs : List SV} {b : Bool}, eqLeaves L xs xs = some b → (∀ p ∈ L, ∃ x, xs[p.1]? = some x) ∧ b = true
  | [], xs, b, h => by simp [eqLeaves] at h; exact ⟨by simp, by first | exact h | exact h.symm⟩
  | (i, k) :: L, xs, b, h => by
    simp only [eqLeaves] at h
    split at h
    · cases h
    · rename_i x hx
      dsimp only at h
      split at h
      · obtain ⟨h1, h2⟩ := eqLeaves_isSome_get h
        exact ⟨fun p hp => by
          rcases List.mem_cons.1 hp with rfl | hp
          · exact ⟨x, hx⟩
          · exact h1 p hp, h2⟩
      · rename_i he
        exfalso
        unfold eqOne at he
        split at he
        · simp at he
        · simp at he
        · simp only [Option.some.injEq] at he
          rw [eqS_iff.2 rfl] at he
          cases he
        · cases he
      · cases h
def checkFields (empty : Bool) (n : Nat) (cs : Array Value) : List Field → Sem Unit
  | [] => pure ()
  | f :: fs => do
    if f.name ≠ "_" then
      let v ← part f.type cs f.offset
      Instr.checkKey empty n f.type v
      checkFields empty n cs fs
    else checkFields empty n cs fs
theorem run_checkKey_struct {empty : Bool} {n : Nat} {t : TypeId} {fs : Array Field} {cs : Array Value} (hu : P.underlying t = some (.struct fs)) :
    (Instr.checkKey empty (n + 1) t (.agg cs)).run P w = (checkFields empty n cs fs.toList).run P w := by
  simp only [Instr.checkKey, Sem.run_bind, run_underlying hu, Result.andThen_ok]
  rw [← Array.forIn_toList]
  generalize fs.toList = l
  clear hu
  induction l generalizing w with
  | nil => simp [checkFields]
  | cons f fs ih =>
    simp only [List.forIn_cons, checkFields, Sem.run_bind, Sem.run_ite]
    split
    · generalize (part f.type cs f.offset).run P w = r1
      cases r1 with
      | ok a w1 =>
        simp only [Result.andThen_ok]
        generalize (Instr.checkKey empty n f.type a).run P w1 = r2
        cases r2 with
        | ok u w2 => simp only [Result.andThen_ok, Sem.run_pure]; exact ih
        | halt x w2 => simp [Result.andThen]
      | halt x w1 => simp [Result.andThen]
    · simp only [Sem.run_pure, Result.andThen_ok]
      exact ih
theorem run_checkKey_flat : ∀ (n : Nat) (t : TypeId) (L : List (Nat × Nat)), leaves P n t = some L → ∀ (d : Nat) (dd : TypeDesc) (empty : Bool), P.underlying t = some dd →
    ∀ (xs : List SV) (vs : List Value) (x : Value), VRL φ xs vs → cellsAre (isAggD dd) x vs → (∀ p ∈ L, ∃ y, xs[p.1]? = some y) →
    (Instr.checkKey empty (d + n) t x).run P w = .ok () w
  | 0, t, L, h => by simp [leaves] at h
  | n + 1, t, L, h => by
    intro d dd empty hd xs vs x hx cx hok
    unfold leaves at h
    rw [hd] at h
    cases dd with
    | bool => rw [show d + (n + 1) = (d + n) + 1 from rfl]; simp [Instr.checkKey, run_underlying hd]
    | int q => rw [show d + (n + 1) = (d + n) + 1 from rfl]; simp [Instr.checkKey, run_underlying hd]
    | string => rw [show d + (n + 1) = (d + n) + 1 from rfl]; simp [Instr.checkKey, run_underlying hd]
    | struct fs =>
      dsimp only at h
      split at h
      · cases h
      · split at h
        · rename_i Ls hLs
          cases h
          obtain ⟨va, rfl, hva⟩ := cx
          rw [show d + (n + 1) = (d + n) + 1 from rfl, run_checkKey_struct hd]
          generalize fs.toList = fl at hLs
          clear hd
          induction fl generalizing Ls with
          | nil => rfl
          | cons f fl ih =>
            simp only [mapO] at hLs
            split at hLs
            · rename_i Lf hLf
              split at hLs
              · rename_i Lr hLr
                cases hLs
                split at hLf
                · cases hLf
                · rename_i hne
                  have hne' : f.name ≠ "_" := by simpa using hne
                  split at hLf
                  · rename_i L0 hL0
                    split at hLf
                    · rename_i j hj
                      split at hLf
                      · rename_i hall
                        cases hLf
                        obtain ⟨df, hdf⟩ : ∃ df, P.underlying f.type = some df := by
                          cases hu : P.underlying f.type with
                          | none => cases n <;> simp [leaves, hu] at hL0
                          | some df => exact ⟨df, rfl⟩
                        have hx' := (hx.drop f.offset).take j.size
                        have hok0 : ∀ p ∈ L0, ∃ y, ((xs.drop f.offset).take j.size)[p.1]? = some y := by
                          intro p hp
                          obtain ⟨y, hy⟩ := hok (f.offset + p.1, p.2) (by simp only [List.flatten_cons, List.mem_append]; exact .inl (List.mem_map.2 ⟨p, hp, rfl⟩))
                          have hlt := List.all_eq_true.1 hall p hp
                          simp only [Nat.blt_eq] at hlt
                          exact ⟨y, by rw [List.getElem?_take, if_pos hlt, List.getElem?_drop]; exact hy⟩
                        have hrest := ih Lr (fun p hp => hok p (by simp only [List.flatten_cons, List.mem_append]; exact .inr hp)) hLr
                        have key := fun (p : Value) => run_checkKey_flat n f.type L0 hL0 d df empty hdf ((xs.drop f.offset).take j.size) ((vs.drop f.offset).take j.size) p hx'
                        simp only [checkFields, if_pos hne', Sem.run_bind, run_part_any hj hdf]
                        cases hag : isAggD df with
                        | true =>
                          have hk := key (.agg (va.extract f.offset (f.offset + j.size))) (by rw [hag]; exact ⟨_, rfl, by simp [← hva, List.extract, Nat.add_sub_cancel_left]⟩) hok0
                          simp only [Result.andThen_ok, hk, hrest]
                        | false =>
                          have hL0' : ∃ k, L0 = [(0, k)] := by
                            cases n with
                            | zero => simp [leaves] at hL0
                            | succ n =>
                              unfold leaves at hL0
                              rw [hdf] at hL0
                              cases df <;> simp [isAggD] at hag hL0 <;> exact ⟨_, hL0.symm⟩
                          obtain ⟨k, rfl⟩ := hL0'
                          obtain ⟨y, hy⟩ := hok0 (0, k) (List.mem_cons_self ..)
                          obtain ⟨p, hp, _⟩ := hx'.get _ _ hy
                          have hp' : va[f.offset]? = some p := by
                            rw [← hva] at hp
                            rw [List.getElem?_take] at hp
                            split at hp
                            · simpa using hp
                            · cases hp
                          have hk := key p (by rw [hag]; exact hp) hok0
                          simp only [hp', Result.andThen_ok, hk, hrest]
                      · cases hLf
                    · cases hLf
                  · cases hLf
              · cases hLs
            · cases hLs
        · cases h
    | _ => cases h
theorem run_checkKey_val {t : TypeId} {L : List (Nat × Nat)} {x : SV} {x' : Value} {b empty : Bool} (hL : leaves P 6 t = some L) (hx : VR φ x x') (he : eqVal (isAggT P t) L x x = some b) :
    (Instr.checkKey empty 10000 t x').run P w = .ok () w := by
  rcases leaves_ne_array hL with ⟨fs, hu⟩ | ⟨k, rfl, hk⟩
  · have hag : isAggT P t = true := by simp [isAggT, hu]
    rw [hag] at he
    simp only [eqVal] at he
    split at he
    · cases hx with
      | agg hx => exact run_checkKey_flat 6 t L hL 9994 _ empty hu _ _ _ hx ⟨_, rfl, rfl⟩ (eqLeaves_isSome_get he).1
    · cases he
  · have : ∀ d, P.underlying t = some d → (∀ m, d ≠ .interface m) → (∀ n e, d ≠ .array n e) → (∀ f, d ≠ .struct f) → (Instr.checkKey empty (9999 + 1) t x').run P w = .ok () w := by
      intro d hd h1 h2 h3
      generalize 9999 = n
      simp only [Instr.checkKey, Sem.run_bind, run_underlying hd, Result.andThen_ok]
      cases d <;> first
        | exact absurd rfl (h1 _)
        | exact absurd rfl (h2 _ _)
        | exact absurd rfl (h3 _)
        | rfl
    rcases hk with ⟨h, _⟩ | ⟨⟨q, h⟩, _⟩ | ⟨h, _⟩ <;> exact this _ h (by simp) (by simp) (by simp)
def ER (φ : Emb) (es : List (SV × SV × Nat)) (es' : List MapEntry) : Prop :=
  es.length = es'.length ∧ ∀ (i : Nat) (k v : SV) (n : Nat), es[i]? = some (k, v, n) → ∃ e, es'[i]? = some e ∧ VR φ k e.key ∧ VR φ v e.val ∧ e.born = n
theorem ER.cons_inv {k v : SV} {n : Nat} {es : List (SV × SV × Nat)} {e : MapEntry} {es' : List MapEntry} (h : ER φ ((k, v, n) :: es) (e :: es')) : VR φ k e.key ∧ VR φ v e.val ∧ e.born = n ∧ ER φ es es' := by
  obtain ⟨h1, h2⟩ := h
  obtain ⟨e0, he0, q1, q2, q3⟩ := h2 0 k v n rfl
  simp at he0
  subst he0
  exact ⟨q1, q2, q3, by simpa using h1, fun i k v n hi => by simpa using h2 (i + 1) k v n (by simpa using hi)⟩
def FR (φ : Emb) : Option (Nat × SV) → Option (Nat × Value) → Prop
  | none, none => True
  | some (i, x), some (j, y) => i = j ∧ VR φ x y
  | _, _ => False
theorem run_findAsking {t : TypeId} {L : List (Nat × Nat)} {k : SV} {k' : Value} (hL : leaves P 6 t = some L) (hk : VR φ k k') : ∀ {es : List (SV × SV × Nat)} {es' : List MapEntry} {i : Nat} {r : Option (Nat × SV)}, ER φ es es' →
    findS (isAggT P t) L k es i = some r → ∃ r', (Instr.findAsking t k' es' i).run P w = .ok r' w ∧ FR φ r r'
  | [], [], i, r, _, h => by simp [findS] at h; subst h; exact ⟨none, rfl, trivial⟩
  | [], _ :: _, i, r, hE, h => by have := hE.1; simp at this
  | _ :: _, [], i, r, hE, h => by have := hE.1; simp at this
  | (k2, v2, n) :: es, e :: es', i, r, hE, h => by
    obtain ⟨q1, q2, q3, q4⟩ := hE.cons_inv
    simp only [findS] at h
    split at h
    · rename_i he
      cases h
      have := run_eqVal (P := P) (w := w) hL hk q1 he
      exact ⟨some (i, e.val), by simp [Instr.findAsking, this], rfl, q2⟩
    · rename_i he
      have := run_eqVal (P := P) (w := w) hL hk q1 he
      obtain ⟨r', h1, h2⟩ := run_findAsking hL hk q4 h
      exact ⟨r', by simp [Instr.findAsking, this, h1], h2⟩
    · cases h
theorem findNow_ok {d : TypeDesc} {kd : Nat} {k : SV} {k' : Value} (hd : (d = .bool ∧ kd = 0) ∨ ((∃ q, d = .int q) ∧ kd = 1) ∨ (d = .string ∧ kd = 2)) (hk : VR φ k k') : ∀ {es : List (SV × SV × Nat)} {es' : List MapEntry} {i : Nat} {r : Option (Nat × SV)}, ER φ es es' →
    findS false [(0, kd)] k es i = some r → ∃ r', Instr.findNow d k' es' i = some r' ∧ FR φ r r'
  | [], [], i, r, _, h => by simp [findS] at h; subst h; exact ⟨none, rfl, trivial⟩
  | [], _ :: _, i, r, hE, h => by have := hE.1; simp at this
  | _ :: _, [], i, r, hE, h => by have := hE.1; simp at this
  | (k2, v2, n) :: es, e :: es', i, r, hE, h => by
    obtain ⟨q1, q2, q3, q4⟩ := hE.cons_inv
    have key : ∀ b, eqOne kd k k2 = some b → Instr.sameNow d k' e.key = some b := by
      intro b hb
      unfold eqOne at hb
      generalize e.key = k2' at q1
      split at hb
      · cases hb; cases hk; cases q1
        rcases hd with ⟨rfl, _⟩ | ⟨_, h⟩ | ⟨_, h⟩ <;> first | rfl | cases h
      · cases hk; cases q1
        rcases hd with ⟨_, h⟩ | ⟨⟨q, rfl⟩, _⟩ | ⟨_, h⟩
        · cases h
        · simpa [Instr.sameNow] using hb
        · cases h
      · cases hb
        cases hk with
        | str h1 => cases q1 with
          | str h2 =>
            rcases hd with ⟨_, h⟩ | ⟨_, h⟩ | ⟨rfl, _⟩
            · cases h
            · cases h
            · subst h1 h2
              simp only [Instr.sameNow, eqS_bytes, Option.some.injEq]
              rw [beq_toListBytes, ByteArray.toList_eq, ByteArray.toList_eq]
      · cases hb
    simp only [findS, eqVal] at h
    split at h
    · rename_i he
      cases h
      exact ⟨some (i, e.val), by simp [Instr.findNow, key _ he], rfl, q2⟩
    · rename_i he
      obtain ⟨r', h1, h2⟩ := findNow_ok hd hk q4 h
      exact ⟨r', by simp [Instr.findNow, key _ he, h1], h2⟩
    · cases h
theorem run_findKey_sh {t : TypeId} {L : List (Nat × Nat)} {k : SV} {k' : Value} {es : List (SV × SV × Nat)} {es' : List MapEntry} {r : Option (Nat × SV)} (hL : leaves P 6 t = some L) (hk : VR φ k k') (hE : ER φ es es')
    (h : findS (isAggT P t) L k es 0 = some r) : ∃ r', (Instr.findKey t k' es').run P w = .ok r' w ∧ FR φ r r' := by
  rcases leaves_ne_array hL with ⟨fs, hu⟩ | ⟨kd, rfl, hkd⟩
  · obtain ⟨r', h1, h2⟩ := run_findAsking (P := P) (w := w) hL hk hE h
    simp only [Instr.findKey, Sem.run_bind, run_underlying hu, Result.andThen_ok]
    cases es' with
    | nil =>
      have : es = [] := List.eq_nil_of_length_eq_zero (by simpa using hE.1)
      subst this
      simp [findS] at h
      subst h
      exact ⟨none, rfl, trivial⟩
    | cons e es' =>
      refine ⟨r', ?_, h2⟩
      simp only [Instr.findNow, Instr.sameNow]
      exact h1
  · have hag : isAggT P t = false := by
      rcases hkd with ⟨h, _⟩ | ⟨⟨q, h⟩, _⟩ | ⟨h, _⟩ <;> simp [isAggT, h]
    rw [hag] at h
    obtain ⟨d, hu, hd⟩ : ∃ d, P.underlying t = some d ∧ ((d = .bool ∧ kd = 0) ∨ ((∃ q, d = .int q) ∧ kd = 1) ∨ (d = .string ∧ kd = 2)) := by
      rcases hkd with ⟨h, e⟩ | ⟨⟨q, h⟩, e⟩ | ⟨h, e⟩
      · exact ⟨_, h, .inl ⟨rfl, e⟩⟩
      · exact ⟨_, h, .inr (.inl ⟨⟨q, rfl⟩, e⟩)⟩
      · exact ⟨_, h, .inr (.inr ⟨rfl, e⟩)⟩
    obtain ⟨r', h1, h2⟩ := findNow_ok hd hk hE h
    exact ⟨r', by simp [Instr.findKey, run_underlying hu, h1], h2⟩
theorem ok_lku {t key elem : TypeId} {L : List (Nat × Nat)} {ti : TI} {ok : Bool} {m k : Operand} {m' k' : X} (hu : P.underlying t = some (.map key elem)) (hL : leaves P 6 key = some L) (hti : TIOk P elem ti)
    (hm : compX m = some m') (hk : compX k = some k') (ho : o.op = .lookup t m k ok) (ht : VRL φ ts a.tmps.toList) (hh : HR φ B H w)
    (he : evalOp (.lku (isAggT P key) L ti.zeroV ok m' k') ts H = some (v, H')) : Done P φ B H w (execOp a.eval o) v H' := by
  have h1 := compX_ok hm ht
  have h2 := compX_ok hk ht
  obtain ⟨z, hz, hzr⟩ := hti.run_zeroValue w
  simp only [evalOp] at he
  have hent : ∀ es, entS H (m'.ev ts) = some es → ∃ es' : Array MapEntry, ER φ es es'.toList ∧
        ((a.eval m = .map none ∧ es' = #[]) ∨ ∃ r ck, a.eval m = .map (some r) ∧ w.heap[r]? = some (.map es' ck)) := by
    intro es hes
    generalize a.eval m = p at h1
    unfold entS at hes
    split at hes
    · rename_i e1
      rw [e1] at h1
      cases h1
      cases hes
      exact ⟨#[], ⟨rfl, by simp⟩, .inl ⟨rfl, rfl⟩⟩
    · rename_i b e1
      rw [e1] at h1
      split at hes
      · rename_i es0 ck hg
        cases hes
        cases h1 with
        | map hl =>
          rename_i l
          have hobj := hh.obj b l hl
          rw [hg] at hobj
          cases hobj with
          | map hb hlen hc hB =>
            rename_i es'
            exact ⟨es', ⟨by simpa using hlen, fun i k v n hi => by obtain ⟨e, q1, q2⟩ := hc i k v n hi; exact ⟨e, by simpa using q1, q2⟩⟩, .inr ⟨_, _, rfl, hb⟩⟩
      · cases hes
    · cases hes
  generalize entS H (m'.ev ts) = oes at he hent
  cases oes with
  | none => cases he
  | some es =>
    obtain ⟨es', hE, hrun⟩ := hent es rfl
    cases hself : eqVal (isAggT P key) L (k'.ev ts) (k'.ev ts) with
    | none => rw [hself] at he; cases he
    | some bb =>
      rw [hself] at he
      dsimp only at he
      have hck := fun em => run_checkKey_val (P := P) (w := w) (empty := em) hL h2 hself
      cases hf : findS (isAggT P key) L (k'.ev ts) es 0 with
      | none => rw [hf] at he; cases he
      | some r =>
        rw [hf] at he
        obtain ⟨r', hr1, hr2⟩ := run_findKey_sh (P := P) (w := w) hL h2 hE hf
        have hrunall : ∀ u, (match r' with | some (_, v) => (pure (v, true) : Sem (Value × Bool)) | none => do pure (← zeroValue elem, false)).run P w = .ok u w →
            (execOp a.eval o).run P w = .ok (.value (if ok then .tuple #[u.1, .bool u.2] else u.1)) w := by
          intro u hu'
          simp only [execOp, ho]
          refine run_value ?_
          rcases hrun with ⟨e1, e2⟩ | ⟨rr, ck, e1, hb⟩
          · rw [e1]
            subst e2
            have hr1' := hr1
            simp only [Instr.lookup, Sem.run_bind, run_underlying hu, Result.andThen_ok, Sem.run_pure, hck, hr1']
            cases r' with
            | none =>
              simp only [Sem.run_bind, hzr, Result.andThen_ok, Sem.run_pure, Result.ok.injEq, and_true] at hu'
              subst hu'
              simp [hzr]
            | some pr =>
              simp only [Sem.run_pure, Result.ok.injEq, and_true] at hu'
              subst hu'
              simp
          · rw [e1]
            have hg : (getObj rr).run P w = .ok (.map es' ck) w := by simp [getObj, Sem.run, hb]
            simp only [Instr.lookup, Sem.run_bind, run_underlying hu, Result.andThen_ok, Sem.run_pure, hg, hck, hr1]
            cases r' with
            | none =>
              simp only [Sem.run_bind, hzr, Result.andThen_ok, Sem.run_pure, Result.ok.injEq, and_true] at hu'
              subst hu'
              simp [hzr]
            | some pr =>
              simp only [Sem.run_pure, Result.ok.injEq, and_true] at hu'
              subst hu'
              simp
        cases r with
        | none =>
          cases r' with
          | some _ => exact hr2.elim
          | none =>
            have := hrunall (z, false) (by simp [hzr])
            cases ok with
            | true =>
              simp only [if_true, Option.some.injEq, Prod.mk.injEq] at he
              obtain ⟨rfl, rfl⟩ := he
              exact Done.pure this (.tup (.cons (hz φ) (.cons (.bool _) .nil))) hh
            | false =>
              simp only [Bool.false_eq_true, if_false, Option.some.injEq, Prod.mk.injEq] at he
              obtain ⟨rfl, rfl⟩ := he
              exact Done.pure this (hz φ) hh
        | some pr =>
          obtain ⟨i, x⟩ := pr
          cases r' with
          | none => exact hr2.elim
          | some pr' =>
            obtain ⟨j, y⟩ := pr'
            obtain ⟨_, hxy⟩ := hr2
            have := hrunall (y, true) (by simp)
            cases ok with
            | true =>
              simp only [if_true, Option.some.injEq, Prod.mk.injEq] at he
              obtain ⟨rfl, rfl⟩ := he
              exact Done.pure this (.tup (.cons hxy (.cons (.bool _) .nil))) hh
            | false =>
              simp only [Bool.false_eq_true, if_false, Option.some.injEq, Prod.mk.injEq] at he
              obtain ⟨rfl, rfl⟩ := he
              exact Done.pure this hxy hh
theorem sameOne_ok {x y : SV} {x' y' : Value} (h : sameOne x y = true) (hx : VR φ x x') (hy : VR φ y y') (n : Nat) : Instr.sameBits n x' y' = true := by
  unfold sameOne at h
  split at h
  · cases hx; cases hy; simpa [Instr.sameBits] using h
  · cases hx; cases hy; simpa [Instr.sameBits] using h
  · cases hx with
    | str h1 => cases hy with
      | str h2 =>
        subst h1 h2
        rw [eqS_bytes] at h
        simp only [Instr.sameBits, beq_toListBytes, ByteArray.toList_eq]
        exact h
  · cases h
theorem sameList_ok : ∀ {xs ys : List SV} {us vs : List Value}, sameList xs ys = true → VRL φ xs us → VRL φ ys vs → ∀ n, us.length = vs.length ∧ (us.zip vs).all (fun p => Instr.sameBits n p.1 p.2) = true
  | [], [], _, _, _, .nil, .nil, n => by simp
  | x :: xs, y :: ys, _, _, h, .cons h1 t1, .cons h2 t2, n => by
    simp only [sameList, Bool.and_eq_true] at h
    obtain ⟨q1, q2⟩ := sameList_ok h.2 t1 t2 n
    exact ⟨by simp [q1], by simp [List.zip_cons_cons, sameOne_ok h.1 h1 h2 n, q2]⟩
  | [], _ :: _, _, _, h, _, _, _ => by simp [sameList] at h
  | _ :: _, [], _, _, h, _, _, _ => by simp [sameList] at h
theorem sameAll_ok {x y : SV} {x' y' : Value} (h : sameAll x y = true) (hx : VR φ x x') (hy : VR φ y y') (n : Nat) : Instr.sameBits (n + 1) x' y' = true := by
  unfold sameAll at h
  split at h
  · cases hx with
    | agg h1 => cases hy with
      | agg h2 =>
        obtain ⟨q1, q2⟩ := sameList_ok h h1 h2 n
        simp only [Array.length_toList] at q1
        simp only [Instr.sameBits, q1, beq_self_eq_true, Bool.true_and]
        exact q2
  · exact sameOne_ok h hx hy _
theorem mapSet_get {k v : SV} : ∀ {es : List (SV × SV × Nat)} {i j : Nat}, (mapSet k v i es)[j]? = if j = i then es[j]?.map (fun e => (k, v, e.2.2)) else es[j]?
  | [], i, j => by simp [mapSet]
  | e :: es, 0, 0 => by obtain ⟨a, b, c⟩ := e; simp [mapSet]
  | e :: es, 0, j + 1 => by obtain ⟨a, b, c⟩ := e; simp [mapSet]
  | e :: es, i + 1, 0 => by simp [mapSet]
  | e :: es, i + 1, j + 1 => by simp [mapSet, mapSet_get (es := es) (i := i) (j := j)]
theorem mapSet_length {k v : SV} : ∀ {es : List (SV × SV × Nat)} {i : Nat}, (mapSet k v i es).length = es.length
  | [], i => by simp [mapSet]
  | e :: es, 0 => by obtain ⟨a, b, c⟩ := e; simp [mapSet]
  | e :: es, i + 1 => by simp [mapSet, mapSet_length (es := es) (i := i)]
theorem run_setObj {r : Nat} {ob nb : Obj} (h : w.heap[r]? = some ob) (hne : ∀ c e f, ob ≠ .cells c e f) : (setObj r nb).run P w = .ok () { w with heap := w.heap.setIfInBounds r nb } := by
  cases ob <;> first | exact absurd rfl (hne _ _ _) | simp only [setObj, Sem.run, h]
theorem ok_mup {t key elem : TypeId} {L : List (Nat × Nat)} {m k x : Operand} {m' k' x' : X} (hu : P.underlying t = some (.map key elem)) (hL : leaves P 6 key = some L)
    (hm : compX m = some m') (hk : compX k = some k') (hx : compX x = some x') (ho : o.op = .mapUpdate t m k x) (ht : VRL φ ts a.tmps.toList) (hh : HR φ B H w)
    (he : evalOp (.mup (isAggT P key) L m' k' x') ts H = some (v, H')) : Done P φ B H w (execOp a.eval o) v H' := by
  have h1 := compX_ok hm ht
  have h2 := compX_ok hk ht
  have h3 := compX_ok hx ht
  simp only [evalOp] at he
  split at he
  · rename_i b e1
    rw [e1] at h1
    generalize hp : a.eval m = p at h1
    cases h1 with
    | map hl =>
      rename_i l
      have hobj := hh.obj b l hl
      split at he
      · rename_i es ck bb hg hself
        have hlive : live (H.get b) := by rw [hg]; trivial
        rw [hg] at hobj
        cases hobj with
        | map hb hlen hc hB =>
          rename_i es'
          have hE : ER φ es es'.toList := ⟨by simpa using hlen, fun i k v n hi => by obtain ⟨e, q1, q2⟩ := hc i k v n hi; exact ⟨e, by simpa using q1, q2⟩⟩
          have hck := run_checkKey_val (P := P) (w := w) (empty := false) hL h2 hself
          have hgo : (getObj l.rb).run P w = .ok (.map es' ck) w := by simp [getObj, Sem.run, hb]
          have hset : ∀ nb, (setObj l.rb nb).run P w = .ok () { w with heap := w.heap.setIfInBounds l.rb nb } := fun nb => run_setObj hb (by simp)
          have hdom := (hh.dom b l hl).2
          have change : ∀ (es2 : List (SV × SV × Nat)) (es2' : Array MapEntry) (ck2 : Nat), ER φ es2 es2'.toList →
              HR φ B (H.put b (.map es2 ck2)) { w with heap := w.heap.setIfInBounds l.rb (.map es2' ck2) } ∧ Below B w { w with heap := w.heap.setIfInBounds l.rb (.map es2' ck2) } := by
            intro es2 es2' ck2 hE2
            refine ⟨hh.change hl hlive (by simp) (fun k hk => by show (w.heap.setIfInBounds l.rb _)[k]? = _; exact Array.getElem?_setIfInBounds_ne (Ne.symm hk)) ?_, ⟨rfl, rfl, rfl, by simp, fun k hk => by show (w.heap.setIfInBounds l.rb _)[k]? = _; exact Array.getElem?_setIfInBounds_ne (show l.rb ≠ k by omega)⟩⟩
            exact .map (by show (w.heap.setIfInBounds l.rb _)[l.rb]? = _; rw [Array.getElem?_setIfInBounds, if_pos rfl, if_pos hdom]) (by simpa using hE2.1) (fun i k v n hi => by obtain ⟨e, q1, q2⟩ := hE2.2 i k v n hi; exact ⟨e, by simpa using q1, q2⟩) hB
          split at he
          · cases he
          · rename_i i vv hf
            split at he
            · rename_i k0 v0 n0 hi0
              split at he
              · rename_i hsame
                cases he
                obtain ⟨r', hr1, hr2⟩ := run_findKey_sh (P := P) (w := w) hL h2 hE hf
                cases r' with
                | none => exact hr2.elim
                | some pr' =>
                  obtain ⟨j, y⟩ := pr'
                  obtain ⟨hij, _⟩ := hr2
                  subst hij
                  obtain ⟨e0, he0, hk0, _, hn0⟩ := hE.2 i k0 v0 n0 hi0
                  simp only [Array.getElem?_toList] at he0
                  have hkt : (Instr.keyThatStays e0.key (a.eval k)).run P w = .ok (a.eval k) w := by
                    have := sameAll_ok (φ := φ) hsame hk0 h2 9999
                    simp only [Instr.keyThatStays]
                    rw [if_pos this]
                    rfl
                  have hE2 : ER φ (mapSet (k'.ev ts) (x'.ev ts) i es) (es'.modify i fun e => { e with key := a.eval k, val := a.eval x }).toList := by
                    refine ⟨by rw [mapSet_length]; simpa using hlen, fun q k v n hq => ?_⟩
                    rw [mapSet_get] at hq
                    simp only [Array.getElem?_toList, Array.getElem?_modify]
                    split at hq
                    · rename_i hqi
                      subst hqi
                      rw [hi0] at hq
                      simp only [Option.map_some, Option.some.injEq, Prod.mk.injEq] at hq
                      obtain ⟨rfl, rfl, rfl⟩ := hq
                      exact ⟨{ e0 with key := a.eval k, val := a.eval x }, by rw [if_pos rfl, he0]; rfl, h2, h3, hn0⟩
                    · rename_i hqi
                      obtain ⟨e, q1, q2⟩ := hE.2 q k v n hq
                      simp only [Array.getElem?_toList] at q1
                      exact ⟨e, by rw [if_neg (fun h => hqi h.symm)]; exact q1, q2⟩
                  obtain ⟨g1, g2⟩ := change _ _ ck hE2
                  refine Done.skip (Nat.le_refl _) ?_ g1 g2
                  simp only [execOp, ho, hp]
                  refine run_unit ?_
                  simp only [Instr.mapUpdate, Sem.run_bind, run_underlying hu, Result.andThen_ok, hgo, hck, hr1, he0, Option.map_some, Option.getD_some, hkt, hset]
              · cases he
            · cases he
          · rename_i hf
            cases he
            obtain ⟨r', hr1, hr2⟩ := run_findKey_sh (P := P) (w := w) hL h2 hE hf
            cases r' with
            | some _ => exact hr2.elim
            | none =>
              have hE2 : ER φ (es ++ [(k'.ev ts, x'.ev ts, ck)]) (es'.push { key := a.eval k, val := a.eval x, born := ck }).toList := by
                refine ⟨by simp [hlen], fun q k v n hq => ?_⟩
                rw [List.getElem?_append] at hq
                simp only [Array.toList_push]
                split at hq
                · rename_i hlt
                  obtain ⟨e, q1, q2⟩ := hE.2 q k v n hq
                  exact ⟨e, by rw [List.getElem?_append_left (by simp; omega)]; exact q1, q2⟩
                · rename_i hlt
                  have hq0 : q - es.length = 0 := by
                    have := (List.getElem?_eq_some_iff.1 hq).1
                    simp at this
                    omega
                  rw [hq0] at hq
                  simp only [List.getElem?_cons_zero, Option.some.injEq, Prod.mk.injEq] at hq
                  obtain ⟨rfl, rfl, rfl⟩ := hq
                  refine ⟨{ key := a.eval k, val := a.eval x, born := ck }, ?_, h2, h3, rfl⟩
                  rw [List.getElem?_append_right (by simp; omega)]
                  have : q - es'.toList.length = 0 := by simp; omega
                  rw [this]
                  rfl
              obtain ⟨g1, g2⟩ := change _ _ (ck + 1) hE2
              refine Done.skip (Nat.le_refl _) ?_ g1 g2
              simp only [execOp, ho, hp]
              refine run_unit ?_
              simp only [Instr.mapUpdate, Sem.run_bind, run_underlying hu, Result.andThen_ok, hgo, hck, hr1, hset]
      · cases he
  · cases he
end
end Go.Sh
end
section
namespace Go.Sh
open Go.RowKit (Below)
theorem find_ext (n : String) (e : Array Value → Sem Value) (h1 : ((Extern.allNextRows.lookup n).isNone && (Extern.allGenericRows.lookup n).isNone && (Extern.allTypedRows.lookup n).isNone) = true) (h2 : Extern.allRows.lookup n = some e)
    (h3 : (Extern.allNextRows.lookup "").isNone = true) (fn : Func) (hn : fn.name = n) (ho : fn.origin = "") : Extern.findNext fn = none ∧ Extern.find fn = some e := by
  simp only [Bool.and_eq_true, Option.isNone_iff_eq_none] at h1 h3
  obtain ⟨⟨a, b⟩, c⟩ := h1
  refine ⟨?_, ?_⟩
  · simp [Extern.findNext, hn, ho, a, h3]
  · simp [Extern.find, hn, b, c, h2]
theorem next_empty : (Extern.allNextRows.lookup "").isNone = true := by kernel_rfl
theorem row_same (fn : Func) (hn : fn.name = "internal/abi.NoEscape") (ho : fn.origin = "") : Extern.findNext fn = none ∧ Extern.find fn = some Extern.AbiNoEscape.same :=
  find_ext _ _ (by kernel_rfl) (by kernel_rfl) next_empty fn hn ho
theorem row_ixb (fn : Func) (hn : fn.name = "internal/bytealg.IndexByteString") (ho : fn.origin = "") : Extern.findNext fn = none ∧ Extern.find fn = some Extern.BytealgIndexByte.indexByte :=
  find_ext _ _ (by kernel_rfl) (by kernel_rfl) next_empty fn hn ho
theorem row_cnb (fn : Func) (hn : fn.name = "internal/bytealg.CountString") (ho : fn.origin = "") : Extern.findNext fn = none ∧ Extern.find fn = some Extern.BytealgCount.count :=
  find_ext _ _ (by kernel_rfl) (by kernel_rfl) next_empty fn hn ho
theorem row_acq (fn : Func) (hn : fn.name = "internal/race.Acquire") (ho : fn.origin = "") : Extern.findNext fn = none ∧ Extern.find fn = some (Extern.Race.marked .acquire) :=
  find_ext _ _ (by kernel_rfl) (by kernel_rfl) next_empty fn hn ho
theorem row_rel (fn : Func) (hn : fn.name = "internal/race.ReleaseMerge") (ho : fn.origin = "") : Extern.findNext fn = none ∧ Extern.find fn = some (Extern.Race.marked .releaseMerge) :=
  find_ext _ _ (by kernel_rfl) (by kernel_rfl) next_empty fn hn ho
theorem row_dis (fn : Func) (hn : fn.name = "internal/race.Disable") (ho : fn.origin = "") : Extern.findNext fn = none ∧ Extern.find fn = some (fun _ => do mark .disable; pure Extern.Race.none_) :=
  find_ext _ _ (by kernel_rfl) (by kernel_rfl) next_empty fn hn ho
theorem row_en (fn : Func) (hn : fn.name = "internal/race.Enable") (ho : fn.origin = "") : Extern.findNext fn = none ∧ Extern.find fn = some (fun _ => do mark .enable; pure Extern.Race.none_) :=
  find_ext _ _ (by kernel_rfl) (by kernel_rfl) next_empty fn hn ho
theorem row_ld (fn : Func) (hn : fn.name = "sync/atomic.LoadUint32") (ho : fn.origin = "") : Extern.findNext fn = none ∧ Extern.find fn = some (Extern.Atomic.loadT (.int .u32)) :=
  find_ext _ _ (by kernel_rfl) (by kernel_rfl) next_empty fn hn ho
theorem row_st (fn : Func) (hn : fn.name = "sync/atomic.StoreUint32") (ho : fn.origin = "") : Extern.findNext fn = none ∧ Extern.find fn = some Extern.Atomic.storeT :=
  find_ext _ _ (by kernel_rfl) (by kernel_rfl) next_empty fn hn ho
theorem row_cas (fn : Func) (hn : fn.name = "sync/atomic.CompareAndSwapInt32") (ho : fn.origin = "") : Extern.findNext fn = none ∧ Extern.find fn = some (Extern.Atomic.casT (.int .i32)) :=
  find_ext _ _ (by kernel_rfl) (by kernel_rfl) next_empty fn hn ho
theorem row_add (fn : Func) (hn : fn.name = "sync/atomic.AddInt32") (ho : fn.origin = "") : Extern.findNext fn = none ∧ Extern.find fn = some (Extern.Atomic.update (Op.intArith .add) .i32 true) :=
  find_ext _ _ (by kernel_rfl) (by kernel_rfl) next_empty fn hn ho
section
variable {P : Program} {φ : Emb} {B : Nat} {H H' : Heap} {w w' : World} {ts : T} {a : Act} {o : Oper} {v : SV}
theorem run_extern {f : FuncId} {fn : Func} {e : Array Value → Sem Value} {args : Array Value} {u : Value} (hf : P.funcs[f]? = some fn) (hb : fn.body.isNone = true) (hn : (fn.name == "runtime.NumGoroutine") = false)
    (h : Extern.findNext fn = none ∧ Extern.find fn = some e) (he : (e args).run P w = .ok u w') : (callFunc f args).run P w = .ok (.value u) w' := by
  unfold callFunc
  simp only [Sem.run_bind, run_program, Result.andThen_ok, hf]
  rw [hn, hb]
  simp only [Bool.false_eq_true, if_false, if_true, h.1, h.2]
  simp [mark, Sem.run, Sem.run_bind, he]
theorem run_call_ext {f : FuncId} {fn : Func} {e : Array Value → Sem Value} {c : Call} {u : Value} (ho : o.op = .call c) (hcal : c.callee = .value (.func f)) (hf : P.funcs[f]? = some fn) (hb : fn.body.isNone = true) (hn : (fn.name == "runtime.NumGoroutine") = false)
    (h : Extern.findNext fn = none ∧ Extern.find fn = some e) (he : (e (c.args.map a.eval)).run P w = .ok u w') : (execOp a.eval o).run P w = .ok (.value u) w' := by
  simp only [execOp, ho, resolve, hcal, Act.eval, Deferred.ofValue, invoke, Sem.run_bind, Sem.run_pure, Result.andThen_ok]
  have := run_extern (args := c.args.map a.eval) hf hb hn h he
  simpa using this
theorem beqU {x c : UInt8} : Nat.beq x.toNat c.toNat = (x == c) := by
  by_cases h : x = c
  · subst h; simp
  · have h' : Nat.beq x.toNat c.toNat = false := by
      cases hb : Nat.beq x.toNat c.toNat with
      | false => rfl
      | true => exact absurd (UInt8.toNat_inj.1 (Nat.eq_of_beq_eq_true hb)) h
    have h'' : (x == c) = false := by simpa using h
    rw [h', h'']
theorem ixb_ok (c : UInt8) : ∀ (l : List UInt8) (i : Nat), ixb (l.map UInt8.toNat) c.toNat i = if Lib.indexByte l c == -1 then -1 else (i : Int) + Lib.indexByte l c
  | [], i => rfl
  | x :: xs, i => by
    simp only [List.map_cons, ixb, beqU, Lib.indexByte]
    by_cases hxc : x = c
    · subst hxc; simp
    · have hxc' : (x == c) = false := by simpa using hxc
      simp only [hxc', Bool.false_eq_true, if_false]
      rw [ixb_ok c xs (i + 1)]
      have hge := Lib.indexByte_ge xs c
      by_cases hm : Lib.indexByte xs c = -1
      · simp [hm]
      · have h1 : (Lib.indexByte xs c == -1) = false := by simpa using hm
        have h2 : (Lib.indexByte xs c + 1 == -1) = false := by
          simp only [beq_eq_false_iff_ne, ne_eq]; omega
        simp only [h1, h2, Bool.false_eq_true, if_false]
        omega
theorem ixb_zero (c : UInt8) (l : List UInt8) : ixb (l.map UInt8.toNat) c.toNat 0 = Lib.indexByte l c := by
  rw [ixb_ok]
  split
  · rename_i h; simp at h; exact h.symm
  · omega
theorem cnb_ok (c : UInt8) : ∀ (l : List UInt8), cnb (l.map UInt8.toNat) c.toNat = Lib.countByte l c
  | [] => rfl
  | x :: xs => by
    simp only [List.map_cons, cnb, beqU, Lib.countByte, List.count_cons, cnb_ok c xs]
    cases h : (x == c) <;> simp
theorem byte_mod (n : Int) : n.toNat % 256 = n.toNat.toUInt8.toNat := by simp
theorem ok_xib {f : FuncId} {fn : Func} {c : Call} {x y : Operand} {x' y' : X} (hx : compX x = some x') (hy : compX y = some y') (ho : o.op = .call c) (hcal : c.callee = .value (.func f)) (hargs : c.args = #[x, y]) (hf : P.funcs[f]? = some fn) (hb : fn.body.isNone = true)
    (hn : fn.name = "internal/bytealg.IndexByteString") (hor : fn.origin = "") (ht : VRL φ ts a.tmps.toList) (hh : HR φ B H w) (he : evalOp (.xib x' y') ts H = some (v, H')) : Done P φ B H w (execOp a.eval o) v H' := by
  have h1 := compX_ok hx ht
  have h2 := compX_ok hy ht
  simp only [evalOp] at he
  split at he
  · rename_i l n e1 e2
    cases he
    rw [e1] at h1
    rw [e2] at h2
    generalize hp : a.eval x = p at h1
    generalize hq : a.eval y = q at h2
    cases h1 with
    | str hl =>
      cases h2
      rename_i s
      refine Done.pure (run_call_ext ho hcal hf hb (by rw [hn]; rfl) (row_ixb fn hn hor) (by
        have hm : c.args.map a.eval = #[.string s, .int .u8 n] := by rw [hargs]; simp [hp, hq]
        rw [hm]
        exact Lib.run_indexByteString s n w)) ?_ hh
      rw [hl, byte_mod, ixb_zero]
      exact .int _ _
  · cases he
theorem ok_xcn {f : FuncId} {fn : Func} {c : Call} {x y : Operand} {x' y' : X} (hx : compX x = some x') (hy : compX y = some y') (ho : o.op = .call c) (hcal : c.callee = .value (.func f)) (hargs : c.args = #[x, y]) (hf : P.funcs[f]? = some fn) (hb : fn.body.isNone = true)
    (hn : fn.name = "internal/bytealg.CountString") (hor : fn.origin = "") (ht : VRL φ ts a.tmps.toList) (hh : HR φ B H w) (he : evalOp (.xcn x' y') ts H = some (v, H')) : Done P φ B H w (execOp a.eval o) v H' := by
  have h1 := compX_ok hx ht
  have h2 := compX_ok hy ht
  simp only [evalOp] at he
  split at he
  · rename_i l n e1 e2
    cases he
    rw [e1] at h1
    rw [e2] at h2
    generalize hp : a.eval x = p at h1
    generalize hq : a.eval y = q at h2
    cases h1 with
    | str hl =>
      cases h2
      rename_i s
      refine Done.pure (run_call_ext ho hcal hf hb (by rw [hn]; rfl) (row_cnb fn hn hor) (by
        have hm : c.args.map a.eval = #[.string s, .int .u8 n] := by rw [hargs]; simp [hp, hq]
        rw [hm]
        exact Lib.run_countString s n w)) ?_ hh
      rw [hl, byte_mod, cnb_ok]
      exact .int _ _
  · cases he
theorem ok_same {f : FuncId} {fn : Func} {c : Call} {x : Operand} {x' : X} (hx : compX x = some x') (ho : o.op = .call c) (hcal : c.callee = .value (.func f)) (hargs : c.args = #[x]) (hf : P.funcs[f]? = some fn) (hb : fn.body.isNone = true)
    (hn : fn.name = "internal/abi.NoEscape") (hor : fn.origin = "") (ht : VRL φ ts a.tmps.toList) (hh : HR φ B H w) (he : evalOp (.mv x') ts H = some (v, H')) : Done P φ B H w (execOp a.eval o) v H' := by
  have h1 := compX_ok hx ht
  simp only [evalOp, Option.some.injEq, Prod.mk.injEq] at he
  obtain ⟨rfl, rfl⟩ := he
  refine Done.pure (run_call_ext ho hcal hf hb (by rw [hn]; rfl) (row_same fn hn hor) (u := a.eval x) ?_) h1 hh
  have hm : c.args.map a.eval = #[a.eval x] := by rw [hargs]; simp
  rw [hm]
  rfl
theorem run_marked {m : Addr → Mark} {ad : Addr} : (Extern.Race.marked m #[.pointer (some ad)]).run P w = .ok Go.undef w := by
  simp [Extern.Race.marked, Extern.Race.at_, Extern.Race.none_, mark, Sem.run, Sem.run_bind, Go.undef]
theorem ok_xnop1 {f : FuncId} {fn : Func} {c : Call} {x : Operand} {x' : X} (hx : compX x = some x') (ho : o.op = .call c) (hcal : c.callee = .value (.func f)) (hargs : c.args = #[x]) (hf : P.funcs[f]? = some fn) (hb : fn.body.isNone = true)
    (hn : fn.name = "internal/race.Acquire" ∨ fn.name = "internal/race.ReleaseMerge") (hor : fn.origin = "") (ht : VRL φ ts a.tmps.toList) (hh : HR φ B H w) (he : evalOp (.xnop (some x')) ts H = some (v, H')) : Done P φ B H w (execOp a.eval o) v H' := by
  have h1 := compX_ok hx ht
  simp only [evalOp] at he
  split at he
  · rename_i b off e1
    cases he
    rw [e1] at h1
    generalize hp : a.eval x = p at h1
    cases h1 with
    | ptr hl =>
      have hm : c.args.map a.eval = #[a.eval x] := by rw [hargs]; simp
      rw [hp] at hm
      rcases hn with hn | hn
      · exact Done.pure (run_call_ext ho hcal hf hb (by rw [hn]; rfl) (row_acq fn hn hor) (u := Go.undef) (by rw [hm]; exact run_marked)) (VR.undef φ) hh
      · exact Done.pure (run_call_ext ho hcal hf hb (by rw [hn]; rfl) (row_rel fn hn hor) (u := Go.undef) (by rw [hm]; exact run_marked)) (VR.undef φ) hh
  · cases he
theorem ok_xnop0 {f : FuncId} {fn : Func} {c : Call} (ho : o.op = .call c) (hcal : c.callee = .value (.func f)) (hf : P.funcs[f]? = some fn) (hb : fn.body.isNone = true)
    (hn : fn.name = "internal/race.Disable" ∨ fn.name = "internal/race.Enable") (hor : fn.origin = "") (hh : HR φ B H w) (he : evalOp (.xnop none) ts H = some (v, H')) : Done P φ B H w (execOp a.eval o) v H' := by
  simp only [evalOp, Option.some.injEq, Prod.mk.injEq] at he
  obtain ⟨rfl, rfl⟩ := he
  rcases hn with hn | hn
  · exact Done.pure (run_call_ext ho hcal hf hb (by rw [hn]; rfl) (row_dis fn hn hor) (u := Go.undef) (by simp [mark, Sem.run, Sem.run_bind, Extern.Race.none_, Go.undef])) (VR.undef φ) hh
  · exact Done.pure (run_call_ext ho hcal hf hb (by rw [hn]; rfl) (row_en fn hn hor) (u := Go.undef) (by simp [mark, Sem.run, Sem.run_bind, Extern.Race.none_, Go.undef])) (VR.undef φ) hh
theorem run_op_call {f : FuncId} {c : Call} {u : Value} (ho : o.op = .call c) (hcal : c.callee = .value (.func f)) (he : (callFunc f (c.args.map a.eval)).run P w = .ok (.value u) w') : (execOp a.eval o).run P w = .ok (.value u) w' := by
  simp only [execOp, ho, resolve, hcal, Act.eval, Deferred.ofValue, invoke, Sem.run_bind, Sem.run_pure, Result.andThen_ok]
  simpa using he
theorem HR.cell (hh : HR φ B H w) {b off : Nat} {l : Loc} {x y : SV} {u : Value} (hl : φ b = some l) (h1 : loadC H b off 1 = some [x]) (h2 : storeC H b off [y] = some H') (hy : VR φ y u) :
    ∃ v, w.cell? ⟨l.rb, l.base + off, none⟩ = some v ∧ VR φ x v ∧ w.frozen? ⟨l.rb, l.base + off, none⟩ = false ∧ HR φ B H' (w.setCell ⟨l.rb, l.base + off, none⟩ u) ∧ Below B w (w.setCell ⟨l.rb, l.base + off, none⟩ u) := by
  obtain ⟨vs, hv, hlen, hcell, _⟩ := hh.load hl h1
  cases hv with
  | cons hv0 ht0 =>
    rename_i v us
    have hu := hcell 0 _ rfl
    simp only [Nat.add_zero] at hu
    obtain ⟨g1, g2, g3, g4, g5⟩ := hh.store hl h2 (.cons hy .nil)
    have hf := g2 0 (by simp)
    simp only [Nat.add_zero] at hf
    exact ⟨v, hu, hv0, hf, g4, g5⟩
section
variable {f : FuncId} {fn : Func} {c : Call} {x y z : Operand} {x' y' z' : X} {k : IntKind}
theorem ok_xld (hx : compX x = some x') (ho : o.op = .call c) (hcal : c.callee = .value (.func f)) (hargs : c.args = #[x]) (hf : P.funcs[f]? = some fn) (hb : fn.body.isNone = true)
    (hn : (fn.name == "runtime.NumGoroutine") = false) (hrow : Extern.findNext fn = none ∧ Extern.find fn = some (Extern.Atomic.loadT (.int k))) (ht : VRL φ ts a.tmps.toList) (hh : HR φ B H w) (he : evalOp (.xld k x') ts H = some (v, H')) : Done P φ B H w (execOp a.eval o) v H' := by
  have h1 := compX_ok hx ht
  simp only [evalOp] at he
  split at he
  · rename_i b off e1
    split at he
    · rename_i k' n hl
      split at he
      · rename_i hk
        subst hk
        cases he
        rw [e1] at h1
        generalize hp : a.eval x = p at h1
        cases h1 with
        | ptr hloc =>
          rename_i l
          obtain ⟨vs, hv, hlen, hcell, _⟩ := hh.load hloc hl
          cases hv with
          | cons hv0 ht0 =>
            rename_i u us
            cases hv0
            have hu := hcell 0 _ rfl
            simp only [Nat.add_zero] at hu
            have hm : c.args.map a.eval = #[.pointer (some ⟨l.rb, l.base + off, none⟩)] := by rw [hargs]; simp [hp]
            refine Done.pure (run_op_call ho hcal (u := .int k n) ?_) (.int _ _) hh
            rw [hm]
            exact run_call_load hf hn hb hrow.1 k hrow.2 hu
      · cases he
    · cases he
  · cases he
theorem ok_xst (hx : compX x = some x') (hy : compX y = some y') (ho : o.op = .call c) (hcal : c.callee = .value (.func f)) (hargs : c.args = #[x, y]) (hf : P.funcs[f]? = some fn) (hb : fn.body.isNone = true)
    (hn : (fn.name == "runtime.NumGoroutine") = false) (hrow : Extern.findNext fn = none ∧ Extern.find fn = some Extern.Atomic.storeT) (ht : VRL φ ts a.tmps.toList) (hh : HR φ B H w) (he : evalOp (.xst x' y') ts H = some (v, H')) : Done P φ B H w (execOp a.eval o) v H' := by
  have h1 := compX_ok hx ht
  have h2 := compX_ok hy ht
  simp only [evalOp] at he
  split at he
  · rename_i b off k n e1 e2
    split at he
    · rename_i x0 hl
      split at he
      · rename_i H1 hst
        cases he
        rw [e1] at h1
        rw [e2] at h2
        generalize hp : a.eval x = p at h1
        generalize hq : a.eval y = q at h2
        cases h2
        cases h1 with
        | ptr hloc =>
          rename_i l
          obtain ⟨u, g1, g2, g3, g4, g5⟩ := hh.cell hloc hl hst (.int k n)
          have hm : c.args.map a.eval = #[.pointer (some ⟨l.rb, l.base + off, none⟩), .int k n] := by rw [hargs]; simp [hp, hq]
          refine Done.mk (Nat.le_of_eq (storeC_next hst).symm) (Emb.ext.refl φ _) (run_op_call ho hcal (u := .tuple #[]) ?_) (VR.undef φ) g4 g5
          rw [hm]
          exact run_call_store hf hn hb hrow.1 hrow.2 g1 g3
      · cases he
    · cases he
  · cases he
theorem ok_xcas (hx : compX x = some x') (hy : compX y = some y') (hz : compX z = some z') (ho : o.op = .call c) (hcal : c.callee = .value (.func f)) (hargs : c.args = #[x, y, z]) (hf : P.funcs[f]? = some fn) (hb : fn.body.isNone = true)
    (hn : (fn.name == "runtime.NumGoroutine") = false) (hrow : Extern.findNext fn = none ∧ Extern.find fn = some (Extern.Atomic.casT (.int k))) (ht : VRL φ ts a.tmps.toList) (hh : HR φ B H w) (he : evalOp (.xcas k x' y' z') ts H = some (v, H')) : Done P φ B H w (execOp a.eval o) v H' := by
  have h1 := compX_ok hx ht
  have h2 := compX_ok hy ht
  have h3 := compX_ok hz ht
  simp only [evalOp] at he
  split at he
  · rename_i b off kx m ky n e1 e2 e3
    split at he
    · rename_i k' n' hl
      split at he
      · rename_i hk
        obtain ⟨rfl, rfl, rfl, rfl⟩ := hk
        split at he
        · rename_i H1 hst
          cases he
          rw [e1] at h1
          rw [e2] at h2
          rw [e3] at h3
          generalize hp : a.eval x = p at h1
          generalize hq : a.eval y = q at h2
          generalize hs : a.eval z = s at h3
          cases h2
          cases h3
          cases h1 with
          | ptr hloc =>
            rename_i l
            obtain ⟨u, g1, g2, g3, g4, g5⟩ := hh.cell hloc hl hst (.int _ n)
            cases g2
            have hm : c.args.map a.eval = #[.pointer (some ⟨l.rb, l.base + off, none⟩), .int ky n', .int ky n] := by rw [hargs]; simp [hp, hq, hs]
            refine Done.mk (Nat.le_of_eq (storeC_next hst).symm) (Emb.ext.refl φ _) (run_op_call ho hcal (u := .bool true) ?_) (.bool true) g4 g5
            rw [hm]
            exact run_call_cas_hit hf hn hb hrow.1 _ hrow.2 g1 g3
        · cases he
      · cases he
    · cases he
  · cases he
theorem ok_xadd (hx : compX x = some x') (hy : compX y = some y') (ho : o.op = .call c) (hcal : c.callee = .value (.func f)) (hargs : c.args = #[x, y]) (hf : P.funcs[f]? = some fn) (hb : fn.body.isNone = true)
    (hn : (fn.name == "runtime.NumGoroutine") = false) (hrow : Extern.findNext fn = none ∧ Extern.find fn = some (Extern.Atomic.update (Op.intArith .add) k true)) (ht : VRL φ ts a.tmps.toList) (hh : HR φ B H w) (he : evalOp (.xadd k x' y') ts H = some (v, H')) : Done P φ B H w (execOp a.eval o) v H' := by
  have h1 := compX_ok hx ht
  have h2 := compX_ok hy ht
  simp only [evalOp] at he
  split at he
  · rename_i b off kx n e1 e2
    split at he
    · rename_i k' n' hl
      split at he
      · rename_i hk
        obtain ⟨rfl, rfl⟩ := hk
        split at he
        · rename_i H1 hst
          cases he
          rw [e1] at h1
          rw [e2] at h2
          generalize hp : a.eval x = p at h1
          generalize hq : a.eval y = q at h2
          cases h2
          cases h1 with
          | ptr hloc =>
            rename_i l
            obtain ⟨u, g1, g2, g3, g4, g5⟩ := hh.cell hloc hl hst (.int kx (kx.wrap (n' + n)))
            cases g2
            have hm : c.args.map a.eval = #[.pointer (some ⟨l.rb, l.base + off, none⟩), .int kx n] := by rw [hargs]; simp [hp, hq]
            refine Done.mk (Nat.le_of_eq (storeC_next hst).symm) (Emb.ext.refl φ _) (run_op_call ho hcal (u := .int kx (kx.wrap (n' + n))) ?_) (.int _ _) g4 g5
            rw [hm]
            exact run_call_add hf hn hb hrow.1 _ hrow.2 g1 g3 (by simp [Op.intArith] <;> rfl)
        · cases he
      · cases he
    · cases he
  · cases he
theorem mapO_cons {α β : Type} {g : α → Option β} {l : List α} {y : β} {ys : List β} (h : mapO g l = some (y :: ys)) : ∃ x xs, l = x :: xs ∧ g x = some y ∧ mapO g xs = some ys := by
  cases l with
  | nil => simp [mapO] at h
  | cons x xs =>
    simp only [mapO] at h
    split at h
    · rename_i y' h1
      split at h
      · rename_i ys' h2
        cases h
        exact ⟨x, xs, rfl, h1, h2⟩
      · cases h
    · cases h
theorem mapO_nil {α β : Type} {g : α → Option β} {l : List α} (h : mapO g l = some []) : l = [] := by
  cases l with
  | nil => rfl
  | cons x xs =>
    simp only [mapO] at h
    split at h
    · split at h <;> cases h
    · cases h
theorem arr_of {α : Type} {xs : Array α} {l : List α} (h : xs.toList = l) : xs = l.toArray := by cases xs; simp_all
theorem compExt_ok {so : SOp} (hc : compExt P f c.args = some so) (ho : o.op = .call c) (hcal : c.callee = .value (.func f)) (ht : VRL φ ts a.tmps.toList) (hh : HR φ B H w)
    (he : evalOp so ts H = some (v, H')) : Done P φ B H w (execOp a.eval o) v H' := by
  unfold compExt at hc
  split at hc
  · rename_i fn hf
    split at hc
    · rename_i hbo
      simp only [Bool.and_eq_true, beq_iff_eq] at hbo
      obtain ⟨hb, hor⟩ := hbo
      split at hc
      · rename_i hm
        have hargs := arr_of (mapO_nil hm)
        split at hc
        · rename_i hn
          cases hc
          simp only [Bool.or_eq_true, beq_iff_eq] at hn
          exact ok_xnop0 ho hcal hf hb hn hor hh he
        · cases hc
      · rename_i x1 hm
        obtain ⟨o1, r1, e1, c1, hm⟩ := mapO_cons hm
        have := mapO_nil hm
        subst this
        have hargs := arr_of e1
        split at hc
        · rename_i hn
          cases hc
          exact ok_same c1 ho hcal hargs hf hb (by simpa using hn) hor ht hh he
        · split at hc
          · rename_i hn
            cases hc
            simp only [Bool.or_eq_true, beq_iff_eq] at hn
            exact ok_xnop1 c1 ho hcal hargs hf hb hn hor ht hh he
          · split at hc
            · rename_i hn
              cases hc
              have hn := eq_of_beq hn
              exact ok_xld c1 ho hcal hargs hf hb (by rw [hn]; rfl) (row_ld fn hn hor) ht hh he
            · cases hc
      · rename_i x1 x2 hm
        obtain ⟨o1, r1, e1, c1, hm⟩ := mapO_cons hm
        obtain ⟨o2, r2, e2, c2, hm⟩ := mapO_cons hm
        have := mapO_nil hm
        subst this
        subst e2
        have hargs := arr_of e1
        split at hc
        · rename_i hn
          cases hc
          exact ok_xib c1 c2 ho hcal hargs hf hb (by simpa using hn) hor ht hh he
        · split at hc
          · rename_i hn
            cases hc
            exact ok_xcn c1 c2 ho hcal hargs hf hb (by simpa using hn) hor ht hh he
          · split at hc
            · rename_i hn
              cases hc
              have hn := eq_of_beq hn
              exact ok_xst c1 c2 ho hcal hargs hf hb (by rw [hn]; rfl) (row_st fn hn hor) ht hh he
            · split at hc
              · rename_i hn
                cases hc
                have hn := eq_of_beq hn
                exact ok_xadd c1 c2 ho hcal hargs hf hb (by rw [hn]; rfl) (row_add fn hn hor) ht hh he
              · cases hc
      · rename_i x1 x2 x3 hm
        obtain ⟨o1, r1, e1, c1, hm⟩ := mapO_cons hm
        obtain ⟨o2, r2, e2, c2, hm⟩ := mapO_cons hm
        obtain ⟨o3, r3, e3, c3, hm⟩ := mapO_cons hm
        have := mapO_nil hm
        subst this
        subst e3
        subst e2
        have hargs := arr_of e1
        split at hc
        · rename_i hn
          cases hc
          have hn := eq_of_beq hn
          exact ok_xcas c1 c2 c3 ho hcal hargs hf hb (by rw [hn]; rfl) (row_cas fn hn hor) ht hh he
        · cases hc
      · cases hc
    · cases hc
  · cases hc
end
end
end Go.Sh
end
