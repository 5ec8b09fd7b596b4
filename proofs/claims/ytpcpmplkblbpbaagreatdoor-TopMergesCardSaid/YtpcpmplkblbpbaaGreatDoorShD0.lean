/-
  Maps, at keys and values that are not known.
  Merges: units of texts, and what is read of them. (frame style z)
  Merges: choose, Lead, texts. (frame style z)
  Merges: the texts of units by name. (frame style z)
-/
import Derived.Test.YtpcpmplkblbpbaaGreatDoorShC7
set_option linter.all false
section
namespace Go.Sh
set_option maxRecDepth 10000
set_option linter.all false
section
variable {ts : T} {H : Heap}
def lkuS (agg : Bool) (L : List (Nat × Nat)) (zero : SV) (ok : Bool) (es : Option (List (SV × SV × Nat))) (k : SV) : Option SV := match es, eqVal agg L k k with
  | some es, some _ => match findS agg L k es 0 with
    | none => none
    | some none => some (if ok then .tup [zero, .bool false] else zero)
    | some (some (_, v)) => some (if ok then .tup [v, .bool true] else v)
  | _, _ => none
theorem op_lku (agg : Bool) (L : List (Nat × Nat)) (zero : SV) (ok : Bool) (m k : X) : evalOp (.lku agg L zero ok m k) ts H = okS (lkuS agg L zero ok (entS H (m.ev ts)) (k.ev ts)) H := by
  simp only [evalOp, lkuS]
  cases entS H (m.ev ts) with
  | none => rfl
  | some es =>
    cases eqVal agg L (k.ev ts) (k.ev ts) with
    | none => rfl
    | some b =>
      dsimp only
      cases findS agg L (k.ev ts) es 0 with
      | none => rfl
      | some r => cases r <;> rfl
def mupS (agg : Bool) (L : List (Nat × Nat)) (H : Heap) (m k v : SV) : Option (SV × Heap) := match m with
  | .map b => match H.get b, eqVal agg L k k with
    | some (.map es clock), some _ => match findS agg L k es 0 with
      | none => none
      | some (some (i, _)) => match es[i]? with
        | some (k', _, _) => match sameAll k' k with
          | true => some (.undef, H.put b (.map (mapSet k v i es) clock))
          | false => none
        | none => none
      | some none => some (.undef, H.put b (.map (es ++ [(k, v, clock)]) (clock + 1)))
    | _, _ => none
  | _ => none
theorem op_mup (agg : Bool) (L : List (Nat × Nat)) (m k v : X) : evalOp (.mup agg L m k v) ts H = mupS agg L H (m.ev ts) (k.ev ts) (v.ev ts) := by
  simp only [evalOp, mupS]
  cases m.ev ts <;> rfl
theorem op_mkm : evalOp .mkm ts H = some (.map H.next, H.push (.map [] 0)) := rfl
end
attribute [go_sem] op_lku op_mup op_mkm
theorem bq_unit (t x : List Nat) (k : Int) : beqS (.agg [.str t, .int .i64 k, .str x]) (.agg [.str t, .int .i64 k, .str x]) = true := by simp [beqS, beqOne, beqList, eqS_dec]
theorem bq_name (t : List Nat) (k : Int) : beqS (.agg [.str t, .int .i64 k]) (.agg [.str t, .int .i64 k]) = true := by simp [beqS, beqOne, beqList, eqS_dec]
attribute [go_sem] bq_unit bq_name
theorem ED_call {call : CallS} {ts ts' : T} {H H' : Heap} {v : SV} {d : Nat} {f : FuncId} {xs : List X} {args : List SV} {dops : List (SOper × DK)} {Q : List T → List SV → List Heap → T → Prop} (ha : evs ts xs = args) (he : call f args H = some (v, H')) (hs : ts.set d v = ts') (h : ED call dops ts' H' fun tss vs hs tn => Q (ts :: tss) (v :: vs) (H :: hs) tn) :
    ED call ((⟨some d, .call f xs, none⟩, .eff) :: dops) ts H Q := by
  unfold ED at h ⊢
  obtain ⟨tss, vs, hs', tn, h1, h2⟩ := h
  subst hs ha
  exact ⟨ts :: tss, v :: vs, H :: hs', tn, by simp only [List.map_cons, textD, wantedS, evalK, he, putT, h1], h2⟩
structure KeyOK {K : Type} [DecidableEq K] (agg : Bool) (L : List (Nat × Nat)) (kC : K → SV) : Prop where
  eq : ∀ a b, eqVal agg L (kC a) (kC b) = some (decide (a = b))
  same : ∀ a, sameAll (kC a) (kC a) = true
def Mp {K V : Type} [DecidableEq K] (kC : K → SV) (vC : V → SV) (H : Heap) (b : Nat) (g : K → Option V) : Prop :=
  ∃ (es : List (SV × SV × Nat)) (ck : Nat) (P : List (K × V)), H.get b = some (.map es ck) ∧ es.map (fun e => (e.1, e.2.1)) = P.map (fun p => (kC p.1, vC p.2)) ∧ ∀ k, g k = (P.find? fun p => decide (p.1 = k)).map (·.2)
section
variable {K V : Type} [DecidableEq K] {kC : K → SV} {vC : V → SV} {agg : Bool} {L : List (Nat × Nat)} {H : Heap} {b : Nat} {g : K → Option V}
theorem find_map (hk : KeyOK agg L kC) (k : K) : ∀ (es : List (SV × SV × Nat)) (P : List (K × V)) (i : Nat), es.map (fun e => (e.1, e.2.1)) = P.map (fun p => (kC p.1, vC p.2)) →
    (findS agg L (kC k) es i = some none ∧ P.find? (fun p => decide (p.1 = k)) = none) ∨
    ∃ j v, findS agg L (kC k) es i = some (some (i + j, vC v)) ∧ P.find? (fun p => decide (p.1 = k)) = some (k, v) ∧ P[j]? = some (k, v) ∧ (∃ c, es[j]? = some (kC k, vC v, c)) ∧ ∀ p ∈ P.take j, p.1 ≠ k
  | [], P, i, h => by
    cases P with
    | nil => exact .inl ⟨rfl, rfl⟩
    | cons p P => simp at h
  | (k', v', c) :: es, [], i, h => by simp at h
  | (k', v', c) :: es, (k0, v0) :: P, i, h => by
    simp only [List.map_cons, List.cons.injEq, Prod.mk.injEq] at h
    obtain ⟨⟨rfl, rfl⟩, h⟩ := h
    simp only [findS, hk.eq]
    by_cases e : k = k0
    · subst e
      right
      exact ⟨0, v0, by simp, by simp, rfl, ⟨c, rfl⟩, by simp⟩
    · have e' : ¬ k0 = k := fun h => e h.symm
      rw [decide_eq_false e]
      rcases find_map hk k es P (i + 1) h with ⟨h1, h2⟩ | ⟨j, v, h1, h2, h3, h4, h5⟩
      · left
        exact ⟨h1, by rw [List.find?_cons, decide_eq_false e']; exact h2⟩
      · right
        refine ⟨j + 1, v, by rw [h1, Nat.add_assoc, Nat.add_comm 1 j], by rw [List.find?_cons, decide_eq_false e']; exact h2, by simpa using h3, by simpa using h4, ?_⟩
        intro p hp
        rw [List.take_succ_cons] at hp
        rcases List.mem_cons.1 hp with rfl | hp
        · exact e'
        · exact h5 p hp
theorem Mp.lku (h : Mp kC vC H b g) (hk : KeyOK agg L kC) (zero : SV) (k : K) : lkuS agg L zero false (entS H (.map b)) (kC k) = some ((g k).elim zero vC) := by
  obtain ⟨es, ck, P, hg, he, hf⟩ := h
  have e1 : entS H (.map b) = some es := by simp only [entS, hg]
  rw [e1, hf k]
  simp only [lkuS, hk.eq]
  rcases find_map hk k es P 0 he with ⟨h1, h2⟩ | ⟨j, v, h1, h2, _⟩
  · rw [h1, h2]; rfl
  · rw [h1, h2]; rfl
theorem mapSet_map {k v : SV} : ∀ {es : List (SV × SV × Nat)} {i : Nat}, i < es.length → (mapSet k v i es).map (fun e => (e.1, e.2.1)) = (es.map (fun e => (e.1, e.2.1))).set i (k, v)
  | [], i, h => by simp at h
  | (_, _, n) :: es, 0, h => rfl
  | e :: es, i + 1, h => by
    simp only [mapSet, List.map_cons, List.set_cons_succ]
    rw [mapSet_map (by simpa using h)]
theorem find_set {P : List (K × V)} {k : K} {v : V} : ∀ {j : Nat} {v0 : V}, P[j]? = some (k, v0) → (∀ p ∈ P.take j, p.1 ≠ k) → ∀ k', ((P.set j (k, v)).find? fun p => decide (p.1 = k')).map (·.2) = if k' = k then some v else (P.find? fun p => decide (p.1 = k')).map (·.2) := by
  induction P with
  | nil => intro j v0 h; simp at h
  | cons p P ih =>
    intro j v0 h hno k'
    cases j with
    | zero =>
      simp at h
      subst h
      rw [List.set_cons_zero, List.find?_cons, List.find?_cons]
      by_cases e : k = k'
      · subst e; simp
      · have e' : ¬ k' = k := fun h => e h.symm
        simp [e, e']
    | succ j =>
      have hp : p.1 ≠ k := hno p (by simp)
      rw [List.set_cons_succ, List.find?_cons, List.find?_cons]
      by_cases e : p.1 = k'
      · have e' : ¬ k' = k := fun h => hp (e.trans h)
        simp [e, e']
      · simp only [decide_eq_false e]
        exact ih (by simpa using h) (fun q hq => hno q (by simp [hq])) k'
theorem Mp.mup (h : Mp kC vC H b g) (hk : KeyOK agg L kC) (k : K) (v : V) : ∃ o, mupS agg L H (.map b) (kC k) (vC v) = some (.undef, H.put b o) ∧ Mp kC vC (H.put b o) b (fun k' => if k' = k then some v else g k') := by
  obtain ⟨es, ck, P, hg, he, hf⟩ := h
  simp only [mupS, hg, hk.eq]
  rcases find_map hk k es P 0 he with ⟨h1, h2⟩ | ⟨j, v0, h1, h2, h3, ⟨c, h4⟩, h5⟩
  · rw [h1]
    refine ⟨_, rfl, es ++ [(kC k, vC v, ck)], ck + 1, P ++ [(k, v)], get_put_self _ _, by simp [he], fun k' => ?_⟩
    show (if k' = k then some v else g k') = _
    rw [List.find?_append, hf k']
    by_cases e : k' = k
    · subst e
      rw [h2]
      simp
    · have e' : ¬ k = k' := fun h => e h.symm
      simp [e, e']
  · rw [h1]
    simp only [Nat.zero_add, h4, hk.same]
    have hj : j < es.length := (List.getElem?_eq_some_iff.1 h4).1
    refine ⟨_, rfl, mapSet (kC k) (vC v) j es, ck, P.set j (k, v), get_put_self _ _, ?_, fun k' => ?_⟩
    · rw [mapSet_map hj, he, List.map_set]
    · show (if k' = k then some v else g k') = _
      rw [find_set h3 h5, hf k']
theorem Mp.new (H : Heap) : Mp kC vC (H.push (.map [] 0)) H.next (fun _ => none) := ⟨[], 0, [], get_push_self _, rfl, fun _ => rfl⟩
theorem Mp.ext {H' : Heap} (h : Mp kC vC H b g) (hb : H'.get b = H.get b) : Mp kC vC H' b g := by
  obtain ⟨es, ck, P, hg, he, hf⟩ := h
  exact ⟨es, ck, P, hb.trans hg, he, hf⟩
end
end Go.Sh
end
section
namespace Go.Sh
set_option maxRecDepth 10000
set_option linter.all false
structure Un where
  title : List Nat
  nth : Nat
  text : List Nat
deriving DecidableEq
def unC (u : Un) : List SV := [.str u.title, .int .i64 (u.nth : Int), .str u.text]
theorem unC_all (L : List Un) : AllL 3 (L.map unC) := fun x hx => by
  obtain ⟨t, _, rfl⟩ := List.mem_map.1 hx
  rfl
theorem un_cell {L : List Un} {i : Nat} {x : Un} (hi : L[i]? = some x) (j : Nat) {c : SV} (hj : (unC x)[j]? = some c) (hj3 : j < 3) : (L.map unC).flatten[i * 3 + j]? = some c :=
  flat_cell (unC_all L) (by rw [List.getElem?_map, hi]; rfl) hj hj3
def Su (B0 : Nat) (H : Heap) (v : SV) (L : List Un) : Prop :=
  L ≠ [] ∧ ∃ (b : Nat) (c : Option Nat) (ex : Bool), B0 ≤ b ∧ b < H.next ∧ v = .slice b 0 L.length c 3 ∧ (c = none ∨ c = some L.length) ∧ H.get b = some (.row (L.map unC).flatten 51 ex false 0)
theorem tab16 : tabT 16 = some (.code c16) := by kernel_rfl
theorem tab17 : tabT 17 = some (.code c17) := by kernel_rfl
theorem tab27 : tabT 27 = some (.code c27) := by kernel_rfl
theorem tab33 : tabT 33 = some (.code c33) := by kernel_rfl
theorem tab13 : tabT 13 = some (.code c13) := by kernel_rfl
theorem tab14 : tabT 14 = some (.code c14) := by kernel_rfl
theorem tab18 : tabT 18 = some (.code c18) := by kernel_rfl
theorem tab9 : tabT 9 = some (.code c9) := by kernel_rfl
section
variable {lf n : Nat} {H : Heap}
theorem named_ok {u : Un} (hn : 1 ≤ n) : ∃ H', callS tabT lf n 16 [.agg (unC u)] H = some (.agg [.str u.title, .int .i64 (u.nth : Int)], H') ∧ Ext H H' := by
  obtain ⟨n, rfl⟩ : ∃ m, n = m + 1 := ⟨n - 1, by omega⟩
  have key : ∃ v H', callS tabT lf (n + 1) 16 [.agg (unC u)] H = some (v, H') ∧ v = .agg [.str u.title, .int .i64 (u.nth : Int)] ∧ Ext H H' := by
    simp only [unC]
    refine call_code tab16 (by simp only [c16, go_sem, List.reduceReplicate, Nat.reduceAdd, Nat.reduceSub]; exact rfl) ?_
    simp only [c16]
    refine stp trivial ?_
    refine ret1 trivial ?_
    exact (⟨rfl, ((Ext.refl _).push _).push _ |>.put (by simp [next_push]) _⟩)
  obtain ⟨v, H', h, rfl, hE⟩ := key
  exact ⟨H', h, hE⟩
def opC (o : Option (List Nat)) : SV := match o with
  | some t => .agg [.bool true, .str t]
  | none => .agg [.bool false, .str []]
def unitF (L : List Un) (u : Un) : Option (List Nat) := (L.find? fun y => decide (y.title = u.title ∧ y.nth = u.nth)).map Un.text
def opT (o : Option (List Nat)) : SV := match o with
  | some t => .tup [.str t, .bool true]
  | none => .tup [.str [], .bool false]
@[reducible] def I27 (b : Nat) (c : Option Nat) (L : List Un) (u : Un) (p : Nat) (H1 : Heap) (m : Nat) (ts : T) (D : DS) (H' : Heap) : Prop :=
  D = [] ∧ H' = H1 ∧ ∃ i : Nat, m = L.length - i ∧ i ≤ L.length ∧ (∀ j y, j < i → L[j]? = some y → ¬ (y.title = u.title ∧ y.nth = u.nth)) ∧
    ∃ z : Nat → SV, ts = ((.slice b 0 L.length c 3) :: z 1 :: z 2 :: (.ptr p 0) :: z 4 :: z 5 :: (.int .i64 (i : Int)) :: z 7 :: z 8 :: z 9 :: z 10 :: z 11 :: z 12 :: z 13 :: z 14 :: z 15 :: z 16 :: z 17 :: z 18 :: z 19 :: z 20 :: z 21 :: z 22 :: z 23 :: z 24 :: z 25 :: z 26 :: z 27 :: z 28 :: z 29 :: z 30 :: z 31 :: z 32 :: z 33 :: z 34 :: z 35 :: [] : T) ∧ (True)
theorem unit_ok {B0 : Nat} {v : SV} {L : List Un} {u : Un} (hv : Su B0 H v L) (hL : L.length < 1000) (hn : 1 ≤ n) (hlf : L.length < lf) :
    ∃ H', callS tabT lf n 27 [v, .agg (unC u)] H = some (opT (unitF L u), H') ∧ Ext H H' := by
  obtain ⟨n, rfl⟩ : ∃ m, n = m + 1 := ⟨n - 1, by omega⟩
  obtain ⟨hne, b, c, ex, hb0, hb, rfl, hc, hrow⟩ := hv
  have key : ∃ w H', callS tabT lf (n + 1) 27 [.slice b 0 L.length c 3, .agg (unC u)] H = some (w, H') ∧ w = opT (unitF L u) ∧ Ext H H' := by
    have hcell := fun (j k : Nat) (y : Un) (c : SV) (hj : L[j]? = some y) (hc : (unC y)[k]? = some c) (hk : k < 3) => rowL_one (e := 51) (ex := ex) (ro := false) (frz := 0) (un_cell hj k hc hk)
    have hfl : (L.map unC).flatten.length = L.length * 3 := by rw [flatten_len (unC_all _), List.length_map]
    obtain ⟨cs, hcs⟩ : ∃ cs, (L.map unC).flatten = cs := ⟨_, rfl⟩
    rw [hcs] at hrow hcell hfl
    obtain ⟨H1, hH1⟩ : ∃ H1, H.push (.row [.str u.title, .int .i64 (u.nth : Int), .str u.text] 51 true false 0) = H1 := ⟨_, rfl⟩
    have hp : H1.get H.next = some (.row [.str u.title, .int .i64 (u.nth : Int), .str u.text] 51 true false 0) := by rw [← hH1]; exact get_push_self _
    have hrow1 : H1.get b = some (.row cs 51 ex false 0) := by rw [← hH1, get_push_old hb]; exact hrow
    have hE1 : Ext H H1 := by rw [← hH1]; exact (Ext.refl _).push _
    simp only [unC]
    refine call_code tab27 (by simp only [c27, go_sem, List.reduceReplicate, Nat.reduceAdd, Nat.reduceSub]; exact rfl) ?_
    simp only [c27]
    refine stp @hH1 ?_
    refine EC_loop (I := I27 b c L u H.next H1) ?_ L.length ?_ hlf
    · rintro m ts D H2 ⟨rfl, rfl, i, rfl, hi, hno, ⟨z, rfl, -⟩⟩
      refine stp trivial ?_
      refine cst trivial (fun hc => ?_) (fun hc => ?_) <;> try simp only [decide_eq_true_eq, decide_eq_false_iff_not, not_true_eq_false, not_false_eq_true, Int.not_lt, Int.not_le, ge_iff_le, gt_iff_lt] at hc
      · obtain ⟨y, hy⟩ : ∃ y, L[i]? = some y := ⟨_, List.getElem?_eq_getElem (by omega)⟩
        have q0 := hcell i 0 y (.str y.title) hy rfl (by omega)
        have q1 := hcell i 1 y (.int .i64 (y.nth : Int)) hy rfl (by omega)
        have q2 := hcell i 2 y (.str y.text) hy rfl (by omega)
        rw [Nat.add_zero] at q0
        by_cases h1 : y.title = u.title
        · have d1 : decide (y.title = u.title) = true := decide_eq_true h1
          by_cases h2 : y.nth = u.nth
          · have d2 : decide ((y.nth : Int) = (u.nth : Int)) = true := decide_eq_true (by omega)
            refine stp (And.intro @hrow1 (And.intro @hp (And.intro @q0 (And.intro @q1 (And.intro @d1 @d2))))) ?_
            refine cstT (And.intro @d1 @d2) ?_
            refine stp (And.intro @hrow1 @q2) ?_
            have hf : unitF L u = some y.text := by
              have : L.find? (fun y => decide (y.title = u.title ∧ y.nth = u.nth)) = some y := by
                rw [List.find?_eq_some_iff_getElem]
                refine ⟨by simp [h1, h2], i, (List.getElem?_eq_some_iff.1 hy).1, (List.getElem?_eq_some_iff.1 hy).2, fun j hj => ?_⟩
                have := hno j L[j] hj (List.getElem?_eq_getElem (by omega))
                simp only [decide_eq_false this, Bool.not_false]
              rw [unitF, this]
              rfl
            refine ret2 trivial ?_
            exact (⟨by rw [hf]; rfl, hE1⟩)
          · have d2 : decide ((y.nth : Int) = (u.nth : Int)) = false := decide_eq_false (by omega)
            refine stp (And.intro @hrow1 (And.intro @hp (And.intro @q0 (And.intro @q1 (And.intro @d1 @d2))))) ?_
            refine cstE (And.intro @d1 @d2) ?_
            refine stp trivial ?_
            refine loopR_normal (L.length - (i + 1)) (by omega) ⟨rfl, rfl, i + 1, rfl, by omega, ?_, ?_⟩
            · intro j z hj hz
              rcases Nat.lt_succ_iff_lt_or_eq.1 hj with h | rfl
              · exact hno j z h hz
              · rw [hy] at hz
                cases hz
                exact fun h => h2 h.2
            · exact (frame_in (by rfl) (trivial))
        · have d1 : decide (y.title = u.title) = false := decide_eq_false h1
          refine stp (And.intro @hrow1 (And.intro @hp (And.intro @q0 @d1))) ?_
          refine cstE @d1 ?_
          refine stp trivial ?_
          refine loopR_normal (L.length - (i + 1)) (by omega) ⟨rfl, rfl, i + 1, rfl, by omega, ?_, ?_⟩
          · intro j z hj hz
            rcases Nat.lt_succ_iff_lt_or_eq.1 hj with h | rfl
            · exact hno j z h hz
            · rw [hy] at hz
              cases hz
              exact fun h => h1 h.1
          · exact (frame_in (by rfl) (trivial))
      · refine stp trivial ?_
        have hf : unitF L u = none := by
          have : L.find? (fun y => decide (y.title = u.title ∧ y.nth = u.nth)) = none := by
            rw [List.find?_eq_none]
            intro y hy
            obtain ⟨j, hj, rfl⟩ := List.getElem_of_mem hy
            have := hno j L[j] (by omega) (List.getElem?_eq_getElem hj)
            simpa using this
          rw [unitF, this]
          rfl
        refine ret2 trivial ?_
        exact (⟨by rw [hf]; rfl, hE1⟩)
    · refine ⟨rfl, rfl, 0, by omega, by omega, fun j y hj => by omega, ?_⟩
      exact (frame_in (by rfl) (trivial))
  obtain ⟨w, H', h, rfl, hE⟩ := key
  exact ⟨H', h, hE⟩
end
end Go.Sh
end
section
namespace Go.Sh
set_option maxRecDepth 10000
set_option linter.all false
theorem opC_eq (a b : Option (List Nat)) : eqVal true [(0, 0), (1, 2)] (opC a) (opC b) = some (decide (a = b)) := by
  cases a with
  | none =>
    cases b with
    | none => rfl
    | some t => rfl
  | some s =>
    cases b with
    | none => rfl
    | some t =>
      show (match some (eqS s t) with | some true => some true | some false => some false | none => none) = _
      rw [eqS_dec]
      by_cases h : s = t
      · subst h; simp
      · have : ¬ some s = some t := fun e => h (Option.some.inj e)
        simp [h]
def chooseF (b o t : Option (List Nat)) : Option (List Nat) × Bool :=
  if o = t then (o, false) else if o = b then (t, false) else if t = b then (o, false) else if o.isSome then (o, true) else (t, true)
def opRow (o : Option (List Nat)) : List SV := match o with
  | some t => [.bool true, .str t]
  | none => [.bool false, .str []]
theorem opC_row (o : Option (List Nat)) : opC o = .agg (opRow o) := by cases o <;> rfl
theorem opRow_len (o : Option (List Nat)) : (opRow o).length = 2 := by cases o <;> rfl
theorem opRow_one (o : Option (List Nat)) : (opRow o).all SV.one = true := by cases o <;> rfl
def nmC (k : List Nat × Nat) : SV := .agg [.str k.1, .int .i64 (k.2 : Int)]
theorem nm_key : KeyOK true [(0, 2), (1, 1)] nmC where
  eq := fun a b => by
    obtain ⟨a1, a2⟩ := a
    obtain ⟨b1, b2⟩ := b
    show (match some (eqS a1 b1) with | some true => (match (if IntKind.i64 = IntKind.i64 then some (((a2 : Int)) == ((b2 : Int))) else none) with | some true => some true | some false => some false | none => none) | some false => some false | none => none) = _
    rw [eqS_dec, if_pos rfl]
    by_cases h : a1 = b1
    · subst h
      by_cases h2 : a2 = b2
      · subst h2; simp
      · have : ¬ ((a2 : Int) = (b2 : Int)) := by omega
        have e2 : (((a2 : Int)) == ((b2 : Int))) = false := by simpa using this
        rw [e2]
        simp [h2]
    · simp [h]
  same := fun a => by
    show (eqS a.1 a.1 && ((decide (IntKind.i64 = IntKind.i64) && ((a.2 : Int) == (a.2 : Int))) && true)) = true
    rw [eqS_dec]
    simp
section
variable {lf n : Nat} {H : Heap}
theorem choose_ok {b o t : Option (List Nat)} (hn : 1 ≤ n) : ∃ H', callS tabT lf n 17 [opC b, opC o, opC t] H = some (.tup [opC (chooseF b o t).1, .bool (chooseF b o t).2], H') ∧ Ext H H' := by
  obtain ⟨n, rfl⟩ : ∃ m, n = m + 1 := ⟨n - 1, by omega⟩
  have key : ∃ v H', callS tabT lf (n + 1) 17 [.agg (opRow b), .agg (opRow o), .agg (opRow t)] H = some (v, H') ∧ v = .tup [opC (chooseF b o t).1, .bool (chooseF b o t).2] ∧ Ext H H' := by
    obtain ⟨H1, hH1⟩ : ∃ H1, (((H.push (.row (opRow b) 56 true false 0)).push (.row (opRow o) 56 true false 0)).push (.row (opRow t) 56 true false 0)).push (.row [.bool false, .str []] 56 true false 0) = H1 := ⟨_, rfl⟩
    have hn1 : H1.next = H.next + 4 := by rw [← hH1]; rfl
    have hb : H1.get H.next = some (.row (opRow b) 56 true false 0) := by rw [← hH1, get_push_old (by simp only [next_push]; omega), get_push_old (by simp only [next_push]; omega), get_push_old (by simp only [next_push]; omega)]; exact get_push_self _
    have ho : H1.get (H.next + 1) = some (.row (opRow o) 56 true false 0) := by rw [← hH1, get_push_old (by simp only [next_push]; omega), get_push_old (by simp only [next_push]; omega)]; exact get_push_self _
    have ht : H1.get (H.next + 1 + 1) = some (.row (opRow t) 56 true false 0) := by rw [← hH1, get_push_old (by simp only [next_push]; omega)]; exact get_push_self _
    have hE1 : Ext H H1 := by rw [← hH1]; exact ((((Ext.refl _).push _).push _).push _).push _
    have hr : H1.get (H.next + 1 + 1 + 1) = some (.row [.bool false, .str []] 56 true false 0) := by rw [← hH1]; exact get_push_self _
    have hrow : ∀ (x : Option (List Nat)), rowL (some (.row (opRow x) 56 true false 0)) 0 2 = some (opRow x) := fun x => by cases x <;> rfl
    have eot : eqVal true [(0, 0), (1, 2)] (.agg (opRow o)) (.agg (opRow t)) = some (decide (o = t)) := by rw [← opC_row, ← opC_row]; exact opC_eq o t
    have eob : eqVal true [(0, 0), (1, 2)] (.agg (opRow o)) (.agg (opRow b)) = some (decide (o = b)) := by rw [← opC_row, ← opC_row]; exact opC_eq o b
    have etb : eqVal true [(0, 0), (1, 2)] (.agg (opRow t)) (.agg (opRow b)) = some (decide (t = b)) := by rw [← opC_row, ← opC_row]; exact opC_eq t b
    have cb : (SV.agg (opRow b)).cells = opRow b := rfl
    have co : (SV.agg (opRow o)).cells = opRow o := rfl
    have ct : (SV.agg (opRow t)).cells = opRow t := rfl
    have hsto : ∀ x : Option (List Nat), storeS 2 (.ptr (H.next + 1 + 1 + 1) 0) (opRow x) H1 = some (H1.put (H.next + 1 + 1 + 1) (.row (opRow x) 56 true false 0)) := fun x => by
      cases x with
      | none => rw [opRow, store_ptr (n := 2) (cs := [.bool false, .str []]) rfl, storeC_eq, hr, sto_row (by decide) (by decide) (by rfl)]; rfl
      | some y => rw [opRow, store_ptr (n := 2) (cs := [.bool true, .str y]) rfl, storeC_eq, hr, sto_row (by simp) (by decide) (by rfl)]; rfl
    have hE2 : ∀ ob, Ext H (H1.put (H.next + 1 + 1 + 1) ob) := fun ob => hE1.put (by omega) _
    have lb : (opRow b).length = 2 := opRow_len b
    have lo : (opRow o).length = 2 := opRow_len o
    have lt : (opRow t).length = 2 := opRow_len t
    refine call_code tab17 (by simp only [c17, go_sem, List.reduceReplicate, Nat.reduceAdd, Nat.reduceSub]; exact rfl) ?_
    simp only [c17]
    refine stp (And.intro @cb (And.intro @co (And.intro @ct @hH1))) ?_
    refine stp (And.intro @hb (And.intro @ho (And.intro @ht (And.intro @hrow @eot)))) ?_
    by_cases h1 : o = t
    · have d1 : decide (o = t) = true := decide_eq_true h1
      refine cstT @d1 ?_
      have hf : chooseF b o t = (o, false) := by rw [chooseF, if_pos h1]
      refine stp (And.intro @ho (And.intro @hrow (And.intro @co @hsto))) ?_
      refine ret2 @hrow ?_
      exact (⟨by rw [hf, ← opC_row], hE2 _⟩)
    · have d1 : decide (o = t) = false := decide_eq_false h1
      refine cstE @d1 ?_
      refine stp (And.intro @hb (And.intro @ho (And.intro @ht (And.intro @hrow @eob)))) ?_
      by_cases h2 : o = b
      · have d2 : decide (o = b) = true := decide_eq_true h2
        have hf : chooseF b o t = (t, false) := by rw [chooseF, if_neg h1, if_pos h2]
        refine cstT @d2 ?_
        refine stp (And.intro @ht (And.intro @hrow (And.intro @ct @hsto))) ?_
        refine ret2 @hrow ?_
        exact (⟨by rw [hf, ← opC_row], hE2 _⟩)
      · have d2 : decide (o = b) = false := decide_eq_false h2
        refine cstE @d2 ?_
        refine stp (And.intro @hb (And.intro @ho (And.intro @ht (And.intro @hrow @etb)))) ?_
        by_cases h3 : t = b
        · have d3 : decide (t = b) = true := decide_eq_true h3
          have hf : chooseF b o t = (o, false) := by rw [chooseF, if_neg h1, if_neg h2, if_pos h3]
          refine cstT @d3 ?_
          refine stp (And.intro @ho (And.intro @hrow (And.intro @co @hsto))) ?_
          refine ret2 @hrow ?_
          exact (⟨by rw [hf, ← opC_row], hE2 _⟩)
        · have d3 : decide (t = b) = false := decide_eq_false h3
          refine cstE @d3 ?_
          have hb0 : rowL (some (.row (opRow o) 56 true false 0)) 0 1 = some [.bool o.isSome] := by cases o <;> rfl
          refine stp (And.intro @ho @hb0) ?_
          by_cases h4 : o.isSome = true
          · have hf : chooseF b o t = (o, true) := by rw [chooseF, if_neg h1, if_neg h2, if_neg h3, if_pos h4]
            refine cstT @h4 ?_
            refine stp (And.intro @ho (And.intro @hrow (And.intro @co @hsto))) ?_
            refine ret2 @hrow ?_
            exact (⟨by rw [hf, ← opC_row], hE2 _⟩)
          · have h5 : o.isSome = false := by simpa using h4
            have hf : chooseF b o t = (t, true) := by rw [chooseF, if_neg h1, if_neg h2, if_neg h3, if_neg h4]
            refine cstE @h5 ?_
            refine stp (And.intro @ht (And.intro @hrow (And.intro @ct @hsto))) ?_
            refine ret2 @hrow ?_
            exact (⟨by rw [hf, ← opC_row], hE2 _⟩)
  obtain ⟨v, H', h, rfl, hE⟩ := key
  simp only [← opC_row] at h
  exact ⟨H', h, hE⟩
def leadF (s : List Nat) (S : List Sec) : List Nat := match S with
  | [] => s
  | x :: _ => s.take x.frm
theorem lead_ok {s : List Nat} {ls : List (List Nat)} {last : List Nat} (hp : Plain s) (hs : Bts s) (hL : LinesOK s ls last) (hlen : s.length ≤ 8192) (hfr : ∀ x ∈ secsF (headsL s.length 0 ls last), x.frm ≤ s.length) (hn : 10 ≤ n) (hlf : s.length + 2 < lf) :
    ∃ H', callS tabT lf n 33 [.str s] H = some (.tup [.str (leadF s (secsF (headsL s.length 0 ls last))), .int .i64 0], H') ∧ Ext H H' := by
  obtain ⟨n, rfl⟩ : ∃ m, n = m + 1 := ⟨n - 1, by omega⟩
  have key : ∃ v H', callS tabT lf (n + 1) 33 [.str s] H = some (v, H') ∧ v = .tup [.str (leadF s (secsF (headsL s.length 0 ls last))), .int .i64 0] ∧ Ext H H' := by
    obtain ⟨w, H1, hsec, hE, hsl⟩ := sections_ok (lf := lf) (n := n) (H := H) hp hs hL hlen (by omega) hlf
    obtain ⟨S, hS⟩ : ∃ S, secsF (headsL s.length 0 ls last) = S := ⟨_, rfl⟩
    rw [hS] at hsl hfr
    rw [hS]
    have d0 : decide ((0 : Int) ≠ ((0 : Nat) : Int)) = false := by decide
    refine call_code tab33 (by simp only [c33, go_sem, List.reduceReplicate, Nat.reduceAdd, Nat.reduceSub]; exact rfl) ?_
    simp only [c33]
    refine stp trivial ?_
    refine kst trivial hsec ?_
    cases S with
    | nil =>
      obtain rfl : w = .nils := by
        rcases hsl with ⟨_, h⟩ | ⟨h, _⟩
        · exact h
        · exact absurd rfl h
      have e00 : decide ((0 : Int) = ((0 : Nat) : Int)) = true := by decide
      refine stp @d0 ?_
      refine cstE @d0 ?_
      refine stp @e00 ?_
      refine cstT @e00 ?_
      refine stp trivial ?_
      refine ret2 trivial ?_
      exact (⟨rfl, hE⟩)
    | cons x S =>
      obtain ⟨b, hb1, hb2, rfl, hrow⟩ := hsl.at (i := 0) (x := secC x) rfl
      have r2 : rowL (some (.row (((x :: S).map secC)).flatten 110 false false 0)) 2 1 = some [.int .i64 (x.frm : Int)] := rowL_one (e := 110) (ex := false) (ro := false) (frz := 0) (by simpa using sec_cell (L := x :: S) (i := 0) (x := x) rfl 2 rfl (by omega))
      have hfl : (((x :: S).map secC)).flatten.length = (S.length + 1) * 5 := by rw [flatten_len (secC_all _), List.length_map]; rfl
      have hx := hfr x (List.mem_cons_self ..)
      obtain ⟨cs, hcs⟩ : ∃ cs, (((x :: S).map secC)).flatten = cs := ⟨_, rfl⟩
      rw [hcs] at hrow r2 hfl
      have htk : (s.drop 0).take x.frm = s.take x.frm := rfl
      rw [List.length_map]
      have hl : (x :: S).length = S.length + 1 := rfl
      have e0 : decide (((S.length + 1 : Nat) : Int) = ((0 : Nat) : Int)) = false := by simp only [decide_eq_false_iff_not]; omega
      rw [hl]
      refine stp (And.intro @d0 @e0) ?_
      refine cstE @d0 ?_
      refine stp @e0 ?_
      refine cstE @e0 ?_
      refine stp (And.intro @hrow @r2) ?_
      refine ret2 (And.intro @htk @Nat.sub_zero) ?_
      exact (⟨rfl, hE⟩)
  obtain ⟨v, H', h, rfl, hE⟩ := key
  exact ⟨H', h, hE⟩
end
end Go.Sh
end
section
namespace Go.Sh
set_option maxRecDepth 10000
set_option linter.all false
def txC (t : List Nat) : SV := .agg [.bool true, .str t]
theorem op_tx (g : Option (List Nat)) : g.elim (.agg [.bool false, .str []]) txC = opC g := by cases g <;> rfl
def textsF : List Un → (List Nat × Nat) → Option (List Nat)
  | [], _ => none
  | u :: L, k => match textsF L k with
    | some t => some t
    | none => if k = (u.title, u.nth) then some u.text else none
theorem textsF_snoc (L : List Un) (u : Un) : textsF (L ++ [u]) = fun k => if k = (u.title, u.nth) then some u.text else textsF L k := by
  induction L with
  | nil => funext k; simp [textsF]
  | cons x L ih =>
    funext k
    rw [List.cons_append, textsF, ih]
    simp only [textsF]
    by_cases h : k = (u.title, u.nth)
    · rw [if_pos h, if_pos h]
    · rw [if_neg h, if_neg h]
@[reducible] def I14 (b : Nat) (c : Option Nat) (L : List Un) (mb : Nat) (H0 : Heap) (m : Nat) (ts : T) (D : DS) (H' : Heap) : Prop :=
  D = [] ∧ Ext H0 H' ∧ mb < H'.next ∧ ∃ i : Nat, m = L.length - i ∧ i ≤ L.length ∧ Mp nmC txC H' mb (textsF (L.take i)) ∧
    ∃ z : Nat → SV, ts = (z 0 :: z 1 :: z 2 :: (.map mb) :: z 4 :: z 5 :: z 6 :: (.slice b 0 L.length c 3) :: (.int .i64 (L.length : Int)) :: (.int .i64 (i : Int)) :: z 10 :: z 11 :: z 12 :: z 13 :: z 14 :: z 15 :: z 16 :: z 17 :: z 18 :: z 19 :: z 20 :: [] : T) ∧ (True)
section
variable {lf n : Nat} {H : Heap}
theorem texts_ok {B0 : Nat} {v : SV} {L : List Un} (hv : Su B0 H v L) (hL : L.length < 1000) (hn : 2 ≤ n) (hlf : L.length < lf) :
    ∃ mb H', callS tabT lf n 14 [v] H = some (.map mb, H') ∧ Ext H H' ∧ H.next ≤ mb ∧ mb < H'.next ∧ Mp nmC txC H' mb (textsF L) := by
  obtain ⟨n, rfl⟩ : ∃ m, n = m + 1 := ⟨n - 1, by omega⟩
  obtain ⟨hne, b, c, ex, hb0, hb, rfl, hc, hrow⟩ := hv
  have key : ∃ w H', callS tabT lf (n + 1) 14 [.slice b 0 L.length c 3] H = some (w, H') ∧ ∃ mb, w = .map mb ∧ Ext H H' ∧ H.next ≤ mb ∧ mb < H'.next ∧ Mp nmC txC H' mb (textsF L) := by
    have hat := fun (j : Nat) (y : Un) (hj : L[j]? = some y) => rowL_at (z := 3) (i := j) (e := 51) (ex := ex) (ro := false) (frz := 0) (unC_all L) (by rw [List.getElem?_map, hj]; rfl : (L.map unC)[j]? = some (unC y))
    have hfl : (L.map unC).flatten.length = L.length * 3 := by rw [flatten_len (unC_all _), List.length_map]
    obtain ⟨cs, hcs⟩ : ∃ cs, (L.map unC).flatten = cs := ⟨_, rfl⟩
    rw [hcs] at hrow hat hfl
    refine call_code tab14 (by simp only [c14, go_sem, List.reduceReplicate, Nat.reduceAdd, Nat.reduceSub]; exact rfl) ?_
    simp only [c14]
    refine stp trivial ?_
    refine EC_loop (I := I14 b c L H.next H) ?_ L.length ?_ hlf
    · rintro m ts D H1 ⟨rfl, hE, hmb, i, rfl, hi, hM, ⟨z, rfl, -⟩⟩
      refine stp trivial ?_
      refine cst trivial (fun hc => ?_) (fun hc => ?_) <;> try simp only [decide_eq_true_eq, decide_eq_false_iff_not, not_true_eq_false, not_false_eq_true, Int.not_lt, Int.not_le, ge_iff_le, gt_iff_lt] at hc
      · obtain ⟨y, hy⟩ : ∃ y, L[i]? = some y := ⟨_, List.getElem?_eq_getElem (by omega)⟩
        have q := hat i y hy
        have hrow1 : H1.get b = some (.row cs 51 ex false 0) := by rw [hE.2 b hb]; exact hrow
        obtain ⟨H2, hH2⟩ : ∃ H2, (H1.push (.row [.str [], .int .i64 ((0 : Nat) : Int), .str []] 51 true false 0)).put H1.next (.row (unC y) 51 true false 0) = H2 := ⟨_, rfl⟩
        have hp : H2.get H1.next = some (.row (unC y) 51 true false 0) := by rw [← hH2]; exact get_put_self _ _
        have hE2 : Ext H1 H2 := by rw [← hH2]; exact ((Ext.refl _).push _).put (Nat.le_refl _) _
        simp only [unC] at q hp hH2
        obtain ⟨H3, hnm, hE3⟩ := named_ok (lf := lf) (n := n) (H := H2) (u := y) (by omega)
        simp only [unC] at hnm
        have hp3 : H3.get H1.next = some (.row [.str y.title, .int .i64 (y.nth : Int), .str y.text] 51 true false 0) := by
          rw [hE3.2 _ (by rw [← hH2]; exact Nat.lt_succ_self _)]; exact hp
        have hM3 : Mp nmC txC H3 H.next (textsF (L.take i)) := hM.ext (by
          rw [hE3.2 _ (by rw [← hH2, next_put, next_push]; omega), hE2.2 _ hmb])
        obtain ⟨o, hmu, hM4⟩ := hM3.mup nm_key (y.title, y.nth) y.text
        simp only [nmC, txC] at hmu
        refine stp (And.intro @hrow1 (And.intro @q @hH2)) ?_
        refine EC_draw rfl ?_
        refine stp @hp ?_
        refine ED_call (by exact sfc @hp) hnm (by simp only [List.set_cons_zero, List.set_cons_succ]; with_reducible rfl) ?_
        refine stp @hp3 ?_
        refine ED_effN (by simp only [go_sem]; exact hmu) ?_
        refine stp trivial ?_
        refine ⟨?_, fun h => (by cases h), _, (by simp only [List.getLast?_cons_cons, List.getLast?_singleton]; first | done | with_reducible rfl), ?_⟩
        · apply readsD_pure; apply readsD_read
          · simp only [allFrom, Bool.and_eq_true, and_true]
            exact quiet_ok (H' := H2) (by exact sfc @hp) (by simp only [go_sem])
          · apply readsD_eff; apply readsD_pure; apply readsD_read
            · simp only [allFrom, Bool.and_eq_true, and_true]
              exact ⟨quiet_ok (H' := H2) (by exact sfc @hp) (by simp only [go_sem]), quiet_ok (H' := H3) (by exact sfc @hp3) (by simp only [go_sem])⟩
            · repeat (first | exact readsD_nil _ _ _ | apply readsD_pure | apply readsD_eff)
        · have hE4 : Ext H H3 := (hE.trans hE2).trans hE3
          refine stp trivial ?_
          refine loopR_normal (L.length - (i + 1)) (by omega) ⟨rfl, hE4.put (Nat.le_refl _) _, ?_, i + 1, rfl, by omega, ?_, ?_⟩
          · rw [next_put]
            exact Nat.lt_of_lt_of_le hmb (Nat.le_trans hE2.1 hE3.1)
          · have ht : L.take (i + 1) = L.take i ++ [y] := by rw [List.take_succ, hy]; rfl
            rw [ht, textsF_snoc]
            exact hM4
          · exact (frame_in (by rfl) (trivial))
      · refine stp trivial ?_
        rw [List.take_of_length_le (by omega)] at hM
        refine ret1 trivial ?_
        exact (⟨H.next, rfl, hE, Nat.le_refl _, hmb, hM⟩)
    · refine ⟨rfl, (Ext.refl _).push _, Nat.lt_succ_self _, 0, by omega, by omega, Mp.new H, ?_⟩
      exact (frame_in (by rfl) (trivial))
  obtain ⟨w, H', h, mb, rfl, hr⟩ := key
  exact ⟨mb, H', h, hr⟩
end
end Go.Sh
end
