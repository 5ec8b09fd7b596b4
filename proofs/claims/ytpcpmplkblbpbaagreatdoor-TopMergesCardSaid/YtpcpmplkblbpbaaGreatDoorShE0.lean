/-
  Merges: order. (frame style z)
-/
import Derived.Test.YtpcpmplkblbpbaaGreatDoorShD9
set_option linter.all false
section
namespace Go.Sh
set_option maxRecDepth 10000
set_option linter.all false
def stepO (T out : List Un) (i : Nat) : List Un := match T[i]? with
  | some u => match ixP out (nmU u) with
    | some _ => out
    | none => match T[i - 1]? with
      | some p => match ixP out (nmU p) with
        | some j => out.take (j + 1) ++ u :: out.drop (j + 1)
        | none => out
      | none => out
  | none => out
def ordI (O T : List Un) : Nat → List Un
  | 0 => O
  | i + 1 => stepO T (ordI O T i) i
def ordF (O T : List Un) : List Un := ordI O T T.length
theorem stepO_mono {T out : List Un} {i : Nat} {y : Un} (h : y ∈ out) : y ∈ stepO T out i := by
  unfold stepO
  repeat' split
  all_goals first | exact h | skip
  rename_i j _
  rw [← List.take_append_drop (j + 1) out] at h
  rcases List.mem_append.1 h with h | h
  · exact List.mem_append_left _ h
  · exact List.mem_append_right _ (List.mem_cons_of_mem _ h)
theorem stepO_has {T out : List Un} {i : Nat} {u : Un} (hu : T[i]? = some u) (hp : ixP out (nmU u) = none → ∃ p j, T[i - 1]? = some p ∧ ixP out (nmU p) = some j) : ∃ y ∈ stepO T out i, nmU y = nmU u := by
  cases h : ixP out (nmU u) with
  | some j =>
    have e : stepO T out i = out := by simp only [stepO, hu, h]
    rw [e]
    exact ixP_has.1 ⟨j, h⟩
  | none =>
    obtain ⟨p, j, h1, h2⟩ := hp h
    have e : stepO T out i = out.take (j + 1) ++ u :: out.drop (j + 1) := by simp only [stepO, hu, h, h1, h2]
    rw [e]
    exact ⟨u, by simp, rfl⟩
theorem stepO_mem {T out : List Un} {i : Nat} {y : Un} (h : y ∈ stepO T out i) : y ∈ out ∨ y ∈ T := by
  unfold stepO at h
  split at h
  · rename_i u hu
    repeat' split at h
    all_goals first | exact .inl h | skip
    rcases List.mem_append.1 h with h | h
    · exact .inl (List.mem_of_mem_take h)
    · rcases List.mem_cons.1 h with h | h
      · subst h
        exact .inr (List.mem_of_getElem? hu)
      · exact .inl (List.mem_of_mem_drop h)
  · exact .inl h
theorem stepO_len {T out : List Un} {i : Nat} : out.length ≤ (stepO T out i).length ∧ (stepO T out i).length ≤ out.length + 1 := by
  unfold stepO
  repeat' split
  all_goals first | omega | skip
  simp only [List.length_append, List.length_cons, List.length_take, List.length_drop]
  omega
theorem stepO_head {T out : List Un} {i : Nat} (h : out ≠ []) : (stepO T out i).head? = out.head? := by
  unfold stepO
  repeat' split
  all_goals first | rfl | skip
  cases out with
  | nil => exact absurd rfl h
  | cons x xs => simp
theorem ordI_len (O T : List Un) : ∀ i, O.length ≤ (ordI O T i).length ∧ (ordI O T i).length ≤ O.length + i
  | 0 => by simp [ordI]
  | i + 1 => by
    have h := ordI_len O T i
    have k := stepO_len (T := T) (out := ordI O T i) (i := i)
    simp only [ordI]
    omega
theorem ordI_old {O T : List Un} {y : Un} (h : y ∈ O) : ∀ i, y ∈ ordI O T i
  | 0 => h
  | i + 1 => stepO_mono (ordI_old h i)
theorem ordI_mem {O T : List Un} {y : Un} : ∀ {i}, y ∈ ordI O T i → y ∈ O ∨ y ∈ T
  | 0, h => .inl h
  | i + 1, h => (stepO_mem h).elim (fun h => ordI_mem h) .inr
theorem ordI_has {O T : List Un} (h0 : ∀ u, T[0]? = some u → ∃ y ∈ O, nmU y = nmU u) : ∀ i j u, j < i → T[j]? = some u → ∃ y ∈ ordI O T i, nmU y = nmU u
  | 0, j, u, hj, _ => by omega
  | i + 1, j, u, hj, hu => by
    rcases Nat.lt_succ_iff_lt_or_eq.1 hj with h | rfl
    · obtain ⟨y, h1, h2⟩ := ordI_has h0 i j u h hu
      exact ⟨y, stepO_mono h1, h2⟩
    · refine stepO_has hu fun hno => ?_
      cases j with
      | zero =>
        obtain ⟨i, hi⟩ := ixP_has.2 (h0 u hu)
        rw [ordI] at hno
        rw [hi] at hno
        cases hno
      | succ j =>
        have hl := (List.getElem?_eq_some_iff.1 hu).1
        obtain ⟨p, hp⟩ : ∃ p, T[j]? = some p := ⟨_, List.getElem?_eq_getElem (by omega)⟩
        obtain ⟨q, hq⟩ := ixP_has.2 (ordI_has h0 (j + 1) j p (Nat.lt_succ_self _) hp)
        exact ⟨p, q, hp, hq⟩
theorem ordI_ne {O T : List Un} (h : O ≠ []) (i : Nat) : ordI O T i ≠ [] := by
  have := (ordI_len O T i).1
  have h1 := List.length_pos_iff.2 h
  exact List.length_pos_iff.1 (by omega)
theorem ordI_head {O T : List Un} (h : O ≠ []) : ∀ i, (ordI O T i).head? = O.head?
  | 0 => rfl
  | i + 1 => by rw [ordI, stepO_head (ordI_ne h i), ordI_head h i]
theorem HD_skipk {os : List (SOper × DK)} {o : SOper} {dk : DK} {ts : T} {H : Heap} {v : SV} {Q : List SV → Heap → Prop} {k N : Nat} (hk : ∀ lo hi, dk ≠ .hoist lo hi) (hd : o.dst ≠ some k) (hv : ts.getD k SV.undef = v) (hl : ts.length = N)
    (h : ∀ ts' : T, ts'.getD k SV.undef = v → ts'.length = N → HD os ts' H fun vs H' => Q (SV.undef :: vs) H') : HD ((o, dk) :: os) ts H Q :=
  HD_skip hk (h _ (by rw [foreT_get hd]; exact hv) (by rw [foreT_len]; exact hl))
theorem HD_val {os : List (SOper × DK)} {s : SOp} {d lo hi : Nat} {ts : T} {H H' : Heap} {v : SV} {Q : List SV → Heap → Prop} (he : evalOp s ts H = some (v, H')) (h : HD os (ts.set d v) H fun vs H' => Q (SV.undef :: vs) H') : HD ((⟨some d, .op s, none⟩, .read lo hi) :: os) ts H Q :=
  HD_skip (fun _ _ h => by cases h) (by rw [foreT_val he]; exact h)
theorem getD_set_self {ts : T} {d : Nat} {v : SV} (h : d < ts.length) : (ts.set d v).getD d SV.undef = v := by
  simp [List.getD_eq_getElem?_getD, h]
@[reducible] def I15 (vT : SV) (O Th : List Un) (tp : Nat) (H0 : Heap) (m : Nat) (ts : T) (D : DS) (H' : Heap) : Prop :=
  D = [] ∧ tp < H'.next ∧ (∀ k, k < H0.next → H'.get k = H0.get k) ∧ ∃ (i b : Nat), m = Th.length - i ∧ i ≤ Th.length ∧ H0.next ≤ b ∧ b < H'.next ∧ b ≠ tp ∧
    H'.get tp = some (.row [.slice b 0 (ordI O Th i).length none 3] 43 true false 0) ∧ H'.get b = some (.row ((ordI O Th i).map unC).flatten 51 false false 0) ∧
    ∃ z : Nat → SV, ts = (z 0 :: (vT) :: z 2 :: z 3 :: z 4 :: (.ptr tp 0) :: (.func 35 [] [.ptr tp 0]) :: z 7 :: z 8 :: z 9 :: z 10 :: z 11 :: (vT) :: (.int .i64 (Th.length : Int)) :: (.int .i64 (i : Int)) :: z 15 :: z 16 :: z 17 :: z 18 :: z 19 :: z 20 :: z 21 :: z 22 :: z 23 :: z 24 :: z 25 :: z 26 :: z 27 :: z 28 :: z 29 :: z 30 :: z 31 :: z 32 :: z 33 :: z 34 :: z 35 :: z 36 :: z 37 :: z 38 :: [] : T) ∧ (True)
section
variable {lf n : Nat} {H : Heap}
theorem order_ok {B0 B1 : Nat} {vO vT : SV} {O Th : List Un} (hO : Su B0 H vO O) (hT : Su B1 H vT Th) (h0 : ∀ u, Th[0]? = some u → ∃ y ∈ O, nmU y = nmU u) (hOl : O.length < 400) (hTl : Th.length < 400) (hn : 5 ≤ n) (hlf : 1000 < lf) :
    ∃ b H', callS tabT lf n 15 [vO, vT] H = some (.slice b 0 (ordF O Th).length none 3, H') ∧ Ext H H' ∧ H.next ≤ b ∧ b < H'.next ∧ H'.get b = some (.row ((ordF O Th).map unC).flatten 51 false false 0) := by
  obtain ⟨n, rfl⟩ : ∃ m, n = m + 1 := ⟨n - 1, by omega⟩
  obtain ⟨bO, H1, hcl, hE1, hbO0, hbO1, hrowO⟩ := clone_ok (lf := lf) (n := n) hO (by omega) (by omega)
  have hOne : O ≠ [] := hO.1
  obtain ⟨hne, b, c, ex, hb0, hb, rfl, hc, hrow⟩ := hT
  have key : ∃ w H', callS tabT lf (n + 1) 15 [vO, .slice b 0 Th.length c 3] H = some (w, H') ∧ ∃ b', w = .slice b' 0 (ordF O Th).length none 3 ∧ Ext H H' ∧ H.next ≤ b' ∧ b' < H'.next ∧ H'.get b' = some (.row ((ordF O Th).map unC).flatten 51 false false 0) := by
    have hat := fun (j : Nat) (y : Un) (hj : Th[j]? = some y) => rowL_at (z := 3) (i := j) (e := 51) (ex := ex) (ro := false) (frz := 0) (unC_all Th) (by rw [List.getElem?_map, hj]; rfl : (Th.map unC)[j]? = some (unC y))
    have hfl : (Th.map unC).flatten.length = Th.length * 3 := by rw [flatten_len (unC_all _), List.length_map]
    obtain ⟨cs, hcs⟩ : ∃ cs, (Th.map unC).flatten = cs := ⟨_, rfl⟩
    rw [hcs] at hrow hat hfl
    have hone : ∀ v : SV, rowL (some (.row [v] 43 true false 0)) 0 1 = some [v] := fun v => rfl
    refine call_code tab15 (by simp only [c15, go_sem, List.reduceReplicate, Nat.reduceAdd, Nat.reduceSub]; exact rfl) ?_
    simp only [c15]
    refine stp trivial ?_
    refine kst trivial hcl ?_
    obtain ⟨H2, hH2⟩ : ∃ H2, (H1.push (.row [.nils] 43 true false 0)).put H1.next (.row [.slice bO 0 O.length none 3] 43 true false 0) = H2 := ⟨_, rfl⟩
    have hst : storeS 1 (.ptr H1.next 0) [.slice bO 0 O.length none 3] (H1.push (.row [.nils] 43 true false 0)) = some H2 := by
      rw [store_ptr (n := 1) rfl, storeC_eq, get_push_self, sto_row (by simp) (by omega) rfl]
      exact congrArg some hH2
    refine stp @hst ?_
    refine EC_loop (I := I15 (.slice b 0 Th.length c 3) O Th H1.next H) ?_ Th.length ?_ (by omega)
    · rintro m ts D H3 ⟨rfl, htp, hk3, i, b', rfl, hi, hb'0, hb'1, hbt, hgt, hgb, ⟨z, rfl, -⟩⟩
      refine stp trivial ?_
      refine cst trivial (fun hc => ?_) (fun hc => ?_) <;> try simp only [decide_eq_true_eq, decide_eq_false_iff_not, not_true_eq_false, not_false_eq_true, Int.not_lt, Int.not_le, ge_iff_le, gt_iff_lt] at hc
      · obtain ⟨u, hu⟩ : ∃ u, Th[i]? = some u := ⟨_, List.getElem?_eq_getElem (by omega)⟩
        have q := hat i u hu
        have hn1 := hE1.1
        have hrow3 : H3.get b = some (.row cs 51 ex false 0) := by rw [hk3 b hb]; exact hrow
        obtain ⟨H4, hH4⟩ : ∃ H4, (H3.push (.row [.str [], .int .i64 ((0 : Nat) : Int), .str []] 51 true false 0)).put H3.next (.row (unC u) 51 true false 0) = H4 := ⟨_, rfl⟩
        have hp4 : H4.get H3.next = some (.row (unC u) 51 true false 0) := by rw [← hH4]; exact get_put_self _ _
        have hE4 : Ext H3 H4 := by rw [← hH4]; exact ((Ext.refl _).push _).put (Nat.le_refl _) _
        have hn4 : H4.next = H3.next + 1 := by rw [← hH4]; rfl
        have hlen := (ordI_len O Th i).2
        have hne' := ordI_ne hOne (T := Th) i
        have hstep : ordI O Th (i + 1) = stepO Th (ordI O Th i) i := rfl
        have hhas := fun j u => ordI_has (O := O) (T := Th) h0 i j u
        obtain ⟨O', hO'⟩ : ∃ O', ordI O Th i = O' := ⟨_, rfl⟩
        rw [hO'] at hgt hgb hlen hne' hstep hhas
        obtain ⟨H5, hnm, hE5⟩ := named_ok (lf := lf) (n := n) (H := H4) (u := u) (by omega)
        have hE45 := hE4.trans hE5
        have hn5 := hE5.1
        have hS5 : Su H.next H5 (.slice b' 0 O'.length none 3) O' := ⟨hne', b', none, false, hb'0, by omega, rfl, .inl rfl, by rw [hE45.2 b' hb'1]; exact hgb⟩
        obtain ⟨H6, hat6, hE6⟩ := at35_ok (lf := lf) (n := n) (k := nmU u) hS5 (p := H1.next) (by rw [hE45.2 _ htp]; exact hgt) (by omega) (by omega) (by omega) (by omega)
        have hn6 := hE6.1
        have hE36 := hE45.trans hE6
        have hat6' : callS tabT lf n 35 [.agg [.str u.title, .int .i64 (u.nth : Int)], .ptr H1.next 0] H5 = some (.int .i64 (ixI O' (nmU u)), H6) := hat6
        simp only [unC] at q hp4 hH4 hnm
        refine stp (And.intro @hrow3 (And.intro @q @hH4)) ?_
        refine stp @hp4 ?_
        refine kst trivial hnm ?_
        refine EO_calld (by exact sfc @trivial) (by exact sfc (And.intro @List.nil_append.{0} @List.cons_append.{0})) hat6' (by simp only [List.set_cons_zero, List.set_cons_succ]; with_reducible rfl) ?_
        refine stp trivial ?_
        cases hix : ixP O' (nmU u) with
        | some j =>
          have d1 : decide (ixI O' (nmU u) < ((0 : Nat) : Int)) = false := by rw [ixI, hix]; simp only [decide_eq_false_iff_not]; omega
          refine cstE @d1 ?_
          refine stp trivial ?_
          have he : ordI O Th (i + 1) = O' := by rw [hstep, stepO, hu]; simp only [hix]
          refine loopR_normal (Th.length - (i + 1)) (by omega) ⟨rfl, by omega, fun k hk => by rw [hE36.2 k (by omega)]; exact hk3 k hk, i + 1, b', rfl, by omega, hb'0, by omega, hbt, ?_, ?_, ?_⟩
          · rw [he, hE36.2 _ htp]; exact hgt
          · rw [he, hE36.2 _ hb'1]; exact hgb
          · exact (frame_in (by rfl) (trivial))
        | none =>
          have d1 : decide (ixI O' (nmU u) < ((0 : Nat) : Int)) = true := by rw [ixI, hix]; decide
          obtain ⟨i, rfl⟩ : ∃ i', i = i' + 1 := by
            cases i with
            | succ i => exact ⟨i, rfl⟩
            | zero =>
              obtain ⟨i, hi⟩ := ixP_has.2 (h0 u hu)
              have : O = O' := hO'
              rw [this, hix] at hi
              cases hi
          obtain ⟨pu, hpu⟩ : ∃ p, Th[i]? = some p := ⟨_, List.getElem?_eq_getElem (by omega)⟩
          obtain ⟨j, hj⟩ := ixP_has.2 (hhas i pu (Nat.lt_succ_self _) hpu)
          have hjl : j < O'.length := by
            obtain ⟨y, hy, _⟩ := ixP_some hj
            exact (List.getElem?_eq_some_iff.1 hy).1
          have he : ordI O Th (i + 1 + 1) = O'.take (j + 1) ++ u :: O'.drop (j + 1) := by rw [hstep, stepO, hu]; simp only [hix, Nat.add_sub_cancel, hpu, hj]
          have hel : (O'.take (j + 1) ++ u :: O'.drop (j + 1)).length = O'.length + 1 := by
            simp only [List.length_append, List.length_cons, List.length_take, List.length_drop]; omega
          have hsub : ((i + 1 : Nat) : Int) - ((1 : Nat) : Int) = (i : Int) := by omega
          have hadd : (j : Int) + ((1 : Nat) : Int) = ((j + 1 : Nat) : Int) := by omega
          have qp := hat i pu hpu
          have hp6 : H6.get H3.next = some (.row [.str u.title, .int .i64 (u.nth : Int), .str u.text] 51 true false 0) := by rw [(hE5.trans hE6).2 _ (by omega)]; exact hp4
          obtain ⟨H7, hH7⟩ : ∃ H7, H6.push (.row [.str u.title, .int .i64 (u.nth : Int), .str u.text] 51 true false 0) = H7 := ⟨_, rfl⟩
          have hE7 : Ext H6 H7 := by rw [← hH7]; exact (Ext.refl _).push _
          have hn7 : H7.next = H6.next + 1 := by rw [← hH7]; rfl
          have hh7 : H7.get H6.next = some (.row [.str u.title, .int .i64 (u.nth : Int), .str u.text] 51 true false 0) := by rw [← hH7]; exact get_push_self _
          obtain ⟨H8, hnm8, hE8⟩ := named_ok (lf := lf) (n := n) (H := H7) (u := pu) (by omega)
          have hn8 := hE8.1
          have hE38 := (hE36.trans hE7).trans hE8
          have hS8 : Su H.next H8 (.slice b' 0 O'.length none 3) O' := ⟨hne', b', none, false, hb'0, by omega, rfl, .inl rfl, by rw [hE38.2 b' hb'1]; exact hgb⟩
          obtain ⟨H9, hat9, hE9⟩ := at35_ok (lf := lf) (n := n) (k := nmU pu) hS8 (p := H1.next) (by rw [hE38.2 _ htp]; exact hgt) (by omega) (by omega) (by omega) (by omega)
          have hn9 := hE9.1
          have hat9' : callS tabT lf n 35 [.agg [.str pu.title, .int .i64 (pu.nth : Int)], .ptr H1.next 0] H8 = some (.int .i64 (j : Int), H9) := by
            have : ixI O' (nmU pu) = (j : Int) := by rw [ixI, hj]
            rw [← this]; exact hat9
          have hE79 := hE8.trans hE9
          have hE37 := hE36.trans hE7
          have hE39 := hE38.trans hE9
          have hins := insert_ok (lf := lf) (n := n) (H := H9) (b := b') (vb := H6.next) (i := j + 1) (L := O') (u := u) (c := some 1) (by rw [hE39.2 _ hb'1]; exact hgb) (by rw [hE79.2 _ (by omega)]; exact hh7) (by omega) hne' (by omega) (by omega) (by omega)
          obtain ⟨H10, hH10⟩ : ∃ H10, (H9.put b' .dead).push (.row ((O'.take (j + 1) ++ u :: O'.drop (j + 1)).map unC).flatten 51 false false 0) = H10 := ⟨_, rfl⟩
          rw [hH10] at hins
          have hn10 : H10.next = H9.next + 1 := by rw [← hH10]; rfl
          have hk10 : ∀ k, k < H9.next → k ≠ b' → H10.get k = H9.get k := fun k h1 h2 => by
            rw [← hH10, get_push_old (by rw [next_put]; exact h1), get_put_other h2]
          have hgt10 : H10.get H1.next = some (.row [.slice b' 0 O'.length none 3] 43 true false 0) := by rw [hk10 _ (by omega) (fun h => hbt h.symm), hE39.2 _ htp]; exact hgt
          obtain ⟨H11, hH11⟩ : ∃ H11, H10.put H1.next (.row [.slice H9.next 0 (O'.length + 1) none 3] 43 true false 0) = H11 := ⟨_, rfl⟩
          have hst11 : storeS 1 (.ptr H1.next 0) [.slice H9.next 0 (O'.length + 1) none 3] H10 = some H11 := by
            rw [store_ptr (n := 1) rfl, storeC_eq, hgt10, sto_row (by simp) (by omega) rfl]
            exact congrArg some hH11
          have hgt7 : H7.get H1.next = some (.row [.slice b' 0 O'.length none 3] 43 true false 0) := by rw [hE37.2 _ htp]; exact hgt
          have hgt8 : H8.get H1.next = some (.row [.slice b' 0 O'.length none 3] 43 true false 0) := by rw [hE38.2 _ htp]; exact hgt
          have hgt9 : H9.get H1.next = some (.row [.slice b' 0 O'.length none 3] 43 true false 0) := by rw [hE39.2 _ htp]; exact hgt
          have hrow7 : H7.get b = some (.row cs 51 ex false 0) := by rw [hE37.2 b (by omega), hk3 b hb]; exact hrow
          have hp7 : H7.get H3.next = some (.row [.str u.title, .int .i64 (u.nth : Int), .str u.text] 51 true false 0) := by rw [hE7.2 _ (by omega)]; exact hp6
          have hp8 : H8.get H3.next = some (.row [.str u.title, .int .i64 (u.nth : Int), .str u.text] 51 true false 0) := by rw [hE8.2 _ (by omega)]; exact hp7
          have hp9 : H9.get H3.next = some (.row [.str u.title, .int .i64 (u.nth : Int), .str u.text] 51 true false 0) := by rw [hE9.2 _ (by omega)]; exact hp8
          have hh8 : H8.get H6.next = some (.row [.str u.title, .int .i64 (u.nth : Int), .str u.text] 51 true false 0) := by rw [hE8.2 _ (by omega)]; exact hh7
          have hh9 : H9.get H6.next = some (.row [.str u.title, .int .i64 (u.nth : Int), .str u.text] 51 true false 0) := by rw [hE9.2 _ (by omega)]; exact hh8
          have hbq : beqS (.slice b' 0 O'.length none 3) (.slice b' 0 O'.length none 3) = true := by simp [beqS, beqOne]
          have hfl1 : ([SV.str u.title, .int .i64 (u.nth : Int), .str u.text] : List SV).all SV.flat = true := rfl
          have hbl1 : beqList [SV.str u.title, .int .i64 (u.nth : Int), .str u.text] [SV.str u.title, .int .i64 (u.nth : Int), .str u.text] = true := by simp [beqList, beqOne, eqS_dec]
          simp only [unC] at qp hnm8
          have hu3 : rowL (some (.row [.str u.title, .int .i64 (u.nth : Int), .str u.text] 51 true false 0)) 0 3 = some [.str u.title, .int .i64 (u.nth : Int), .str u.text] := rfl
          refine cstT @d1 ?_
          refine EC_drawH ?_
          iterate 10 (refine HD_skip (by intro _ _ h; cases h) ?_)
          refine HD_val (v := .agg [.str u.title, .int .i64 (u.nth : Int), .str u.text]) (H' := H6) (by
            rw [op_load, ev_t]
            iterate 10 rw [foreT_get (by simp [ox, oy])]
            exact sfc (And.intro @hp6 @hu3)) ?_
          refine HD_hoist (v := .slice H6.next 0 1 (some 1) 3) (H' := H7) (by
            rw [op_bslice, fill_cons, ev_t, getD_set_self (by simp only [foreT_len, List.length_cons, List.length_nil]; omega)]
            exact sfc @hH7) ?_
          refine HD_none rfl ?_
          simp only [unh, List.map_cons, List.map_nil]
          refine stp (And.intro @hgt7 (And.intro @hone (And.intro @hrow7 (And.intro @hsub @qp)))) ?_
          refine ED_call (by exact sfc @trivial) hnm8 (by simp only [List.set_cons_zero, List.set_cons_succ]; with_reducible rfl) ?_
          refine ED_calld (by exact sfc @trivial) (by exact sfc (And.intro @List.nil_append.{0} @List.cons_append.{0})) hat9' (by simp only [List.set_cons_zero, List.set_cons_succ]; with_reducible rfl) ?_
          refine stp (And.intro @hadd (And.intro @hp9 @hu3)) ?_
          refine ED_call (by exact sfc @trivial) hins (by simp only [List.set_cons_zero, List.set_cons_succ]; with_reducible rfl) ?_
          refine stp @hst11 ?_
          refine ⟨?_, fun h => (by cases h), _, (by simp only [List.getLast?_cons_cons, List.getLast?_singleton]; first | done | with_reducible rfl), ?_⟩
          · apply readsD_read
            · simp only [allFrom, Bool.and_eq_true, and_true]
              exact ⟨quiet_ok (H' := H7) (by exact sfc (And.intro @hgt7 @hone)) hbq, quiet_ok (H' := H8) (by exact sfc (And.intro @hgt8 @hone)) hbq, quiet_ok (H' := H9) (by exact sfc (And.intro @hgt9 @hone)) hbq⟩
            · iterate 5 apply readsD_pure
              apply readsD_read
              · simp only [allFrom, Bool.and_eq_true, and_true]
                exact quiet_ok (H' := H7) (by exact sfc (And.intro @hrow7 @qp)) (by simp only [go_sem])
              · apply readsD_eff; apply readsD_eff; apply readsD_pure; apply readsD_read
                · simp only [allFrom, Bool.and_eq_true, and_true]
                  exact ⟨quiet_ok (H' := H7) (by exact sfc (And.intro @hp7 @hu3)) (by simp only [go_sem]), quiet_ok (H' := H8) (by exact sfc (And.intro @hp8 @hu3)) (by simp only [go_sem]), quiet_ok (H' := H9) (by exact sfc (And.intro @hp9 @hu3)) (by simp only [go_sem])⟩
                · refine readsD_hoistB (cs := [.str u.title, .int .i64 (u.nth : Int), .str u.text]) (by exact sfc @trivial) (by (simp (disch := (first | omega | (simp only [List.length_cons, List.length_nil, List.length_append, List.length_take, List.length_drop, List.length_replicate, next_push, next_put, List.all_cons, List.all_nil, SV.one, Bool.and_self, SV.flat]; done) | (simp only [List.length_cons, List.length_nil, List.length_append, List.length_take, List.length_drop, List.length_replicate, next_push, next_put, List.all_cons, List.all_nil, SV.one, Bool.and_self, SV.flat]; omega) | fail)) only [go_sem, Nat.reduceAdd, Nat.reduceSub, Nat.reduceMul, Nat.zero_add, Nat.add_zero, Nat.mul_one, Nat.one_mul, Int.reduceToNat, Int.reduceAdd, Int.reduceSub, decide_true, decide_false, SV.flat]; first | done | with_reducible rfl)) ?_ ?_
                  · simp only [allFrom, Bool.and_eq_true, and_true]
                    exact ⟨rowIs_ok hh7 hfl1 hbl1, rowIs_ok hh8 hfl1 hbl1, rowIs_ok hh9 hfl1 hbl1⟩
                  · repeat (first | exact readsD_nil _ _ _ | apply readsD_pure | apply readsD_eff)
          · refine stp trivial ?_
            refine loopR_normal (Th.length - (i + 1 + 1)) (by omega) ⟨rfl, by rw [← hH11, next_put]; omega, fun k hk => ?_, i + 1 + 1, H9.next, rfl, by omega, by omega, by rw [← hH11, next_put]; omega, by omega, ?_, ?_, ?_⟩
            · rw [← hH11, get_put_other (by omega), hk10 _ (by omega) (by omega), hE39.2 k (by omega)]; exact hk3 k hk
            · rw [he, hel, ← hH11]; exact get_put_self _ _
            · rw [he, ← hH11, get_put_other (by omega), ← hH10, show H9.next = (H9.put b' .dead).next from rfl]; exact get_push_self _
            · exact (frame_in (by rfl) (trivial))
      · obtain rfl : i = Th.length := by omega
        refine stp (And.intro @hgt @hone) ?_
        refine ret1 trivial ?_
        exact (⟨b', rfl, ⟨by have := hE1.1; omega, hk3⟩, hb'0, hb'1, hgb⟩)
    · refine ⟨rfl, by rw [← hH2]; exact Nat.lt_succ_self _, fun k hk => ?_, 0, bO, by omega, by omega, hbO0, by rw [← hH2, next_put, next_push]; omega, by omega, by rw [← hH2]; exact get_put_self _ _, ?_, ?_⟩
      · rw [← hH2, get_put_other (by have := hE1.1; omega), get_push_old (by have := hE1.1; omega), hE1.2 k hk]
      · rw [← hH2, get_put_other (by omega), get_push_old (by omega)]
        exact hrowO
      · exact (frame_in (by rfl) (trivial))
  obtain ⟨w, H', h, b', rfl, hr⟩ := key
  exact ⟨b', H', h, hr⟩
end
end Go.Sh
end
