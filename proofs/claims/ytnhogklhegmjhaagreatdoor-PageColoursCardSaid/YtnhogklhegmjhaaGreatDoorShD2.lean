/-
  The checks of a view. (frame style z)
  The check of a view, the whole; what is asked of it. (frame style z)
  What is asked of a view; what is so answered over the heap behind. (frame style z)
-/
import Derived.Test.YtnhogklhegmjhaaGreatDoorShD1
import Derived.Test.YtnhogklhegmjhaaGreatDoorShA7
set_option linter.all false
section
namespace Go.Sh
set_option maxRecDepth 10000
set_option linter.all false
theorem tab92 : tabT 92 = some (.code c92) := by kernel_rfl
theorem tab91 : tabT 91 = some (.code c91) := by kernel_rfl
theorem tab89 : tabT 89 = some (.code c89) := by kernel_rfl
theorem tab47 : tabT 47 = some (.code c47) := by kernel_rfl
theorem grpS_known : ∀ L ∈ grpS, ∀ s ∈ L, s ∈ isnL := by decide +kernel
theorem grpS_sorted : ∀ L ∈ grpS, ∀ i ∈ [0, 1, 2, 3, 4], i + 1 < L.length → ltS (L.getD i []) (L.getD (i + 1) []) = true := by decide +kernel
theorem pg_valid : ∀ t ∈ tQ :: pagL, t ∈ titL ++ pagL ++ [tQ] := by decide +kernel
section
variable {lf n : Nat} {H : Heap}
theorem fixed_ok (hn : 1 ≤ n) (hlf : 1000 < lf) : ∃ H', callS tabT lf n 92 [.nils] H = some (.int .i64 ((0 : Nat) : Int), H') ∧ Ext H H' := by
  obtain ⟨n, rfl⟩ : ∃ m, n = m + 1 := ⟨n - 1, by omega⟩
  have key : ∃ w H', callS tabT lf (n + 1) 92 [.nils] H = some (w, H') ∧ w = .int .i64 ((0 : Nat) : Int) ∧ Ext H H' := by
    obtain ⟨H1, hH1⟩ : ∃ H1, H.push (.map [] 0) = H1 := ⟨_, rfl⟩
    have hE1 : Ext H H1 := by rw [← hH1]; exact (Ext.refl H).push _
    refine call_code tab92 (by simp only [c92, go_sem, List.reduceReplicate, Nat.reduceAdd, Nat.reduceSub]; exact rfl) ?_
    simp only [c92]
    refine stp @hH1 ?_
    refine EC_loop (I := fun m ts D H' => m = 0 ∧ D = [] ∧ H' = H1 ∧ ∃ z : Nat → SV, ts = (z 0 :: z 1 :: z 2 :: z 3 :: z 4 :: z 5 :: z 6 :: z 7 :: (.int .i64 ((0 : Nat) : Int)) :: (.int .i64 ((0 : Nat) : Int)) :: z 10 :: z 11 :: z 12 :: z 13 :: z 14 :: z 15 :: z 16 :: z 17 :: z 18 :: z 19 :: z 20 :: z 21 :: z 22 :: z 23 :: z 24 :: z 25 :: [] : T) ∧ (True)) ?_ 0 ?_ (by omega)
    · rintro m ts D H2 ⟨rfl, rfl, rfl, ⟨z, rfl, -⟩⟩
      have d0 : decide (((0 : Nat) : Int) < ((0 : Nat) : Int)) = false := by decide
      refine stp @d0 ?_
      refine cstE trivial ?_
      refine stp trivial ?_
      refine ret1 trivial ?_
      exact (⟨rfl, hE1⟩)
    · exact ⟨rfl, rfl, rfl, (frame_in (by rfl) (trivial))⟩
  obtain ⟨w, H', h, rfl, hE⟩ := key
  exact ⟨H', h, hE⟩
@[reducible] def I91 (H0 : Heap) (v : SV) (L : List (List Nat)) (m : Nat) (ts : T) (D : DS) (H' : Heap) : Prop :=
  D = [] ∧ H' = H0 ∧ ∃ k : Nat, m = L.length - k ∧ k ≤ L.length ∧ ∃ z : Nat → SV, ts = ((v) :: z 1 :: z 2 :: z 3 :: z 4 :: (v) :: (.int .i64 (L.length : Int)) :: (.int .i64 (k : Int)) :: z 8 :: z 9 :: z 10 :: z 11 :: z 12 :: z 13 :: z 14 :: z 15 :: z 16 :: z 17 :: z 18 :: z 19 :: z 20 :: z 21 :: z 22 :: z 23 :: z 24 :: z 25 :: z 26 :: [] : T) ∧ (True)
theorem qgroups_ok {v : SV} {L : List (List Nat)} (hv : RSl H v 1 (strL L)) (hL : L ∈ grpS) (hn : 2 ≤ n) (hlf : 1000 < lf) : ∃ H', callS tabT lf n 91 [v] H = some (.int .i64 ((0 : Nat) : Int), H') ∧ Ext H H' := by
  obtain ⟨n, rfl⟩ : ∃ m, n = m + 1 := ⟨n - 1, by omega⟩
  have key : ∃ w H', callS tabT lf (n + 1) 91 [v] H = some (w, H') ∧ w = .int .i64 ((0 : Nat) : Int) ∧ Ext H H' := by
    have hl5 := grpS_len L hL
    have hlen := hv.lenl
    rw [strL_len] at hlen
    refine call_code tab91 (by simp only [c91, go_sem, List.reduceReplicate, Nat.reduceAdd, Nat.reduceSub]; exact rfl) ?_
    simp only [c91]
    refine stp @hlen ?_
    refine EC_loop (I := I91 H v L) ?_ L.length ?_ (by omega)
    · rintro m ts D H' ⟨rfl, rfl, k, rfl, hk, ⟨z, rfl, -⟩⟩
      refine stp trivial ?_
      refine cst trivial (fun hc => ?_) (fun hc => ?_) <;> try simp only [decide_eq_true_eq, decide_eq_false_iff_not, not_true_eq_false, not_false_eq_true, Int.not_lt, Int.not_le, ge_iff_le, gt_iff_lt] at hc
      · have hkl : k < L.length := by omega
        obtain ⟨b, o, hi, hb, hrow, _⟩ := hv.at_ (strL_at (List.getElem?_eq_getElem hkl))
        have hname := nm_ok (lf := lf) (n := n) (H := H') (grpS_known L hL _ (List.getElem_mem hkl)) (by omega)
        refine stp (And.intro @hi @hrow) ?_
        refine kst trivial hname ?_
        refine stp trivial ?_
        refine cstE trivial ?_
        by_cases hk0 : k = 0
        · subst hk0
          have d0 : decide (((0 : Nat) : Int) > ((0 : Nat) : Int)) = false := by decide
          refine stp @d0 ?_
          refine cstE trivial ?_
          refine stp (succ_w (k := 0) (by omega)) ?_
          exact loopR_normal (L.length - (0 + 1)) (by omega) ⟨rfl, rfl, 0 + 1, rfl, by omega, (frame_in (by rfl) (trivial))⟩
        · obtain ⟨j, rfl⟩ : ∃ j, k = j + 1 := ⟨k - 1, by omega⟩
          have d0 : decide (((j + 1 : Nat) : Int) > ((0 : Nat) : Int)) = true := by rw [decide_eq_true_eq]; omega
          obtain ⟨b', o', hi', hb', hrow', _⟩ := hv.at_ (strL_at (List.getElem?_eq_getElem (show j < L.length by omega)))
          have hj4 : j ∈ [0, 1, 2, 3, 4] := by
            have : j = 0 ∨ j = 1 ∨ j = 2 ∨ j = 3 ∨ j = 4 := by omega
            simpa using this
          have hlt := grpS_sorted L hL j hj4 hkl
          have e1 : L.getD j [] = L[j] := by simp [List.getD_eq_getElem?_getD, show j < L.length by omega]
          have e2 : L.getD (j + 1) [] = L[j + 1] := by simp [List.getD_eq_getElem?_getD, hkl]
          rw [e1, e2] at hlt
          have hw1 : IntKind.wrap .i64 (((j + 1 : Nat) : Int) - ((1 : Nat) : Int)) = ((j : Nat) : Int) := by rw [wrap_i64 (by omega) (by omega)]; omega
          refine stp (And.intro @d0 (And.intro @hw1 (And.intro @hi' (And.intro @hrow' @hlt)))) ?_
          refine cstE trivial ?_
          refine stp (succ_w (k := j + 1) (by omega)) ?_
          exact loopR_normal (L.length - (j + 1 + 1)) (by omega) ⟨rfl, rfl, j + 1 + 1, rfl, by omega, (frame_in (by rfl) (trivial))⟩
      · refine stp trivial ?_
        refine ret1 trivial ?_
        exact (⟨rfl, Ext.refl _⟩)
    · exact ⟨rfl, rfl, 0, by omega, by omega, (frame_in (by rfl) (trivial))⟩
  obtain ⟨w, H', h, rfl, hE⟩ := key
  exact ⟨H', h, hE⟩
theorem cmp56_ok {a b : Tt} (ha : a ∈ tQ :: pagL) (hb : b ∈ tQ :: pagL) (hn : 1 ≤ n) : callS tabT lf n 56 [tC a, tC b] H = some (.int .i64 (cmpT a b), H) :=
  nat_fact tab56n rfl (said_all (said_all k_cmp56 ha) hb) hn H
@[reducible] def I89 (H0 : Heap) (v : SV) (A : List Pg) (m : Nat) (ts : T) (D : DS) (H' : Heap) : Prop :=
  D = [] ∧ Ext H0 H' ∧ ∃ k : Nat, m = A.length - k ∧ k ≤ A.length ∧ ∃ z : Nat → SV, ts = ((v) :: z 1 :: z 2 :: z 3 :: z 4 :: (v) :: (.int .i64 (A.length : Int)) :: (.int .i64 (k : Int)) :: z 8 :: z 9 :: z 10 :: z 11 :: z 12 :: z 13 :: z 14 :: z 15 :: z 16 :: z 17 :: z 18 :: z 19 :: z 20 :: z 21 :: z 22 :: z 23 :: z 24 :: z 25 :: z 26 :: z 27 :: z 28 :: z 29 :: z 30 :: z 31 :: z 32 :: z 33 :: z 34 :: z 35 :: z 36 :: z 37 :: z 38 :: z 39 :: z 40 :: z 41 :: [] : T) ∧ (True)
theorem pages_ok {v : SV} {A : List Pg} (hv : RSl H v 4 (A.map pgC)) (hok : ∀ x ∈ A, PgOK x) (hmem : ∀ x ∈ A, x.t ∈ tQ :: pagL) (hso : (A.map Pg.t).Pairwise fun a b => cmpT a b = -1) (hl : A.length ≤ 6) (hn : 2 ≤ n) (hlf : 1000 < lf) : ∃ H', callS tabT lf n 89 [v] H = some (.int .i64 ((0 : Nat) : Int), H') ∧ Ext H H' := by
  obtain ⟨n, rfl⟩ : ∃ m, n = m + 1 := ⟨n - 1, by omega⟩
  have key : ∃ w H', callS tabT lf (n + 1) 89 [v] H = some (w, H') ∧ w = .int .i64 ((0 : Nat) : Int) ∧ Ext H H' := by
    have hlen := hv.lenl
    rw [List.length_map] at hlen
    refine call_code tab89 (by simp only [c89, go_sem, List.reduceReplicate, Nat.reduceAdd, Nat.reduceSub]; exact rfl) ?_
    simp only [c89]
    refine stp @hlen ?_
    refine EC_loop (I := I89 H v A) ?_ A.length ?_ (by omega)
    · rintro m ts D H' ⟨rfl, hE, k, rfl, hk, ⟨z, rfl, -⟩⟩
      refine stp trivial ?_
      refine cst trivial (fun hc => ?_) (fun hc => ?_) <;> try simp only [decide_eq_true_eq, decide_eq_false_iff_not, not_true_eq_false, not_false_eq_true, Int.not_lt, Int.not_le, ge_iff_le, gt_iff_lt] at hc
      · have hkl : k < A.length := by omega
        have hx : (A.map pgC)[k]? = some (pgC A[k]) := by simp [hkl]
        obtain ⟨b, o, hi, hb, hrow, _⟩ := (hv.keep hE).at_ hx
        have ho := hok _ (List.getElem_mem hkl)
        have hm := hmem _ (List.getElem_mem hkl)
        have hAk : A[k]? = some A[k] := List.getElem?_eq_getElem hkl
        have hprev : ∀ j (h : j + 1 = k), cmpT (A[j]'(by omega)).t A[k].t = -1 := by
          rintro j rfl
          have := (List.pairwise_iff_getElem.1 hso) j (j + 1) (by rw [List.length_map]; omega) (by rw [List.length_map]; omega) (Nat.lt_succ_self _)
          rwa [List.getElem_map, List.getElem_map] at this
        generalize A[k] = x at hrow ho hm hprev
        obtain ⟨⟨t1, t2⟩, s, r⟩ := x
        have hrow : rowL (H'.get b) o 4 = some [.int .i64 (t1 : Int), .str t2, .str s, .int .i64 (r : Int)] := hrow
        have hs : s.length ≤ 2000 := ho.s
        have hr1 : 1 ≤ r := ho.r
        have hm : (t1, t2) ∈ tQ :: pagL := hm
        obtain ⟨H1, hH1⟩ : ∃ H1, (H'.push (.row [.int .i64 ((0 : Nat) : Int), .str [], .str [], .int .i64 ((0 : Nat) : Int)] 40 true false 0)).put H'.next (.row [.int .i64 (t1 : Int), .str t2, .str s, .int .i64 (r : Int)] 40 true false 0) = H1 := ⟨_, rfl⟩
        have hE1 : Ext H' H1 := by rw [← hH1]; exact ((Ext.refl _).push _).put (Nat.le_refl _) _
        have hp4 : H1.get H'.next = some (.row [.int .i64 (t1 : Int), .str t2, .str s, .int .i64 (r : Int)] 40 true false 0) := by rw [← hH1]; exact get_put_self _ _
        have hval : callS tabT lf n 48 [.agg [.int .i64 (t1 : Int), .str t2]] H1 = some (.bool true, H1) := valid_ok (t := (t1, t2)) (pg_valid _ hm) (by omega)
        have ds : decide ((s.length : Int) > ((8192 : Nat) : Int)) = false := by rw [decide_eq_false_iff_not]; omega
        have dr : decide ((r : Int) < ((1 : Nat) : Int)) = false := by rw [decide_eq_false_iff_not]; omega
        have tb : beqS (.agg [.int .i64 (t1 : Int), .str t2]) (.agg [.int .i64 (t1 : Int), .str t2]) = true := bq_tt (t1, t2)
        refine stp (And.intro @hi (And.intro @hrow (And.intro @hH1 @hp4))) ?_
        refine kst trivial hval ?_
        refine stp trivial ?_
        refine cstE trivial ?_
        refine EC_seq ?_
        refine EC_draw rfl ?_
        by_cases hk0 : k = 0
        · subst hk0
          have d0 : decide (((0 : Nat) : Int) > ((0 : Nat) : Int)) = false := by decide
          refine stpw @d0 ?_
          refine ⟨?_, fun h => (by cases h), _, (by simp only [List.getLast?_cons_cons, List.getLast?_singleton]; first | done | with_reducible rfl), ?_⟩
          · exact rdp @d0
          · refine stp trivial ?_
            refine cstE trivial ?_
            refine stp (And.intro @hp4 @ds) ?_
            refine cstE trivial ?_
            refine stp (And.intro @hp4 @dr) ?_
            refine cstE trivial ?_
            refine stp (succ_w (k := 0) (by omega)) ?_
            exact loopR_normal (A.length - (0 + 1)) (by omega) ⟨rfl, hE.trans hE1, 0 + 1, rfl, by omega, (frame_in (by rfl) (trivial))⟩
        · obtain ⟨j, rfl⟩ : ∃ j, k = j + 1 := ⟨k - 1, by omega⟩
          have d0 : decide (((j + 1 : Nat) : Int) > ((0 : Nat) : Int)) = true := by rw [decide_eq_true_eq]; omega
          have hw1 : IntKind.wrap .i64 (((j + 1 : Nat) : Int) - ((1 : Nat) : Int)) = ((j : Nat) : Int) := by rw [wrap_i64 (by omega) (by omega)]; omega
          have hxj : (A.map pgC)[j]? = some (pgC (A[j]'(by omega))) := by simp [show j < A.length by omega]
          obtain ⟨b', o', hi', hb', hrow', _⟩ := (hv.keep (hE.trans hE1)).at_ hxj
          have hmj := hmem _ (List.getElem_mem (show j < A.length by omega))
          have hcmp := hprev j rfl
          generalize A[j]'(by omega) = y at hrow' hmj hcmp
          obtain ⟨⟨u1, u2⟩, us, ur⟩ := y
          have hrow' : rowL (H1.get b') o' 4 = some [.int .i64 (u1 : Int), .str u2, .str us, .int .i64 (ur : Int)] := hrow'
          have hrow2 : rowL (H1.get b') o' 2 = some [.int .i64 (u1 : Int), .str u2] := rowL_sub (i := 0) (m := 2) hrow' (by omega)
          have hmj : (u1, u2) ∈ tQ :: pagL := hmj
          have hc56 : callS tabT lf n 56 [.agg [.int .i64 (u1 : Int), .str u2], .agg [.int .i64 (t1 : Int), .str t2]] H1 = some (.int .i64 (cmpT (u1, u2) (t1, t2)), H1) := cmp56_ok hmj hm (by omega)
          have hcmp : cmpT (u1, u2) (t1, t2) = -1 := hcmp
          rw [hcmp] at hc56
          have ub : beqS (.agg [.int .i64 (u1 : Int), .str u2]) (.agg [.int .i64 (u1 : Int), .str u2]) = true := bq_tt (u1, u2)
          have dm : decide ((-1 : Int) ≥ ((0 : Nat) : Int)) = false := by decide
          refine stp (And.intro @d0 (And.intro @hw1 (And.intro @hi' (And.intro @hrow2 @hp4)))) ?_
          refine ED_call (by exact sfc trivial) hc56 (by (simp only [List.set_cons_zero, List.set_cons_succ]; with_reducible rfl)) ?_
          refine stp @dm ?_
          refine ⟨?_, fun h => (by cases h), _, (by simp only [List.getLast?_cons_cons, List.getLast?_singleton]; first | done | with_reducible rfl), ?_⟩
          · exact rdp (And.intro @d0 (And.intro @hw1 (And.intro @hi' (And.intro @hrow2 (And.intro @hp4 (And.intro @tb (And.intro @ub @dm)))))))
          · refine stp trivial ?_
            refine cstE trivial ?_
            refine stp (And.intro @hp4 @ds) ?_
            refine cstE trivial ?_
            refine stp (And.intro @hp4 @dr) ?_
            refine cstE trivial ?_
            refine stp (succ_w (k := (j + 1)) (by omega)) ?_
            exact loopR_normal (A.length - ((j + 1) + 1)) (by omega) ⟨rfl, hE.trans hE1, (j + 1) + 1, rfl, by omega, (frame_in (by rfl) (trivial))⟩
      · refine stp trivial ?_
        refine ret1 trivial ?_
        exact (⟨rfl, hE⟩)
    · exact ⟨rfl, Ext.refl _, 0, by omega, by omega, (frame_in (by rfl) (trivial))⟩
  obtain ⟨w, H', h, rfl, hE⟩ := key
  exact ⟨H', h, hE⟩
end
end Go.Sh
end
section
namespace Go.Sh
set_option maxRecDepth 10000
set_option linter.all false
theorem tab28 : tabT 28 = some (.code c28) := by kernel_rfl
theorem tab34 : tabT 34 = some (.code c34) := by kernel_rfl
theorem tab10 : tabT 10 = some (.code c10) := by kernel_rfl
section
variable {lf n : Nat} {H : Heap}
theorem viewval_ok {pv gv rv dv qv : SV} {clk : Int} {A : List Pg} {k : Nat} {G : List Gr} {R : List Rl} {E : List Gd} {Q : List (List Nat)} (hv : ViewR (RSl H) pv gv rv dv qv clk A k G R E Q) (hn : 8 ≤ n) (hlf : 1000 < lf) :
    ∃ H', callS tabT lf n 47 [.agg [pv, gv, rv, dv, qv, .int .i64 clk, .nils]] H = some (.int .i64 ((0 : Nat) : Int), H') ∧ Ext H H' := by
  obtain ⟨n, rfl⟩ : ∃ m, n = m + 1 := ⟨n - 1, by omega⟩
  have key : ∃ w H', callS tabT lf (n + 1) 47 [.agg [pv, gv, rv, dv, qv, .int .i64 clk, .nils]] H = some (w, H') ∧ w = .int .i64 ((0 : Nat) : Int) ∧ Ext H H' := by
    have hpl := hv.plen
    have hql := grpS_len Q hv.qs
    have l1 := hv.pg.lenl
    have l2 := hv.q.lenl
    rw [List.length_map] at l1
    rw [strL_len] at l2
    have c0 := hv.c0
    have c1 := hv.c1
    obtain ⟨H1, hH1⟩ : ∃ H1, H.push (.row [pv, gv, rv, dv, qv, .int .i64 clk, .nils] 34 true false 0) = H1 := ⟨_, rfl⟩
    have hE1 : Ext H H1 := by rw [← hH1]; exact (Ext.refl H).push _
    have hn1 : H1.next = H.next + 1 := by rw [← hH1]; rfl
    have hp1 : H1.get H.next = some (.row [pv, gv, rv, dv, qv, .int .i64 clk, .nils] 34 true false 0) := by rw [← hH1]; exact get_push_self _
    obtain ⟨H2, hc2, hE2⟩ := pages_ok (lf := lf) (n := n) (hv.pg.keep hE1) hv.pok hv.pmem hv.pso hpl (by omega) hlf
    obtain ⟨H3, hc3, hE3⟩ := polval_ok (lf := lf) (n := n) (hv.pol.imp fun v z L h => (h.keep hE1).keep hE2) (by omega) hlf
    obtain ⟨H4, hc4, hE4⟩ := qgroups_ok (lf := lf) (n := n) (((hv.q.keep hE1).keep hE2).keep hE3) hv.qs (by omega) hlf
    obtain ⟨H5, hc5, hE5⟩ := fixed_ok (lf := lf) (n := n) (H := H4) (by omega) hlf
    have hp2 := (hE2.2 _ (by omega)).trans hp1
    have hp3 := (hE3.2 _ (by have := hE2.1; omega)).trans hp2
    have hp4 := (hE4.2 _ (by have := hE2.1; have := hE3.1; omega)).trans hp3
    have d1 : decide ((A.length : Int) > ((200 : Nat) : Int)) = false := by rw [decide_eq_false_iff_not]; omega
    have d2 : decide ((Q.length : Int) > ((26 : Nat) : Int)) = false := by rw [decide_eq_false_iff_not]; omega
    have d3 : decide ((0 : Int) > ((20000 : Nat) : Int)) = false := by decide
    have d4 : decide (clk < ((0 : Nat) : Int)) = false := by rw [decide_eq_false_iff_not]; omega
    have d5 : decide (clk ≥ ((52596000 : Nat) : Int)) = false := by rw [decide_eq_false_iff_not]; omega
    refine call_code tab47 (by simp only [c47, go_sem, List.reduceReplicate, Nat.reduceAdd, Nat.reduceSub]; exact rfl) ?_
    simp only [c47]
    refine stp (And.intro @hH1 (And.intro @hp1 (And.intro @l1 (And.intro @l2 (And.intro @d1 (And.intro @d2 @d3)))))) ?_
    refine cstE trivial ?_
    refine stp @hp1 ?_
    refine kst trivial hc2 ?_
    refine stp trivial ?_
    refine cstE @neq00 ?_
    refine stp @hp2 ?_
    refine kst trivial hc3 ?_
    refine stp trivial ?_
    refine cstE @neq00 ?_
    refine stp @hp3 ?_
    refine kst trivial hc4 ?_
    refine stp trivial ?_
    refine cstE @neq00 ?_
    refine stp (And.intro @hp4 (And.intro @d4 @d5)) ?_
    refine cstE trivial ?_
    refine stp @hp4 ?_
    refine kst trivial hc5 ?_
    refine stp trivial ?_
    refine ret1 trivial ?_
    exact (⟨rfl, hE1.trans (hE2.trans (hE3.trans (hE4.trans hE5)))⟩)
  obtain ⟨w, H', h, rfl, hE⟩ := key
  exact ⟨H', h, hE⟩
theorem find_ok {x : List SV} (hx : x.length = 4) (hn : 1 ≤ n) (hlf : 1000 < lf) :
    ∃ H', callS tabT lf n 28 [.nils, .agg x] H = some (.tup [.agg [.bool false, .str [], .int .i64 ((0 : Nat) : Int)], .bool false], H') ∧ Ext H H' := by
  obtain ⟨n, rfl⟩ : ∃ m, n = m + 1 := ⟨n - 1, by omega⟩
  have key : ∃ w H', callS tabT lf (n + 1) 28 [.nils, .agg x] H = some (w, H') ∧ w = .tup [.agg [.bool false, .str [], .int .i64 ((0 : Nat) : Int)], .bool false] ∧ Ext H H' := by
    obtain ⟨H1, hH1⟩ : ∃ H1, H.push (.row x 56 true false 0) = H1 := ⟨_, rfl⟩
    have hE1 : Ext H H1 := by rw [← hH1]; exact (Ext.refl H).push _
    obtain ⟨H2, hH2⟩ : ∃ H2, H1.push (.row [.bool false, .str [], .int .i64 ((0 : Nat) : Int)] 53 true false 0) = H2 := ⟨_, rfl⟩
    have hE2 : Ext H1 H2 := by rw [← hH2]; exact (Ext.refl H1).push _
    have hp2 : H2.get H1.next = some (.row [.bool false, .str [], .int .i64 ((0 : Nat) : Int)] 53 true false 0) := by rw [← hH2]; exact get_push_self _
    refine call_code tab28 (by simp only [c28, go_sem, List.reduceReplicate, Nat.reduceAdd, Nat.reduceSub]; exact rfl) ?_
    simp only [c28]
    refine stp (And.intro @hH1 @hH2) ?_
    refine EC_loop (I := fun m ts D H' => m = 0 ∧ D = [] ∧ H' = H2 ∧ ∃ z : Nat → SV, ts = (z 0 :: z 1 :: z 2 :: z 3 :: (.ptr H1.next 0) :: (.bool false) :: z 6 :: z 7 :: z 8 :: (.int .i64 ((0 : Nat) : Int)) :: (.int .i64 ((0 : Nat) : Int)) :: z 11 :: z 12 :: z 13 :: z 14 :: z 15 :: z 16 :: z 17 :: z 18 :: z 19 :: z 20 :: z 21 :: [] : T) ∧ (True)) ?_ 0 ?_ (by omega)
    · rintro m ts D H' ⟨rfl, rfl, rfl, ⟨z, rfl, -⟩⟩
      have d0 : decide (((0 : Nat) : Int) < ((0 : Nat) : Int)) = false := by decide
      refine stp @d0 ?_
      refine cstE trivial ?_
      refine stp @hp2 ?_
      refine ret2 trivial ?_
      exact (⟨rfl, (hE1.trans hE2).put (by have := hE1.1; omega) _⟩)
    · exact ⟨rfl, rfl, rfl, (frame_in (by rfl) (trivial))⟩
  obtain ⟨w, H', h, rfl, hE⟩ := key
  exact ⟨H', h, hE⟩
def pageR (k : Nat) : Option Pg → List SV
  | none => [.bool false, .str [], .int .i64 ((0 : Nat) : Int)]
  | some p => [.bool true, .str (if k = 1 then p.s else []), .int .i64 ((0 : Nat) : Int)]
@[reducible] def I34 (H0 H1 : Heap) (pv : SV) (A : List Pg) (t : Tt) (m : Nat) (ts : T) (D : DS) (H' : Heap) : Prop :=
  D = [] ∧ Ext H1 H' ∧ ∃ k : Nat, m = A.length - k ∧ k ≤ A.length ∧ (∀ i x, i < k → A[i]? = some x → x.t ≠ t) ∧ ∃ z : Nat → SV, ts = (z 0 :: z 1 :: z 2 :: (.ptr (H0.next + 1) 0) :: (.ptr (H0.next + 1 + 1) 0) :: z 5 :: z 6 :: z 7 :: z 8 :: (pv) :: (.int .i64 (A.length : Int)) :: (.int .i64 (k : Int)) :: z 12 :: z 13 :: z 14 :: z 15 :: z 16 :: z 17 :: z 18 :: z 19 :: z 20 :: z 21 :: z 22 :: z 23 :: z 24 :: z 25 :: z 26 :: z 27 :: z 28 :: z 29 :: z 30 :: z 31 :: z 32 :: z 33 :: z 34 :: z 35 :: [] : T) ∧ (True)
theorem find_at {A : List Pg} {t : Tt} {i : Nat} {x : Pg} (hx : A[i]? = some x) (ht : x.t = t) (hno : ∀ j y, j < i → A[j]? = some y → y.t ≠ t) : A.find? (fun p => decide (p.t = t)) = some x := by
  rw [List.find?_eq_some_iff_getElem]
  obtain ⟨hi, rfl⟩ := List.getElem?_eq_some_iff.1 hx
  refine ⟨by simpa using ht, i, hi, rfl, fun j hj => ?_⟩
  have := hno j _ hj (List.getElem?_eq_getElem (by omega))
  simpa using this
theorem page_ok {pv a1 a2 a3 a4 a5 a6 : SV} {A : List Pg} {k : Nat} {t : Tt} (hv : RSl H pv 4 (A.map pgC)) (hl : A.length ≤ 6) (hk : k = 1 ∨ k = 2) (hn : 1 ≤ n) (hlf : 1000 < lf) :
    ∃ H', callS tabT lf n 34 [.agg [pv, a1, a2, a3, a4, a5, a6], .agg [.int .i64 (k : Int), .int .i64 (t.1 : Int), .str t.2, .int .i64 ((0 : Nat) : Int)]] H = some (.agg (pageR k (A.find? fun p => decide (p.t = t))), H') ∧ Ext H H' := by
  obtain ⟨n, rfl⟩ : ∃ m, n = m + 1 := ⟨n - 1, by omega⟩
  have key : ∃ w H', callS tabT lf (n + 1) 34 [.agg [pv, a1, a2, a3, a4, a5, a6], .agg [.int .i64 (k : Int), .int .i64 (t.1 : Int), .str t.2, .int .i64 ((0 : Nat) : Int)]] H = some (w, H') ∧ w = .agg (pageR k (A.find? fun p => decide (p.t = t))) ∧ Ext H H' := by
    obtain ⟨t1, t2⟩ := t
    have l1 := hv.lenl
    rw [List.length_map] at l1
    obtain ⟨H1, hH1⟩ : ∃ H1, ((H.push (.row [pv, a1, a2, a3, a4, a5, a6] 34 true false 0)).push (.row [.int .i64 (k : Int), .int .i64 (t1 : Int), .str t2, .int .i64 ((0 : Nat) : Int)] 56 true false 0)).push (.row [.bool false, .str [], .int .i64 ((0 : Nat) : Int)] 53 true false 0) = H1 := ⟨_, rfl⟩
    have hE1 : Ext H H1 := by rw [← hH1]; exact (((Ext.refl H).push _).push _).push _
    have hn1 : H1.next = H.next + 3 := by rw [← hH1]; rfl
    have hp2 : H1.get H.next = some (.row [pv, a1, a2, a3, a4, a5, a6] 34 true false 0) := by rw [← hH1, get_push_old (by simp only [next_push]; omega), get_push_old (by simp only [next_push]; omega)]; exact get_push_self _
    have hp3 : H1.get (H.next + 1) = some (.row [.int .i64 (k : Int), .int .i64 (t1 : Int), .str t2, .int .i64 ((0 : Nat) : Int)] 56 true false 0) := by rw [← hH1, get_push_old (by simp only [next_push]; omega)]; exact get_push_self (H := H.push _) _
    have hp4 : H1.get (H.next + 1 + 1) = some (.row [.bool false, .str [], .int .i64 ((0 : Nat) : Int)] 53 true false 0) := by rw [← hH1]; exact get_push_self (H := (H.push _).push _) _
    refine call_code tab34 (by simp only [c34, go_sem, List.reduceReplicate, Nat.reduceAdd, Nat.reduceSub]; exact rfl) ?_
    simp only [c34]
    refine stp (And.intro @hH1 (And.intro @hp2 @l1)) ?_
    refine EC_loop (I := I34 H H1 pv A (t1, t2)) ?_ A.length ?_ (by omega)
    · rintro m ts D H2 ⟨rfl, hE2, i, rfl, hi, hno, ⟨z, rfl, -⟩⟩
      have hle2 := hE2.1
      have hp32 := (hE2.2 _ (by omega)).trans hp3
      have hp42 := (hE2.2 _ (by omega)).trans hp4
      refine stp trivial ?_
      refine cst trivial (fun hc => ?_) (fun hc => ?_) <;> try simp only [decide_eq_true_eq, decide_eq_false_iff_not, not_true_eq_false, not_false_eq_true, Int.not_lt, Int.not_le, ge_iff_le, gt_iff_lt] at hc
      · have hiA : i < A.length := by omega
        have hx : (A.map pgC)[i]? = some (pgC A[i]) := by simp [hiA]
        obtain ⟨b, o, hio, hb, hrow, _⟩ := ((hv.keep hE1).keep hE2).at_ hx
        have hAi : A[i]? = some A[i] := List.getElem?_eq_getElem hiA
        generalize A[i] = x at hrow hAi
        obtain ⟨⟨u1, u2⟩, s, r⟩ := x
        have hrow : rowL (H2.get b) o 4 = some [.int .i64 (u1 : Int), .str u2, .str s, .int .i64 (r : Int)] := hrow
        obtain ⟨H3, hH3⟩ : ∃ H3, (H2.push (.row [.int .i64 ((0 : Nat) : Int), .str [], .str [], .int .i64 ((0 : Nat) : Int)] 40 true false 0)).put H2.next (.row [.int .i64 (u1 : Int), .str u2, .str s, .int .i64 (r : Int)] 40 true false 0) = H3 := ⟨_, rfl⟩
        have hE3 : Ext H2 H3 := by rw [← hH3]; exact ((Ext.refl _).push _).put (Nat.le_refl _) _
        have hn3 : H3.next = H2.next + 1 := by rw [← hH3]; rfl
        have hp6 : H3.get H2.next = some (.row [.int .i64 (u1 : Int), .str u2, .str s, .int .i64 (r : Int)] 40 true false 0) := by rw [← hH3]; exact get_put_self _ _
        have hp33 := (hE3.2 _ (by omega)).trans hp32
        have hp43 := (hE3.2 _ (by omega)).trans hp42
        have heq := eqv_tt (u1, u2) (t1, t2)
        have heq : eqVal true [(0, 1), (1, 2)] (.agg [.int .i64 (u1 : Int), .str u2]) (.agg [.int .i64 (t1 : Int), .str t2]) = some (decide ((u1, u2) = (t1, t2))) := heq
        by_cases hut : (u1, u2) = (t1, t2)
        · have hfa := find_at hAi hut hno
          rw [decide_eq_true hut] at heq
          obtain ⟨H4, hH4⟩ : ∃ H4, (H3.push (.row [.bool false, .str [], .int .i64 ((0 : Nat) : Int)] 53 true false 0)).put H3.next (.row [.bool true, .str [], .int .i64 ((0 : Nat) : Int)] 53 true false 0) = H4 := ⟨_, rfl⟩
          have hE4 : Ext H3 H4 := by rw [← hH4]; exact ((Ext.refl _).push _).put (Nat.le_refl _) _
          have hp7 : H4.get H3.next = some (.row [.bool true, .str [], .int .i64 ((0 : Nat) : Int)] 53 true false 0) := by rw [← hH4]; exact get_put_self _ _
          have hp34 := (hE4.2 _ (by omega)).trans hp33
          have hp44 := (hE4.2 _ (by omega)).trans hp43
          have hp64 := (hE4.2 _ (by omega)).trans hp6
          have hE04 := hE1.trans (hE2.trans (hE3.trans hE4))
          rcases hk with rfl | rfl
          · obtain ⟨H5, hH5⟩ : ∃ H5, H4.put H3.next (.row [.bool true, .str s, .int .i64 ((0 : Nat) : Int)] 53 true false 0) = H5 := ⟨_, rfl⟩
            have hp75 : H5.get H3.next = some (.row [.bool true, .str s, .int .i64 ((0 : Nat) : Int)] 53 true false 0) := by rw [← hH5]; exact get_put_self _ _
            have hp45 : H5.get (H.next + 1 + 1) = some (.row [.bool false, .str [], .int .i64 ((0 : Nat) : Int)] 53 true false 0) := by rw [← hH5, get_put_other (by omega)]; exact hp44
            have hE05 : Ext H H5 := by rw [← hH5]; exact hE04.put (by omega) _
            refine stp (And.intro @hio (And.intro @hrow (And.intro @hH3 (And.intro @hp6 (And.intro @hp33 @heq))))) ?_
            refine cstE trivial ?_
            refine stp (And.intro @hH4 @hp34) ?_
            refine cstT trivial ?_
            refine stp (And.intro @hp64 (And.intro @hp7 (And.intro @hH5 (And.intro @hp75 @hp45)))) ?_
            refine ret1 trivial ?_
            exact (⟨by rw [hfa]; rfl, hE05.put (by omega) _⟩)
          · have c1 : decide (((2 : Nat) : Int) = ((1 : Nat) : Int)) = false := by decide
            have c2 : decide (((2 : Nat) : Int) = ((7 : Nat) : Int)) = false := by decide
            refine stp (And.intro @hio (And.intro @hrow (And.intro @hH3 (And.intro @hp6 (And.intro @hp33 @heq))))) ?_
            refine cstE trivial ?_
            refine stp (And.intro @hH4 @hp34) ?_
            refine cstE @c1 ?_
            refine stp trivial ?_
            refine cstE @c2 ?_
            refine stp (And.intro @hp7 @hp44) ?_
            refine ret1 trivial ?_
            exact (⟨by rw [hfa]; rfl, hE04.put (by omega) _⟩)
        · rw [decide_eq_false hut] at heq
          refine stp (And.intro @hio (And.intro @hrow (And.intro @hH3 (And.intro @hp6 (And.intro @hp33 @heq))))) ?_
          refine cstT trivial ?_
          refine stp (succ_w (k := i) (by omega)) ?_
          refine loopR_normal (A.length - (i + 1)) (by omega) ⟨rfl, hE2.trans hE3, i + 1, rfl, by omega, fun j y hj hy => ?_, (frame_in (by rfl) (trivial))⟩
          rcases Nat.lt_succ_iff_lt_or_eq.1 hj with h | rfl
          · exact hno j y h hy
          · rw [hAi] at hy
            cases hy
            exact hut
      · refine stp @hp42 ?_
        have hfa : A.find? (fun p => decide (p.t = (t1, t2))) = none := by
          rw [List.find?_eq_none]
          intro x hx
          obtain ⟨j, hj, rfl⟩ := List.mem_iff_getElem.1 hx
          have := hno j _ (by omega) (List.getElem?_eq_getElem hj)
          simpa using this
        refine ret1 trivial ?_
        exact (⟨by rw [hfa]; rfl, (hE1.trans hE2).put (by omega) _⟩)
    · exact ⟨rfl, Ext.refl _, 0, by omega, by omega, (fun i x hi => absurd hi (Nat.not_lt_zero _)), (frame_in (by rfl) (trivial))⟩
  obtain ⟨w, H', h, rfl, hE⟩ := key
  exact ⟨H', h, hE⟩
end
end Go.Sh
end
section
namespace Go.Sh
set_option maxRecDepth 10000
set_option linter.all false
theorem pageR_form (k : Nat) (o : Option Pg) : ∃ b s, pageR k o = [.bool b, .str s, .int .i64 ((0 : Nat) : Int)] := by
  cases o with
  | none => exact ⟨_, _, rfl⟩
  | some p => exact ⟨_, _, rfl⟩
section
variable {lf n : Nat} {H : Heap}
theorem key_ok {k : Nat} {t : Tt} (h : (k = 1 ∧ t = tQ) ∨ (k = 2 ∧ t ∈ titL)) (hn : 1 ≤ n) : callS tabT lf n 29 [keyC k t] H = some (.bool true, H) := by
  rcases h with ⟨rfl, rfl⟩ | ⟨rfl, ht⟩
  · exact nat_fact tab29n rfl k_key hn H
  · exact nat_fact tab29n rfl (said_all k_keys ht) hn H
theorem ask_ok {pv gv rv dv qv : SV} {clk : Int} {A : List Pg} {k : Nat} {t : Tt} {kk : Nat} {G : List Gr} {R : List Rl} {E : List Gd} {Q : List (List Nat)} (hv : ViewR (RSl H) pv gv rv dv qv clk A kk G R E Q) (hk : (k = 1 ∧ t = tQ) ∨ (k = 2 ∧ t ∈ titL)) (hn : 3 ≤ n) (hlf : 1000 < lf) :
    ∃ H', callS tabT lf n 10 [.agg [pv, gv, rv, dv, qv, .int .i64 clk, .nils], keyC k t] H = some (.agg (pageR k (A.find? fun p => decide (p.t = t))), H') ∧ Ext H H' := by
  obtain ⟨n, rfl⟩ : ∃ m, n = m + 1 := ⟨n - 1, by omega⟩
  have key : ∃ w H', callS tabT lf (n + 1) 10 [.agg [pv, gv, rv, dv, qv, .int .i64 clk, .nils], keyC k t] H = some (w, H') ∧ w = .agg (pageR k (A.find? fun p => decide (p.t = t))) ∧ Ext H H' := by
    obtain ⟨t1, t2⟩ := t
    obtain ⟨H1, hH1⟩ : ∃ H1, ((H.push (.row [pv, gv, rv, dv, qv, .int .i64 clk, .nils] 34 true false 0)).push (.row [.int .i64 (k : Int), .int .i64 (t1 : Int), .str t2, .int .i64 ((0 : Nat) : Int)] 56 true false 0)).push (.row [.bool false, .str [], .int .i64 ((0 : Nat) : Int)] 53 true false 0) = H1 := ⟨_, rfl⟩
    have hE1 : Ext H H1 := by rw [← hH1]; exact (((Ext.refl H).push _).push _).push _
    have hn1 : H1.next = H.next + 3 := by rw [← hH1]; rfl
    have hp2 : H1.get H.next = some (.row [pv, gv, rv, dv, qv, .int .i64 clk, .nils] 34 true false 0) := by rw [← hH1, get_push_old (by simp only [next_push]; omega), get_push_old (by simp only [next_push]; omega)]; exact get_push_self _
    have hp3 : H1.get (H.next + 1) = some (.row [.int .i64 (k : Int), .int .i64 (t1 : Int), .str t2, .int .i64 ((0 : Nat) : Int)] 56 true false 0) := by rw [← hH1, get_push_old (by simp only [next_push]; omega)]; exact get_push_self (H := H.push _) _
    have hp4 : H1.get (H.next + 1 + 1) = some (.row [.bool false, .str [], .int .i64 ((0 : Nat) : Int)] 53 true false 0) := by rw [← hH1]; exact get_push_self (H := (H.push _).push _) _
    obtain ⟨H2, hc2, hE2⟩ := find_ok (lf := lf) (n := n) (H := H1) (x := [.int .i64 (k : Int), .int .i64 (t1 : Int), .str t2, .int .i64 ((0 : Nat) : Int)]) rfl (by omega) hlf
    have hle2 := hE2.1
    obtain ⟨H3, hH3⟩ : ∃ H3, H2.push (.row [.bool false, .str [], .int .i64 ((0 : Nat) : Int)] 53 true false 0) = H3 := ⟨_, rfl⟩
    obtain ⟨H4, hH4⟩ : ∃ H4, H3.put H2.next (.row [.bool false, .str [], .int .i64 ((0 : Nat) : Int)] 53 true false 0) = H4 := ⟨_, rfl⟩
    have hp33 : H3.get H2.next = some (.row [.bool false, .str [], .int .i64 ((0 : Nat) : Int)] 53 true false 0) := by rw [← hH3]; exact get_push_self _
    have hE4 : Ext H2 H4 := by rw [← hH4, ← hH3]; exact ((Ext.refl _).push _).put (Nat.le_refl _) _
    have hp24 := (hE4.2 _ (by omega)).trans ((hE2.2 _ (by omega)).trans hp2)
    have hp34 := (hE4.2 _ (by omega)).trans ((hE2.2 _ (by omega)).trans hp3)
    have hp44 := (hE4.2 _ (by omega)).trans ((hE2.2 _ (by omega)).trans hp4)
    have hle4 := hE4.1
    have hkey : callS tabT lf n 29 [.agg [.int .i64 (k : Int), .int .i64 (t1 : Int), .str t2, .int .i64 ((0 : Nat) : Int)]] H4 = some (.bool true, H4) := key_ok (t := (t1, t2)) hk (by omega)
    have hk12 : k = 1 ∨ k = 2 := hk.imp (·.1) (·.1)
    obtain ⟨H5, hc5, hE5⟩ := page_ok (lf := lf) (n := n) (H := H4) (a1 := gv) (a2 := rv) (a3 := dv) (a4 := qv) (a5 := .int .i64 clk) (a6 := .nils) (t := (t1, t2)) (((hv.pg.keep hE1).keep hE2).keep hE4) hv.plen hk12 (by omega) hlf
    obtain ⟨b, s, hf⟩ := pageR_form k (A.find? fun p => decide (p.t = (t1, t2)))
    rw [hf] at hc5 ⊢
    dsimp only at hc5
    have hp45 := (hE5.2 _ (by omega)).trans hp44
    have e3 : decide ((k : Int) = ((3 : Nat) : Int)) = false := by rw [decide_eq_false_iff_not]; omega
    have e4 : decide ((k : Int) = ((4 : Nat) : Int)) = false := by rw [decide_eq_false_iff_not]; omega
    have e5 : decide ((k : Int) = ((5 : Nat) : Int)) = false := by rw [decide_eq_false_iff_not]; omega
    have e6 : decide ((k : Int) = ((6 : Nat) : Int)) = false := by rw [decide_eq_false_iff_not]; omega
    have hkc : keyC k (t1, t2) = .agg [.int .i64 (k : Int), .int .i64 (t1 : Int), .str t2, .int .i64 ((0 : Nat) : Int)] := rfl
    rw [hkc]
    refine call_code tab10 (by simp only [c10, go_sem, List.reduceReplicate, Nat.reduceAdd, Nat.reduceSub]; exact rfl) ?_
    simp only [c10]
    refine stp (And.intro @hH1 (And.intro @hp2 @hp3)) ?_
    refine kst trivial hc2 ?_
    refine stp (And.intro @hH3 (And.intro @hp33 (And.intro @hH4 @hp34))) ?_
    refine kst trivial hkey ?_
    refine stp trivial ?_
    refine cstE trivial ?_
    refine stp @hp34 ?_
    refine cstE @e3 ?_
    refine stp trivial ?_
    refine cstE @e4 ?_
    refine stp trivial ?_
    refine cstE @e5 ?_
    refine stp trivial ?_
    refine cstE @e6 ?_
    refine stp (And.intro @hp24 @hp34) ?_
    refine kst trivial hc5 ?_
    refine stp @hp45 ?_
    refine ret1 trivial ?_
    exact (⟨rfl, (hE1.trans (hE2.trans (hE4.trans hE5))).put (by omega) _⟩)
  obtain ⟨w, H', h, rfl, hE⟩ := key
  exact ⟨H', h, hE⟩
end
/-! ### Over the heap that stands behind -/
def vQ : SV := .agg [.opq 0, .opq 1, .opq 2, .opq 3, .opq 4, .opq 5, .opq 6]
def saidL (tx : List Nat) (t : Tt) (ok : Bool) : List Said :=
  [(47, [vQ], .int .i64 ((0 : Nat) : Int)), (10, [vQ, keyC 1 tQ], .agg [.bool true, .str tx, .int .i64 ((0 : Nat) : Int)]), (10, [vQ, keyC 2 t], .agg [.bool ok, .str [], .int .i64 ((0 : Nat) : Int)])]
theorem froz_view {H : Heap} {pv gv rv dv qv : SV} {clk : Int} {A : List Pg} {kk : Nat} {G : List Gr} {R : List Rl} {E : List Gd} {Q : List (List Nat)} (hv : ViewR (RSl H) pv gv rv dv qv clk A kk G R E Q) : ViewR (RSl H.froz) pv gv rv dv qv clk A kk G R E Q :=
  hv.imp fun v z L h => h.froz
theorem said_view {lf n : Nat} {H : Heap} {pv gv rv dv qv : SV} {clk : Int} {A : List Pg} {kk : Nat} {G : List Gr} {R : List Rl} {E : List Gd} {Q : List (List Nat)} (hv : ViewR (RSl H) pv gv rv dv qv clk A kk G R E Q) {tx : List Nat} {r : Nat} {t : Tt} {ok : Bool} (ht : t ∈ titL)
    (hq : A.find? (fun p => decide (p.t = tQ)) = some ⟨tQ, tx, r⟩) (ho : (A.find? fun p => decide (p.t = t)).isSome = ok) (hn : 8 ≤ n) (hlf : 1000 < lf) :
    ∀ x ∈ saidL tx t ok, SaidOK (callS tabT lf n) H [pv, gv, rv, dv, qv, .int .i64 clk, .nils] x := by
  have hf := froz_view hv
  intro x hx
  simp only [saidL, List.mem_cons, List.not_mem_nil, or_false] at hx
  rcases hx with rfl | rfl | rfl
  · obtain ⟨H', h, _⟩ := viewval_ok (lf := lf) (n := n) hf hn hlf
    exact ⟨rfl, rfl, H', h⟩
  · obtain ⟨H', h, _⟩ := ask_ok (lf := lf) (n := n) hf (.inl ⟨rfl, rfl⟩) (by omega) hlf
    rw [hq] at h
    exact ⟨rfl, rfl, H', h⟩
  · obtain ⟨H', h, _⟩ := ask_ok (lf := lf) (n := n) hf (.inr ⟨rfl, ht⟩) (by omega) hlf
    refine ⟨rfl, rfl, H', ?_⟩
    subst ho
    generalize hfo : (A.find? fun p => decide (p.t = t)) = o at h
    cases o <;> exact h
end Go.Sh
end
