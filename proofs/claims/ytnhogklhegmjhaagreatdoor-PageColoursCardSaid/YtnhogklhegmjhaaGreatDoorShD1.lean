/-
  The checks of a policy: groups, the whole. (frame style z)
  The check of a policy, the whole. (frame style z)
-/
import Derived.Test.YtnhogklhegmjhaaGreatDoorShD0
set_option linter.all false
section
namespace Go.Sh
set_option maxRecDepth 10000
set_option linter.all false
theorem tab150 : tabT 150 = some (.code c150) := by kernel_rfl
theorem tab90 : tabT 90 = some (.code c90) := by kernel_rfl
def isnL : List (List Nat) := knownL ++ [[97, 110, 110], [98, 111, 98], [122, 111, 101]]
def okM (n : Nat) (m : List Nat) : Bool := match m with
  | 64 :: r => (namN n).contains r && isnL.contains r
  | s => isnL.contains s
theorem memN_ok : ∀ n ∈ [0, 1, 2, 3], ∀ m ∈ memN n, okM n m = true := by decide +kernel
theorem memN_split {n : Nat} (hn : n ≤ 3) {m : List Nat} (hm : m ∈ memN n) : (∃ r, cutP m = .tup [.str r, .bool true] ∧ r ∈ namN n ∧ r ∈ isnL) ∨ (cutP m = .tup [.str m, .bool false] ∧ m ∈ isnL) := by
  have h := memN_ok n (le3 hn) m hm
  unfold okM at h
  split at h
  · rename_i r
    rw [Bool.and_eq_true, List.contains_iff_mem, List.contains_iff_mem] at h
    exact .inl ⟨r, rfl, h.1, h.2⟩
  · rename_i hx
    rw [List.contains_iff_mem] at h
    refine .inr ⟨?_, h⟩
    unfold cutP
    split
    · rename_i r
      exact absurd rfl (hx r)
    · rfl
section
variable {lf n : Nat} {H : Heap}
theorem nm_ok {s : List Nat} (h : s ∈ isnL) (hn : 1 ≤ n) : callS tabT lf n 153 [.str s] H = some (.bool true, H) := nat_fact tab153n rfl (said_all k_name153 h) hn H
theorem cutp_ok {s : List Nat} (h : s ∈ memL) (hn : 1 ≤ n) : callS tabT lf n 131 [.str s, .str [64]] H = some (cutP s, H) := nat_fact tab131n rfl (said_all k_cut h) hn H
theorem grpL_isn : ∀ s ∈ grpL, s ∈ isnL := by decide +kernel
theorem grpL_nob : ∀ s ∈ grpL, decide (s = sAll ∨ s = sUsers) = false := by decide +kernel
theorem grpL_nd : ∀ n ∈ [0, 1, 2, 3], (grpL.take n).Nodup := by decide +kernel
@[reducible] def I150 (H0 : Heap) (p2 : Nat) (mv : SV) (ms : List (List Nat)) (gv rv dv : SV) (m : Nat) (ts : T) (D : DS) (H' : Heap) : Prop :=
  D = [] ∧ Ext H0 H' ∧ ∃ k : Nat, m = ms.length - k ∧ k ≤ ms.length ∧ ∃ z : Nat → SV, ts = (z 0 :: z 1 :: (.ptr p2 0) :: z 3 :: (.int .i64 ((0 : Nat) : Int)) :: z 5 :: z 6 :: z 7 :: z 8 :: z 9 :: z 10 :: z 11 :: z 12 :: z 13 :: z 14 :: z 15 :: z 16 :: z 17 :: z 18 :: z 19 :: z 20 :: z 21 :: z 22 :: z 23 :: z 24 :: z 25 :: z 26 :: z 27 :: z 28 :: z 29 :: z 30 :: z 31 :: z 32 :: z 33 :: z 34 :: (mv) :: (.int .i64 (ms.length : Int)) :: (.int .i64 (k : Int)) :: z 38 :: z 39 :: z 40 :: z 41 :: z 42 :: z 43 :: z 44 :: z 45 :: z 46 :: z 47 :: z 48 :: z 49 :: z 50 :: z 51 :: z 52 :: z 53 :: z 54 :: z 55 :: z 56 :: [] : T) ∧ (True)
theorem group_ok {k i : Nat} {gv rv dv : SV} {G : List Gr} {R : List Rl} {E : List Gd} (hp : PolR (RSl H) k gv rv dv G R E) (hi : i < G.length) (hn : 6 ≤ n) (hlf : 1000 < lf) :
    ∃ H', callS tabT lf n 150 [.agg [gv, rv, dv], .int .i64 (i : Int)] H = some (.int .i64 ((0 : Nat) : Int), H') ∧ Ext H H' := by
  obtain ⟨n, rfl⟩ : ∃ m, n = m + 1 := ⟨n - 1, by omega⟩
  have key : ∃ w H', callS tabT lf (n + 1) 150 [.agg [gv, rv, dv], .int .i64 (i : Int)] H = some (w, H') ∧ w = .int .i64 ((0 : Nat) : Int) ∧ Ext H H' := by
    have hgl := hp.grs.len
    have hn3 := hp.n3
    obtain ⟨H1, hH1⟩ : ∃ H1, H.push (.row [gv, rv, dv] 30 true false 0) = H1 := ⟨_, rfl⟩
    have hE1 : Ext H H1 := by rw [← hH1]; exact (Ext.refl H).push _
    have hn1 : H1.next = H.next + 1 := by rw [← hH1]; rfl
    have hp1 : H1.get H.next = some (.row [gv, rv, dv] 30 true false 0) := by rw [← hH1]; exact get_push_self _
    have hgi : G[i]? = some G[i] := List.getElem?_eq_getElem hi
    have hx : (G.map grC)[i]? = some (grC G[i]) := by simp [hi]
    obtain ⟨b, o, hio, hb, hrow, _⟩ := (hp.gs.keep hE1).at_ hx
    have hgm : G[i] ∈ G := List.getElem_mem hi
    have hnm : G[i].1 ∈ grpL := (hp.grs.at_ _ hgm).nm
    have hmv := hp.gat _ hgm
    have hml := hp.glen _ hgm
    have hmm := hp.gmem _ hgm
    have hno : ¬ ∃ g ∈ G.take i, g.1 = G[i].1 := by
      rintro ⟨g, hg, e⟩
      obtain ⟨j, hj, rfl⟩ := List.mem_iff_getElem.1 hg
      have hji : j < i := by rw [List.length_take] at hj; omega
      have hnd : (G.map (·.1)).Nodup := by rw [hp.gnm]; exact grpL_nd k (le3 hn3)
      rw [List.getElem_take] at e
      have := (List.pairwise_iff_getElem.1 hnd) j i (by rw [List.length_map]; omega) (by rw [List.length_map]; exact hi) hji
      rw [List.getElem_map, List.getElem_map] at this
      exact this e
    generalize hgg : G[i] = g at hrow hnm hmv hml hmm hno hgi
    obtain ⟨nm, mv, ms⟩ := g
    have hrow : rowL (H1.get b) o 2 = some [.str nm, mv] := hrow
    have hnm : nm ∈ grpL := hnm
    have hml : ms.length ≤ 3 := hml
    have hmm : ∀ m ∈ ms, m ∈ memN k := hmm
    have hmv : RSl H mv 1 (strL ms) := hmv
    have mo := hmv.one
    obtain ⟨H2, hH2⟩ : ∃ H2, (H1.push (.row [.str [], .nils] 109 true false 0)).put H1.next (.row [.str nm, mv] 109 true false 0) = H2 := ⟨_, rfl⟩
    have hE2 : Ext H1 H2 := by rw [← hH2]; exact ((Ext.refl _).push _).put (Nat.le_refl _) _
    have hp5 : H2.get (H.next + 1) = some (.row [.str nm, mv] 109 true false 0) := by rw [← hn1, ← hH2]; exact get_put_self _ _
    have hp2 := (hE2.2 _ (by omega)).trans hp1
    have hn2 : H2.next = H.next + 2 := by rw [← hH2]; show H1.next + 1 = _; omega
    have hst : storeS 2 (.ptr (H.next + 1) 0) [.str nm, mv] (H1.push (.row [.str [], .nils] 109 true false 0)) = some H2 := by
      rw [store_ptr (n := 2) rfl, storeC_eq, ← hn1, get_push_self, sto_row (by simp) (by omega) (by rw [List.all_cons, List.all_cons, mo]; rfl)]
      exact congrArg some hH2
    have hE02 := hE1.trans hE2
    have hname := nm_ok (lf := lf) (n := n) (H := H2) (grpL_isn nm hnm) (by omega)
    have hbu := built_ok (lf := lf) (n := n) (H := H2) (grpL_known nm hnm) (by omega)
    rw [grpL_nob nm hnm] at hbu
    obtain ⟨w, hw, hws⟩ := (hp.gs.keep hE02).hiw (k := i) (by rw [List.length_map]; omega)
    rw [← List.map_take] at hws
    obtain ⟨r, H3, hc3, hE3, hr⟩ := cont_ok (lf := lf) (n := n) (nm := nm) (.inr rfl) hws (by rw [List.length_take]; omega) (show rowL (H2.get (H.next + 1)) 0 1 = some [.str nm] by rw [hp5]; rfl) (by omega) (by omega) hlf
    have hrf : r = false := by
      cases r with
      | false => rfl
      | true => exact absurd (hr.1 rfl) hno
    subst hrf
    have hp53 := (hE3.2 _ (by omega)).trans hp5
    have hp23 := (hE3.2 _ (by omega)).trans hp2
    have hmv3 := (hmv.keep hE02).keep hE3
    have hlen := hmv3.lenl
    rw [strL_len] at hlen
    have d24 : decide ((ms.length : Int) > ((24 : Nat) : Int)) = false := by rw [decide_eq_false_iff_not]; omega
    refine call_code tab150 (by simp only [c150, go_sem, List.reduceReplicate, Nat.reduceAdd, Nat.reduceSub]; exact rfl) ?_
    simp only [c150]
    refine stp (And.intro @hH1 (And.intro @hn1 (And.intro @hp1 (And.intro @hio @hrow)))) ?_
    refine EO_opN (v := .undef) (H' := H2) (by simp only [go_sem, SV.cells, hst]) ?_
    refine stp @hp5 ?_
    refine kst trivial hname ?_
    refine stp trivial ?_
    refine cstE trivial ?_
    refine stp @hp5 ?_
    refine kst trivial hbu ?_
    refine stp (And.intro @hp2 @hw) ?_
    refine kst trivial hc3 ?_
    refine stp trivial ?_
    refine cstE trivial ?_
    refine stp (And.intro @hp53 (And.intro @hlen @d24)) ?_
    refine cstE trivial ?_
    refine stp (And.intro @hp53 @hlen) ?_
    refine EC_loop (I := I150 H3 H.next mv ms gv rv dv) ?_ ms.length ?_ (by omega)
    · rintro m ts D H4 ⟨rfl, hE4, j, rfl, hj, ⟨z, rfl, -⟩⟩
      have hle3 := hE3.1
      refine stp trivial ?_
      refine cst trivial (fun hc => ?_) (fun hc => ?_) <;> try simp only [decide_eq_true_eq, decide_eq_false_iff_not, not_true_eq_false, not_false_eq_true, Int.not_lt, Int.not_le, ge_iff_le, gt_iff_lt] at hc
      · have hjm : j < ms.length := by omega
        obtain ⟨b', o', hi', _, hrow', _⟩ := (hmv3.keep hE4).at_ (strL_at (List.getElem?_eq_getElem hjm))
        have hm := hmm _ (List.getElem_mem hjm)
        generalize ms[j] = m at hrow' hm
        have hcut := cutp_ok (lf := lf) (n := n) (H := H4) (memN_mem k (le3 hn3) m hm) (by omega)
        have hp24 := (hE4.2 _ (by omega)).trans hp23
        rcases memN_split hn3 hm with ⟨s, hs, hsn, hsi⟩ | ⟨hs, hsi⟩
        · rw [hs] at hcut
          have hname' := nm_ok (lf := lf) (n := n) (H := H4) hsi (by omega)
          obtain ⟨H5, hc5, hE5⟩ := exists_ok (lf := lf) (n := n) (hp.imp fun v z L h => ((h.keep hE02).keep hE3).keep hE4) hsn (by omega) hlf
          refine stp (And.intro @hi' @hrow') ?_
          refine kst trivial hcut ?_
          refine stp trivial ?_
          refine kst trivial hname' ?_
          refine stp trivial ?_
          refine cstE trivial ?_
          refine stp @hp24 ?_
          refine kst trivial hc5 ?_
          refine stp trivial ?_
          refine cstE trivial ?_
          refine stp (succ_w (k := j) (by omega)) ?_
          exact loopR_normal (ms.length - (j + 1)) (by omega) ⟨rfl, hE4.trans hE5, j + 1, rfl, by omega, (frame_in (by rfl) (trivial))⟩
        · rw [hs] at hcut
          have hname' := nm_ok (lf := lf) (n := n) (H := H4) hsi (by omega)
          refine stp (And.intro @hi' @hrow') ?_
          refine kst trivial hcut ?_
          refine stp trivial ?_
          refine kst trivial hname' ?_
          refine stp trivial ?_
          refine cstE trivial ?_
          refine stp trivial ?_
          refine cstE trivial ?_
          refine stp (succ_w (k := j) (by omega)) ?_
          exact loopR_normal (ms.length - (j + 1)) (by omega) ⟨rfl, hE4, j + 1, rfl, by omega, (frame_in (by rfl) (trivial))⟩
      · refine stp trivial ?_
        refine ret1 trivial ?_
        exact (⟨rfl, hE02.trans (hE3.trans hE4)⟩)
    · exact ⟨rfl, Ext.refl _, 0, by omega, by omega, (frame_in (by rfl) (trivial))⟩
  obtain ⟨w, H', h, rfl, hE⟩ := key
  exact ⟨H', h, hE⟩
end
end Go.Sh
end
section
namespace Go.Sh
set_option maxRecDepth 10000
set_option linter.all false
theorem neq00 : decide (((0 : Nat) : Int) ≠ ((0 : Nat) : Int)) = false := by decide
section
variable {lf n : Nat} {H : Heap}
@[reducible] def I90a (H0 H1 : Heap) (G : List Gr) (m : Nat) (ts : T) (D : DS) (H' : Heap) : Prop :=
  D = [] ∧ Ext H1 H' ∧ ∃ k : Nat, m = G.length - k ∧ k ≤ G.length ∧ ∃ z : Nat → SV, ts = (z 0 :: (.ptr H0.next 0) :: z 2 :: z 3 :: z 4 :: z 5 :: z 6 :: z 7 :: z 8 :: z 9 :: z 10 :: z 11 :: z 12 :: z 13 :: z 14 :: z 15 :: z 16 :: z 17 :: z 18 :: z 19 :: z 20 :: z 21 :: z 22 :: z 23 :: z 24 :: z 25 :: z 26 :: z 27 :: z 28 :: (.int .i64 (G.length : Int)) :: (.int .i64 (k : Int)) :: z 31 :: z 32 :: z 33 :: z 34 :: z 35 :: z 36 :: z 37 :: z 38 :: z 39 :: z 40 :: z 41 :: z 42 :: z 43 :: z 44 :: z 45 :: z 46 :: z 47 :: z 48 :: z 49 :: z 50 :: z 51 :: z 52 :: z 53 :: z 54 :: z 55 :: z 56 :: z 57 :: z 58 :: z 59 :: z 60 :: z 61 :: z 62 :: z 63 :: z 64 :: z 65 :: z 66 :: z 67 :: [] : T) ∧ (True)
@[reducible] def I90b (H0 H1 : Heap) (rv : SV) (R : List Rl) (m : Nat) (ts : T) (D : DS) (H' : Heap) : Prop :=
  D = [] ∧ Ext H1 H' ∧ ∃ k : Nat, m = R.length - k ∧ k ≤ R.length ∧ ∃ z : Nat → SV, ts = (z 0 :: (.ptr H0.next 0) :: z 2 :: z 3 :: z 4 :: z 5 :: z 6 :: z 7 :: z 8 :: z 9 :: z 10 :: z 11 :: z 12 :: z 13 :: z 14 :: z 15 :: z 16 :: z 17 :: z 18 :: z 19 :: z 20 :: z 21 :: z 22 :: z 23 :: z 24 :: z 25 :: z 26 :: z 27 :: z 28 :: z 29 :: z 30 :: z 31 :: z 32 :: z 33 :: z 34 :: z 35 :: z 36 :: z 37 :: z 38 :: z 39 :: z 40 :: (rv) :: (.int .i64 (R.length : Int)) :: (.int .i64 (k : Int)) :: z 44 :: z 45 :: z 46 :: z 47 :: z 48 :: z 49 :: z 50 :: z 51 :: z 52 :: z 53 :: z 54 :: z 55 :: z 56 :: z 57 :: z 58 :: z 59 :: z 60 :: z 61 :: z 62 :: z 63 :: z 64 :: z 65 :: z 66 :: z 67 :: [] : T) ∧ (True)
@[reducible] def I90c (H0 H1 : Heap) (dv : SV) (E : List Gd) (m : Nat) (ts : T) (D : DS) (H' : Heap) : Prop :=
  D = [] ∧ Ext H1 H' ∧ ∃ k : Nat, m = E.length - k ∧ k ≤ E.length ∧ ∃ z : Nat → SV, ts = (z 0 :: (.ptr H0.next 0) :: z 2 :: z 3 :: z 4 :: z 5 :: z 6 :: z 7 :: z 8 :: z 9 :: z 10 :: z 11 :: z 12 :: z 13 :: z 14 :: z 15 :: z 16 :: z 17 :: z 18 :: z 19 :: z 20 :: z 21 :: z 22 :: z 23 :: z 24 :: z 25 :: z 26 :: z 27 :: z 28 :: z 29 :: z 30 :: z 31 :: z 32 :: z 33 :: z 34 :: z 35 :: z 36 :: z 37 :: z 38 :: z 39 :: z 40 :: z 41 :: z 42 :: z 43 :: z 44 :: z 45 :: z 46 :: z 47 :: z 48 :: z 49 :: z 50 :: z 51 :: z 52 :: z 53 :: z 54 :: (dv) :: (.int .i64 (E.length : Int)) :: (.int .i64 (k : Int)) :: z 58 :: z 59 :: z 60 :: z 61 :: z 62 :: z 63 :: z 64 :: z 65 :: z 66 :: z 67 :: [] : T) ∧ (True)
theorem polval_ok {k : Nat} {gv rv dv : SV} {G : List Gr} {R : List Rl} {E : List Gd} (hp : PolR (RSl H) k gv rv dv G R E) (hn : 7 ≤ n) (hlf : 1000 < lf) :
    ∃ H', callS tabT lf n 90 [.agg [gv, rv, dv]] H = some (.int .i64 ((0 : Nat) : Int), H') ∧ Ext H H' := by
  obtain ⟨n, rfl⟩ : ∃ m, n = m + 1 := ⟨n - 1, by omega⟩
  have key : ∃ w H', callS tabT lf (n + 1) 90 [.agg [gv, rv, dv]] H = some (w, H') ∧ w = .int .i64 ((0 : Nat) : Int) ∧ Ext H H' := by
    have hgl := hp.grs.len
    have hrl := hp.rlen
    have hdl := hp.dlen
    have l1 := hp.gs.lenl
    have l2 := hp.rs.lenl
    have l3 := hp.ds.lenl
    rw [List.length_map] at l1 l2 l3
    obtain ⟨H1, hH1⟩ : ∃ H1, H.push (.row [gv, rv, dv] 30 true false 0) = H1 := ⟨_, rfl⟩
    have hE1 : Ext H H1 := by rw [← hH1]; exact (Ext.refl H).push _
    have hn1 : H1.next = H.next + 1 := by rw [← hH1]; rfl
    have hp1 : H1.get H.next = some (.row [gv, rv, dv] 30 true false 0) := by rw [← hH1]; exact get_push_self _
    have d1 : decide ((G.length : Int) > ((24 : Nat) : Int)) = false := by rw [decide_eq_false_iff_not]; omega
    have d2 : decide ((R.length : Int) > ((64 : Nat) : Int)) = false := by rw [decide_eq_false_iff_not]; omega
    have d3 : decide ((E.length : Int) > ((64 : Nat) : Int)) = false := by rw [decide_eq_false_iff_not]; omega
    refine call_code tab90 (by simp only [c90, go_sem, List.reduceReplicate, Nat.reduceAdd, Nat.reduceSub]; exact rfl) ?_
    simp only [c90]
    refine stp (And.intro @hH1 (And.intro @hp1 (And.intro @l1 (And.intro @l2 (And.intro @l3 (And.intro @d1 (And.intro @d2 @d3))))))) ?_
    refine cstE trivial ?_
    refine stp (And.intro @hp1 @l1) ?_
    refine EC_loop (I := I90a H H1 G) ?_ G.length ?_ (by omega)
    · rintro m ts D H2 ⟨rfl, hE2, i, rfl, hi, ⟨z, rfl, -⟩⟩
      have hp2 := (hE2.2 _ (by omega)).trans hp1
      refine stp trivial ?_
      refine cst trivial (fun hc => ?_) (fun hc => ?_) <;> try simp only [decide_eq_true_eq, decide_eq_false_iff_not, not_true_eq_false, not_false_eq_true, Int.not_lt, Int.not_le, ge_iff_le, gt_iff_lt] at hc
      · obtain ⟨H3, hc3, hE3⟩ := group_ok (lf := lf) (n := n) (i := i) (hp.imp fun v z L h => (h.keep hE1).keep hE2) (by omega) (by omega) hlf
        refine stp @hp2 ?_
        refine kst trivial hc3 ?_
        refine stp trivial ?_
        refine cstE @neq00 ?_
        refine stp (succ_w (k := i) (by omega)) ?_
        exact loopR_normal (G.length - (i + 1)) (by omega) ⟨rfl, hE2.trans hE3, i + 1, rfl, by omega, (frame_in (by rfl) (trivial))⟩
      · refine stp (And.intro @hp2 @l2) ?_
        have hle2 := hE2.1
        refine EC_loop (I := I90b H H2 rv R) ?_ R.length ?_ (by omega)
        · rintro m ts D H3 ⟨rfl, hE3, i, rfl, hi, ⟨z, rfl, -⟩⟩
          have hp3 := (hE3.2 _ (by omega)).trans hp2
          have hle3 := hE3.1
          refine stp trivial ?_
          refine cst trivial (fun hc => ?_) (fun hc => ?_) <;> try simp only [decide_eq_true_eq, decide_eq_false_iff_not, not_true_eq_false, not_false_eq_true, Int.not_lt, Int.not_le, ge_iff_le, gt_iff_lt] at hc
          · have hiR : i < R.length := by omega
            have hx : (R.map rlC)[i]? = some (rlC R[i]) := by simp [hiR]
            obtain ⟨b, o, hio, hb, hrow, _⟩ := (((hp.rs.keep hE1).keep hE2).keep hE3).at_ hx
            have hok := hp.rok _ (List.getElem_mem hiR)
            generalize R[i] = x at hrow hok
            obtain ⟨al, r, g, sk, ⟨t1, t2⟩⟩ := x
            have hrow : rowL (H3.get b) o 6 = some [.bool al, .int .i64 (r : Int), .str g, .int .i64 (sk : Int), .int .i64 (t1 : Int), .str t2] := hrow
            obtain ⟨H4, hH4⟩ : ∃ H4, (H3.push (.row [.bool false, .int .i64 ((0 : Nat) : Int), .str [], .int .i64 ((0 : Nat) : Int), .int .i64 ((0 : Nat) : Int), .str []] 112 true false 0)).put H3.next (.row [.bool al, .int .i64 (r : Int), .str g, .int .i64 (sk : Int), .int .i64 (t1 : Int), .str t2] 112 true false 0) = H4 := ⟨_, rfl⟩
            have hE4 : Ext H3 H4 := by rw [← hH4]; exact ((Ext.refl _).push _).put (Nat.le_refl _) _
            have hp6 : H4.get H3.next = some (.row [.bool al, .int .i64 (r : Int), .str g, .int .i64 (sk : Int), .int .i64 (t1 : Int), .str t2] 112 true false 0) := by rw [← hH4]; exact get_put_self _ _
            have hp4 := (hE4.2 _ (by omega)).trans hp3
            obtain ⟨H5, hc5, hE5⟩ := rule_ok (lf := lf) (n := n) (hp.imp fun v z L h => (((h.keep hE1).keep hE2).keep hE3).keep hE4) hok (by omega) hlf
            simp only [rlC] at hc5
            refine stp (And.intro @hio (And.intro @hrow (And.intro @hH4 (And.intro @hp4 @hp6)))) ?_
            refine kst trivial hc5 ?_
            refine stp trivial ?_
            refine cstE @neq00 ?_
            refine stp (succ_w (k := i) (by omega)) ?_
            exact loopR_normal (R.length - (i + 1)) (by omega) ⟨rfl, hE3.trans (hE4.trans hE5), i + 1, rfl, by omega, (frame_in (by rfl) (trivial))⟩
          · refine stp (And.intro @hp3 @l3) ?_
            refine EC_loop (I := I90c H H3 dv E) ?_ E.length ?_ (by omega)
            · rintro m ts D H4 ⟨rfl, hE4, i, rfl, hi, ⟨z, rfl, -⟩⟩
              have hp4 := (hE4.2 _ (by omega)).trans hp3
              have hle4 := hE4.1
              refine stp trivial ?_
              refine cst trivial (fun hc => ?_) (fun hc => ?_) <;> try simp only [decide_eq_true_eq, decide_eq_false_iff_not, not_true_eq_false, not_false_eq_true, Int.not_lt, Int.not_le, ge_iff_le, gt_iff_lt] at hc
              · have hiR : i < E.length := by omega
                have hx : (E.map gdC)[i]? = some (gdC E[i]) := by simp [hiR]
                obtain ⟨b, o, hio, hb, hrow, _⟩ := ((((hp.ds.keep hE1).keep hE2).keep hE3).keep hE4).at_ hx
                have hok := hp.dok _ (List.getElem_mem hiR)
                generalize E[i] = x at hrow hok
                obtain ⟨st, g, ⟨t1, t2⟩, s⟩ := x
                have hrow : rowL (H4.get b) o 5 = some [.bool st, .str g, .int .i64 (t1 : Int), .str t2, .str s] := hrow
                obtain ⟨H5, hH5⟩ : ∃ H5, (H4.push (.row [.bool false, .str [], .int .i64 ((0 : Nat) : Int), .str [], .str []] 114 true false 0)).put H4.next (.row [.bool st, .str g, .int .i64 (t1 : Int), .str t2, .str s] 114 true false 0) = H5 := ⟨_, rfl⟩
                have hE5 : Ext H4 H5 := by rw [← hH5]; exact ((Ext.refl _).push _).put (Nat.le_refl _) _
                have hp6 : H5.get H4.next = some (.row [.bool st, .str g, .int .i64 (t1 : Int), .str t2, .str s] 114 true false 0) := by rw [← hH5]; exact get_put_self _ _
                have hp5 := (hE5.2 _ (by omega)).trans hp4
                obtain ⟨H6, hc6, hE6⟩ := guard_ok (lf := lf) (n := n) (hp.imp fun v z L h => ((((h.keep hE1).keep hE2).keep hE3).keep hE4).keep hE5) hok (by omega) hlf
                simp only [gdC] at hc6
                refine stp (And.intro @hio (And.intro @hrow (And.intro @hH5 (And.intro @hp5 @hp6)))) ?_
                refine kst trivial hc6 ?_
                refine stp trivial ?_
                refine cstE @neq00 ?_
                refine stp (succ_w (k := i) (by omega)) ?_
                exact loopR_normal (E.length - (i + 1)) (by omega) ⟨rfl, hE4.trans (hE5.trans hE6), i + 1, rfl, by omega, (frame_in (by rfl) (trivial))⟩
              · refine stp trivial ?_
                refine ret1 trivial ?_
                exact (⟨rfl, hE1.trans (hE2.trans (hE3.trans hE4))⟩)
            · exact ⟨rfl, Ext.refl _, 0, by omega, by omega, (frame_in (by rfl) (trivial))⟩
        · exact ⟨rfl, Ext.refl _, 0, by omega, by omega, (frame_in (by rfl) (trivial))⟩
    · exact ⟨rfl, Ext.refl _, 0, by omega, by omega, (frame_in (by rfl) (trivial))⟩
  obtain ⟨w, H', h, rfl, hE⟩ := key
  exact ⟨H', h, hE⟩
end
end Go.Sh
end
