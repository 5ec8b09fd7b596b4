/-
  Merges: kept. (frame style z)
-/
import Derived.Test.YtpcpmplkblbpbaaGreatDoorShE1
import Derived.Test.YtpcpmplkblbpbaaGreatDoorShC7
import Derived.Test.YtpcpmplkblbpbaaGreatDoorShA7
set_option linter.all false
section
namespace Go.Sh
set_option maxRecDepth 10000
set_option linter.all false
def trimF (s : List Nat) : List Nat := if s.drop (s.length - 1) = [10] then s.take (s.length - 1) else s
theorem tab28 : tabT 28 = some (.code c28) := by kernel_rfl
theorem tab43 : tabT 43 = some (.code c43) := by kernel_rfl
theorem tab9' : tabT 9 = some (.code c9) := by kernel_rfl
theorem readsD_off {hs : List Heap} {d : Option Nat} {k : SK} {g : Option (Nat × Bool)} {dk : DK} {os : List (SOper × DK)} {t : T} {tss : List T} {v : SV} {vs : List SV} (hw : wantedS t g = false) (h : readsD hs os tss vs = true) : readsD hs ((⟨d, k, g⟩, dk) :: os) (t :: tss) (v :: vs) = true := by
  simp only [readsD, hw, h, Bool.and_self]
theorem readsD_readw {hs : List Heap} {d lo hi : Nat} {s : SOp} {g : Option (Nat × Bool)} {os : List (SOper × DK)} {t : T} {tss : List T} {v : SV} {vs : List SV} (hr : allFrom (fun H => match quietOp (.op s) t H with | some u => beqS u v | none => false) hs lo hi = true) (h : readsD hs os tss vs = true) : readsD hs ((⟨some d, .op s, g⟩, .read lo hi) :: os) (t :: tss) (v :: vs) = true := by
  simp only [readsD, h, Bool.and_true]
  cases wantedS t g with
  | false => rfl
  | true => exact hr
theorem eqv_bool (p q : Bool) : eqVal false [(0, 0)] (.bool p) (.bool q) = some (decide (p = q)) := by cases p <;> cases q <;> rfl
theorem opT_eq (o : Option (List Nat)) : opT o = .tup [.str (o.getD []), .bool o.isSome] := by cases o <;> rfl
section
variable {lf n : Nat} {H : Heap}
theorem hasSuffix57_ok {s : List Nat} (hlen : s.length < 100000) (hn : 1 ≤ n) : callS tabT lf n 57 [.str s, .str [10]] H = some (.bool (decide (s.drop (s.length - 1) = [10])), H) := by
  by_cases hs : s = []
  · subst hs
    obtain ⟨n, rfl⟩ : ∃ m, n = m + 1 := ⟨n - 1, by omega⟩
    have key : ∃ v H', callS tabT lf (n + 1) 57 [.str [], .str [10]] H = some (v, H') ∧ v = .bool (decide (([] : List Nat).drop (([] : List Nat).length - 1) = [10])) ∧ H' = H := by
      have d1 : decide (((0 : Nat) : Int) ≥ ((1 : Nat) : Int)) = false := by decide
      refine call_code tab57 (by simp only [c57, go_sem, List.reduceReplicate, Nat.reduceAdd, Nat.reduceSub]; exact rfl) ?_
      simp only [c57]
      refine stp (And.intro @List.length_nil.{0} @d1) ?_
      refine ret1 trivial ?_
      exact (⟨rfl, rfl⟩)
    obtain ⟨v, H', h, rfl, rfl⟩ := key
    exact h
  · exact hasSuffix42_ok hs hlen hn
theorem trim_ok {s : List Nat} (hlen : s.length < 100000) (hn : 3 ≤ n) : callS tabT lf n 28 [.str s, .str [10]] H = some (.str (trimF s), H) := by
  obtain ⟨n, rfl⟩ : ∃ m, n = m + 1 := ⟨n - 1, by omega⟩
  have key : ∃ v H', callS tabT lf (n + 1) 28 [.str s, .str [10]] H = some (v, H') ∧ v = .str (trimF s) ∧ H' = H := by
    have h43 : ∃ v H', callS tabT lf n 43 [.str s, .str [10]] H = some (v, H') ∧ v = .str (trimF s) ∧ H' = H := by
      obtain ⟨n, rfl⟩ : ∃ m, n = m + 1 := ⟨n - 1, by omega⟩
      have hh := hasSuffix57_ok (lf := lf) (n := n) (H := H) hlen (by omega)
      refine call_code tab43 (by simp only [c43, go_sem, List.reduceReplicate, Nat.reduceAdd, Nat.reduceSub]; exact rfl) ?_
      simp only [c43]
      refine stp trivial ?_
      refine kst trivial hh ?_
      by_cases h1 : s.drop (s.length - 1) = [10]
      · have d1 : decide (s.drop (s.length - 1) = [10]) = true := decide_eq_true h1
        have hp : 1 ≤ s.length := by
          cases s with
          | nil => simp at h1
          | cons x l => simp
        have hsub : ((s.length : Int) - ((1 : Nat) : Int)) = ((s.length - 1 : Nat) : Int) := by omega
        have htk : (s.drop 0).take (s.length - 1) = s.take (s.length - 1) := rfl
        have hf : trimF s = s.take (s.length - 1) := by rw [trimF, if_pos h1]
        refine stp trivial ?_
        refine cstT @d1 ?_
        refine stp @hsub ?_
        refine ret1 (And.intro @htk @Nat.sub_zero) ?_
        exact (⟨by rw [hf], rfl⟩)
      · have d1 : decide (s.drop (s.length - 1) = [10]) = false := decide_eq_false h1
        have hf : trimF s = s := by rw [trimF, if_neg h1]
        refine stp trivial ?_
        refine cstE @d1 ?_
        refine stp trivial ?_
        refine ret1 trivial ?_
        exact (⟨by rw [hf], rfl⟩)
    obtain ⟨v, H', h43, rfl, rfl⟩ := h43
    refine call_code tab28 (by simp only [c28, go_sem, List.reduceReplicate, Nat.reduceAdd, Nat.reduceSub]; exact rfl) ?_
    simp only [c28]
    refine stp trivial ?_
    refine kst trivial h43 ?_
    refine stp trivial ?_
    refine ret1 trivial ?_
    exact (⟨rfl, rfl⟩)
  obtain ⟨v, H', h, rfl, rfl⟩ := key
  exact h
def likeF (u y : Un) : Bool := decide (y.title = u.title) && decide (trimF y.text = trimF u.text)
@[reducible] def I9 (vB vT vO vR : SV) (N : Nat) (H0 : Heap) (m : Nat) (ts : T) (D : DS) (H' : Heap) : Prop :=
  D = [] ∧ Ext H0 H' ∧ ∃ i : Nat, m = N - i ∧ i ≤ N ∧ ∃ z : Nat → SV, ts = (z 0 :: z 1 :: z 2 :: z 3 :: z 4 :: z 5 :: z 6 :: z 7 :: z 8 :: (vB) :: z 10 :: (vT) :: z 12 :: (vO) :: z 14 :: (vR) :: z 16 :: (.int .i64 (i : Int)) :: z 18 :: z 19 :: z 20 :: z 21 :: z 22 :: z 23 :: z 24 :: z 25 :: z 26 :: z 27 :: z 28 :: z 29 :: z 30 :: z 31 :: z 32 :: z 33 :: z 34 :: z 35 :: z 36 :: z 37 :: z 38 :: z 39 :: z 40 :: z 41 :: z 42 :: z 43 :: z 44 :: z 45 :: z 46 :: z 47 :: z 48 :: z 49 :: z 50 :: z 51 :: z 52 :: z 53 :: z 54 :: z 55 :: z 56 :: z 57 :: z 58 :: z 59 :: z 60 :: z 61 :: z 62 :: z 63 :: z 64 :: z 65 :: z 66 :: z 67 :: z 68 :: z 69 :: z 70 :: z 71 :: z 72 :: z 73 :: z 74 :: z 75 :: z 76 :: z 77 :: z 78 :: z 79 :: z 80 :: z 81 :: z 82 :: z 83 :: z 84 :: z 85 :: z 86 :: z 87 :: z 88 :: z 89 :: z 90 :: z 91 :: z 92 :: z 93 :: z 94 :: z 95 :: z 96 :: z 97 :: z 98 :: z 99 :: z 100 :: z 101 :: z 102 :: z 103 :: z 104 :: z 105 :: z 106 :: z 107 :: z 108 :: z 109 :: z 110 :: z 111 :: z 112 :: z 113 :: z 114 :: z 115 :: z 116 :: z 117 :: z 118 :: z 119 :: z 120 :: z 121 :: z 122 :: z 123 :: z 124 :: z 125 :: z 126 :: [] : T) ∧ (True)
@[reducible] def I9b (vB vT vO vR : SV) (u : Un) (R : List Un) (i : Nat) (H0 : Heap) (m : Nat) (ts : T) (D : DS) (H' : Heap) : Prop :=
  D = [] ∧ H' = H0 ∧ ∃ j : Nat, m = R.length - j ∧ j ≤ R.length ∧ ∃ z : Nat → SV, ts = (z 0 :: z 1 :: z 2 :: z 3 :: z 4 :: z 5 :: z 6 :: z 7 :: z 8 :: (vB) :: z 10 :: (vT) :: z 12 :: (vO) :: z 14 :: (vR) :: z 16 :: (.int .i64 (i : Int)) :: z 18 :: z 19 :: z 20 :: z 21 :: (.bool ((R.take j).any (likeF u))) :: (.int .i64 (j : Int)) :: z 24 :: z 25 :: z 26 :: z 27 :: z 28 :: z 29 :: z 30 :: z 31 :: z 32 :: z 33 :: z 34 :: z 35 :: z 36 :: z 37 :: z 38 :: z 39 :: z 40 :: z 41 :: z 42 :: z 43 :: z 44 :: z 45 :: z 46 :: z 47 :: z 48 :: z 49 :: z 50 :: z 51 :: z 52 :: z 53 :: z 54 :: z 55 :: z 56 :: z 57 :: z 58 :: z 59 :: z 60 :: z 61 :: z 62 :: z 63 :: z 64 :: z 65 :: z 66 :: z 67 :: z 68 :: z 69 :: z 70 :: z 71 :: z 72 :: z 73 :: z 74 :: z 75 :: z 76 :: z 77 :: z 78 :: z 79 :: z 80 :: z 81 :: z 82 :: z 83 :: z 84 :: z 85 :: z 86 :: z 87 :: z 88 :: z 89 :: z 90 :: z 91 :: z 92 :: z 93 :: z 94 :: z 95 :: z 96 :: z 97 :: z 98 :: z 99 :: z 100 :: z 101 :: z 102 :: z 103 :: z 104 :: z 105 :: z 106 :: z 107 :: z 108 :: z 109 :: z 110 :: z 111 :: z 112 :: z 113 :: z 114 :: z 115 :: z 116 :: z 117 :: z 118 :: z 119 :: z 120 :: z 121 :: z 122 :: z 123 :: z 124 :: z 125 :: z 126 :: [] : T) ∧ (True)
set_option maxHeartbeats 4000000 in
theorem kept_ok {sb st so sr : List Nat} {B Th O R : List Un} (hB : UOK sb B) (hT : UOK st Th) (hO : UOK so O) (hR : UOK sr R) (hBl : B.length < 900) (hTl : Th.length < 900) (hOl : O.length < 900) (hRl : R.length < 900)
    (hOt : ∀ u ∈ O, u.text.length < 100000) (hRt : ∀ u ∈ R, u.text.length < 100000)
    (hk : ∀ u ∈ O, unitF B u = unitF Th u → ∃ y ∈ R, y.title = u.title ∧ trimF y.text = trimF u.text) (hn : 12 ≤ n) (hlf : 20000 < lf) :
    ∃ H', callS tabT lf n 9 [.str sb, .str st, .str so, .str sr] H = some (.bool true, H') ∧ Ext H H' := by
  obtain ⟨n, rfl⟩ : ∃ m, n = m + 1 := ⟨n - 1, by omega⟩
  have key : ∃ r H', callS tabT lf (n + 1) 9 [.str sb, .str st, .str so, .str sr] H = some (r, H') ∧ r = .bool true ∧ Ext H H' := by
    obtain ⟨vB, H1, hcB, hE1, hSB⟩ := hB lf n H (by omega) hlf
    obtain ⟨vT, H2, hcT, hE2, hST⟩ := hT lf n H1 (by omega) hlf
    obtain ⟨vO, H3, hcO, hE3, hSO⟩ := hO lf n H2 (by omega) hlf
    obtain ⟨vR, H4, hcR, hE4, hSR⟩ := hR lf n H3 (by omega) hlf
    have d0 : decide ((0 : Int) ≠ ((0 : Nat) : Int)) = false := by decide
    have SB : Su 0 H4 vB B := (hSB.su0 (Nat.zero_le _)).keep (fun c _ q => ((hE2.trans hE3).trans hE4).2 c q) ((hE2.trans hE3).trans hE4).1
    have ST : Su 0 H4 vT Th := (hST.su0 (Nat.zero_le _)).keep (fun c _ q => (hE3.trans hE4).2 c q) (hE3.trans hE4).1
    have SO : Su 0 H4 vO O := (hSO.su0 (Nat.zero_le _)).keep (fun c _ q => hE4.2 c q) hE4.1
    have SR : Su 0 H4 vR R := hSR.su0 (Nat.zero_le _)
    have hE04 := ((hE1.trans hE2).trans hE3).trans hE4
    obtain ⟨bO, cO, exO, -, hbO, hvO, -, rowO⟩ := SO.2
    obtain ⟨bR, cR, exR, -, hbR, hvR, -, rowR⟩ := SR.2
    have atO := fun (j : Nat) (y : Un) (hj : O[j]? = some y) => rowL_at (z := 3) (i := j) (e := 51) (ex := exO) (ro := false) (frz := 0) (unC_all O) (by rw [List.getElem?_map, hj]; rfl : (O.map unC)[j]? = some (unC y))
    have oneO := fun (j k : Nat) (y : Un) (c : SV) (hj : O[j]? = some y) (hc : (unC y)[k]? = some c) (hk : k < 3) => rowL_one (e := 51) (ex := exO) (ro := false) (frz := 0) (un_cell hj k hc hk)
    have oneR := fun (j k : Nat) (y : Un) (c : SV) (hj : R[j]? = some y) (hc : (unC y)[k]? = some c) (hk : k < 3) => rowL_one (e := 51) (ex := exR) (ro := false) (frz := 0) (un_cell hj k hc hk)
    have flO : (O.map unC).flatten.length = O.length * 3 := by rw [flatten_len (unC_all _), List.length_map]
    have flR : (R.map unC).flatten.length = R.length * 3 := by rw [flatten_len (unC_all _), List.length_map]
    obtain ⟨csO, hcsO⟩ : ∃ cs, (O.map unC).flatten = cs := ⟨_, rfl⟩
    obtain ⟨csR, hcsR⟩ : ∃ cs, (R.map unC).flatten = cs := ⟨_, rfl⟩
    rw [hcsO] at rowO atO oneO flO
    rw [hcsR] at rowR oneR flR
    refine call_code tab9 (by simp only [c9, go_sem, List.reduceReplicate, Nat.reduceAdd, Nat.reduceSub]; exact rfl) ?_
    simp only [c9]
    refine stp trivial ?_
    refine kst trivial hcB ?_
    refine stp trivial ?_
    refine kst trivial hcT ?_
    refine stp trivial ?_
    refine kst trivial hcO ?_
    refine stp trivial ?_
    refine kst trivial hcR ?_
    refine stp @d0 ?_
    refine cstE @d0 ?_
    refine stp trivial ?_
    subst hvO hvR
    refine EC_loop (I := I9 vB vT (.slice bO 0 O.length cO 3) (.slice bR 0 R.length cR 3) O.length H4) ?_ O.length ?_ (by omega)
    · rintro m ts D H5 ⟨rfl, hE5, i, rfl, hi, ⟨z, rfl, -⟩⟩
      refine stp trivial ?_
      refine cst trivial (fun hc => ?_) (fun hc => ?_) <;> try simp only [decide_eq_true_eq, decide_eq_false_iff_not, not_true_eq_false, not_false_eq_true, Int.not_lt, Int.not_le, ge_iff_le, gt_iff_lt] at hc
      · obtain ⟨u, hu⟩ : ∃ u, O[i]? = some u := ⟨_, List.getElem?_eq_getElem (by omega)⟩
        have hum := List.mem_of_getElem? hu
        have q := atO i u hu
        have q0 := oneO i 0 u (.str u.title) hu rfl (by omega)
        have q2 := oneO i 2 u (.str u.text) hu rfl (by omega)
        rw [Nat.add_zero] at q0
        have rowO5 : H5.get bO = some (.row csO 51 exO false 0) := by rw [hE5.2 bO hbO]; exact rowO
        obtain ⟨H6, hu6, hE6⟩ := unit_ok (lf := lf) (n := n) (u := u) (SB.keep (fun c _ q => hE5.2 c q) hE5.1) (by omega) (by omega) (by omega)
        obtain ⟨H7, hu7, hE7⟩ := unit_ok (lf := lf) (n := n) (u := u) (ST.keep (fun c _ q => (hE5.trans hE6).2 c q) (hE5.trans hE6).1) (by omega) (by omega) (by omega)
        have hE57 := (hE5.trans hE6).trans hE7
        have rowO6 : H6.get bO = some (.row csO 51 exO false 0) := by rw [(hE5.trans hE6).2 bO hbO]; exact rowO
        have rowO7 : H7.get bO = some (.row csO 51 exO false 0) := by rw [hE57.2 bO hbO]; exact rowO
        have rowR7 : H7.get bR = some (.row csR 51 exR false 0) := by rw [hE57.2 bR hbR]; exact rowR
        rw [opT_eq] at hu6 hu7
        simp only [unC] at q hu6 hu7
        obtain ⟨x, hx⟩ : ∃ x, unitF B u = x := ⟨_, rfl⟩
        obtain ⟨y, hy⟩ : ∃ y, unitF Th u = y := ⟨_, rfl⟩
        rw [hx] at hu6
        rw [hy] at hu7
        have ev := eqv_bool x.isSome y.isSome
        refine stp (And.intro @rowO5 @q) ?_
        refine kst trivial hu6 ?_
        refine stp (And.intro @rowO6 @q) ?_
        refine kst trivial hu7 ?_
        by_cases hxy : x = y
        · subst hxy
          have dx : decide (x.isSome = x.isSome) = true := by simp
          have dn : decide (x.getD [] ≠ x.getD []) = false := by simp
          have nt : (!true) = false := rfl
          obtain ⟨yR, hyR, hyt, hyx⟩ := hk u hum (by rw [hx, hy])
          refine stp (And.intro @ev (And.intro @dx (And.intro @dn @nt))) ?_
          refine cstE @dn ?_
          refine stp trivial ?_
          have hlike : R.any (likeF u) = true := by
            rw [List.any_eq_true]
            exact ⟨yR, hyR, by simp [likeF, hyt, hyx]⟩
          refine EC_loop (I := I9b vB vT (.slice bO 0 O.length cO 3) (.slice bR 0 R.length cR 3) u R i H7) ?_ R.length ?_ (by omega)
          · rintro m ts D H8 ⟨rfl, hH8, j, rfl, hj, ⟨z, rfl, -⟩⟩
            obtain rfl : H7 = H8 := hH8.symm
            refine stp trivial ?_
            refine cst trivial (fun hc => ?_) (fun hc => ?_) <;> try simp only [decide_eq_true_eq, decide_eq_false_iff_not, not_true_eq_false, not_false_eq_true, Int.not_lt, Int.not_le, ge_iff_le, gt_iff_lt] at hc
            · obtain ⟨yj, hyj⟩ : ∃ y, R[j]? = some y := ⟨_, List.getElem?_eq_getElem (by omega)⟩
              have p0 := oneR j 0 yj (.str yj.title) hyj rfl (by omega)
              have p2 := oneR j 2 yj (.str yj.text) hyj rfl (by omega)
              rw [Nat.add_zero] at p0
              have hyl := hRt yj (List.mem_of_getElem? hyj)
              have hul := hOt u hum
              have hany : (R.take (j + 1)).any (likeF u) = ((R.take j).any (likeF u) || likeF u yj) := by
                rw [List.take_succ, hyj, List.any_append]
                simp
              obtain ⟨sj, hsj⟩ : ∃ s, (R.take j).any (likeF u) = s := ⟨_, rfl⟩
              rw [hsj] at hany
              rw [hsj]
              refine stp trivial ?_
              cases sj with
              | true =>
                have hv : (R.take (j + 1)).any (likeF u) = true := by rw [hany]; rfl
                refine EC_draw rfl ?_
                refine stpw trivial ?_
                refine ⟨?_, fun h => (by cases h), _, (by simp only [List.getLast?_cons_cons, List.getLast?_singleton]; first | done | with_reducible rfl), ?_⟩
                · repeat (first | exact readsD_nil _ _ _ | refine readsD_pure ?_ | refine readsD_eff ?_ | refine readsD_off (wanted_out (by exact sfc @trivial) (by rfl)) ?_ | refine readsD_off (wanted_und (by exact sfc @trivial)) ?_ | refine readsD_readw (by simp only [allFrom, Bool.and_eq_true, and_true, and_self]; exact quiet_ok (H' := H7) (by exact sfc (And.intro @rowR7 (And.intro @rowO7 (And.intro @p0 (And.intro @p2 (And.intro @q0 @q2)))))) (bq_str _)) ?_)
                · refine stp trivial ?_
                  refine loopR_normal (R.length - (j + 1)) (by omega) ⟨rfl, rfl, j + 1, rfl, by omega, ?_⟩
                  rw [hv]
                  exact (frame_in (by rfl) (trivial))
              | false =>
                refine EC_draw rfl ?_
                by_cases e1 : yj.title = u.title
                · have de1 : decide (yj.title = u.title) = true := decide_eq_true e1
                  have hv : (R.take (j + 1)).any (likeF u) = decide (trimF yj.text = trimF u.text) := by rw [hany, likeF, de1]; simp
                  have t1 := trim_ok (lf := lf) (n := n) (H := H7) (s := yj.text) hyl (by omega)
                  have t2 := trim_ok (lf := lf) (n := n) (H := H7) (s := u.text) hul (by omega)
                  refine stp (And.intro @rowR7 (And.intro @rowO7 (And.intro @p0 (And.intro @q0 (And.intro @p2 (And.intro @q2 @de1)))))) ?_
                  refine ED_call (by exact sfc @trivial) t1 (by simp only [List.set_cons_zero, List.set_cons_succ]; with_reducible rfl) ?_
                  refine stp (And.intro @rowR7 (And.intro @rowO7 (And.intro @p0 (And.intro @q0 (And.intro @p2 (And.intro @q2 @de1)))))) ?_
                  refine ED_call (by exact sfc @trivial) t2 (by simp only [List.set_cons_zero, List.set_cons_succ]; with_reducible rfl) ?_
                  refine stp trivial ?_
                  refine ⟨?_, fun h => (by cases h), _, (by simp only [List.getLast?_cons_cons, List.getLast?_singleton]; first | done | with_reducible rfl), ?_⟩
                  · repeat (first | exact readsD_nil _ _ _ | refine readsD_pure ?_ | refine readsD_eff ?_ | refine readsD_off (wanted_out (by exact sfc @trivial) (by rfl)) ?_ | refine readsD_off (wanted_und (by exact sfc @trivial)) ?_ | refine readsD_readw (by simp only [allFrom, Bool.and_eq_true, and_true, and_self]; exact quiet_ok (H' := H7) (by exact sfc (And.intro @rowR7 (And.intro @rowO7 (And.intro @p0 (And.intro @p2 (And.intro @q0 @q2)))))) (bq_str _)) ?_)
                  · refine stp trivial ?_
                    refine loopR_normal (R.length - (j + 1)) (by omega) ⟨rfl, rfl, j + 1, rfl, by omega, ?_⟩
                    rw [hv]
                    exact (frame_in (by rfl) (trivial))
                · have de1 : decide (yj.title = u.title) = false := decide_eq_false e1
                  have hv : (R.take (j + 1)).any (likeF u) = false := by rw [hany, likeF, de1]; simp
                  refine stpw (And.intro @rowR7 (And.intro @rowO7 (And.intro @p0 (And.intro @q0 @de1)))) ?_
                  refine ⟨?_, fun h => (by cases h), _, (by simp only [List.getLast?_cons_cons, List.getLast?_singleton]; first | done | with_reducible rfl), ?_⟩
                  · repeat (first | exact readsD_nil _ _ _ | refine readsD_pure ?_ | refine readsD_eff ?_ | refine readsD_off (wanted_out (by exact sfc @trivial) (by rfl)) ?_ | refine readsD_off (wanted_und (by exact sfc @trivial)) ?_ | refine readsD_readw (by simp only [allFrom, Bool.and_eq_true, and_true, and_self]; exact quiet_ok (H' := H7) (by exact sfc (And.intro @rowR7 (And.intro @rowO7 (And.intro @p0 (And.intro @p2 (And.intro @q0 @q2)))))) (bq_str _)) ?_)
                  · refine stp trivial ?_
                    refine loopR_normal (R.length - (j + 1)) (by omega) ⟨rfl, rfl, j + 1, rfl, by omega, ?_⟩
                    rw [hv]
                    exact (frame_in (by rfl) (trivial))
            · have hje : R.take j = R := List.take_of_length_le (by omega)
              rw [hje, hlike]
              have nt2 : (!true) = false := rfl
              refine stp @nt2 ?_
              refine cstE @nt2 ?_
              refine stp trivial ?_
              refine loopR_normal (O.length - (i + 1)) (by omega) ⟨rfl, hE57, i + 1, rfl, by omega, ?_⟩
              exact (frame_in (by rfl) (trivial))
          · refine ⟨rfl, rfl, 0, by omega, by omega, ?_⟩
            exact (frame_in (by rfl) (trivial))
        · by_cases hp : x.isSome = y.isSome
          · have dx : decide (x.isSome = y.isSome) = true := decide_eq_true hp
            have hg : x.getD [] ≠ y.getD [] := by
              intro hg
              apply hxy
              cases x <;> cases y <;> simp_all
            have dn : decide (x.getD [] ≠ y.getD []) = true := decide_eq_true hg
            have nt : (!true) = false := rfl
            refine stp (And.intro @ev (And.intro @dx (And.intro @dn @nt))) ?_
            refine cstT @dn ?_
            refine stp trivial ?_
            refine loopR_normal (O.length - (i + 1)) (by omega) ⟨rfl, hE57, i + 1, rfl, by omega, ?_⟩
            exact (frame_in (by rfl) (trivial))
          · have dx : decide (x.isSome = y.isSome) = false := decide_eq_false hp
            have nt : (!false) = true := rfl
            refine stp (And.intro @ev (And.intro @dx @nt)) ?_
            refine cstT @nt ?_
            refine stp trivial ?_
            refine loopR_normal (O.length - (i + 1)) (by omega) ⟨rfl, hE57, i + 1, rfl, by omega, ?_⟩
            exact (frame_in (by rfl) (trivial))
      · refine stp trivial ?_
        refine ret1 trivial ?_
        exact (⟨rfl, hE04.trans hE5⟩)
    · exact ⟨rfl, Ext.refl _, 0, by omega, by omega, (frame_in (by rfl) (trivial))⟩
  obtain ⟨r, H', h, rfl, hr⟩ := key
  exact ⟨H', h, hr⟩
end
end Go.Sh
end
