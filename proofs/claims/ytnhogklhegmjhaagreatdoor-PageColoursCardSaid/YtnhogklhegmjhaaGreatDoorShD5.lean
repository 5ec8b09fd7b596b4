/-
  The outermost walk: the loop that puts page Q in. (frame style z)
-/
import Derived.Test.YtnhogklhegmjhaaGreatDoorShD4
set_option linter.all false
section
namespace Go.Sh
set_option maxRecDepth 10000
set_option linter.all false
def c3L : SCode := (.seq (.reg [ox 34 (.fad 0 (.t 4)), ox 35 (.load false 1 (.t 34)), ox 36 (.lenl (.t 35)), ox 37 (.bin .sub (.t 36) (.c (.int .i64 (.ofNat 1)))), oy 8 37]) (.block 0 (.loop (.seq (.seq (.reg [oy 38 8, ox 39 (.bin .geq (.t 38) (.c (.int .i64 (.ofNat 0))))]) (.cond (.t 39) .skip (.exit 0))) (.seq (.block 1 (.seq (.reg [ox 42 (.fad 0 (.t 4)), ox 43 (.load false 1 (.t 42)), oy 44 8, ox 45 (.load true 2 (.t 5)), oy 46 7, ox 47 (.bin .add (.c (.str [91, 91, 58])) (.t 46)), ox 48 (.bin .add (.t 47) (.c (.str [124, 120, 93, 93]))), ox 49 (.build [(.int .i64 (.ofNat 0)), (.str []), (.str []), (.int .i64 (.ofNat 0))] [(0, (2, (.t 45))), (2, (1, (.t 48))), (3, (1, (.c (.int .i64 (.ofNat 1)))))]), ox 50 (.iad 4 (.t 43) (.t 44)), ⟨none, (.op (.store 4 (.t 50) (.t 49))), none⟩]) (.seq (.seq (.dreg [(oy 51 8, .pure), (ox 52 (.bin .eql (.t 51) (.c (.int .i64 (.ofNat 0)))), .pure), (oy 53 52, .pure), (⟨some 54, (.op (.fad 0 (.t 4))), (some (53, false))⟩, .pure), (⟨some 55, (.op (.load false 1 (.t 54))), (some (53, false))⟩, (.read 0 0)), (⟨some 56, (.op (.mv (.t 8))), (some (53, false))⟩, .pure), (⟨some 57, (.op (.bin .sub (.t 56) (.c (.int .i64 (.ofNat 1))))), (some (53, false))⟩, .pure), (⟨some 58, (.op (.iad 4 (.t 55) (.t 57))), (some (53, false))⟩, .pure), (⟨some 59, (.op (.fad 0 (.t 58))), (some (53, false))⟩, .pure), (⟨some 60, (.op (.load true 2 (.t 59))), (some (53, false))⟩, (.read 0 0)), (⟨some 61, (.op (.load true 2 (.t 5))), (some (53, false))⟩, (.read 0 0)), (⟨some 62, (.call 7 [(.t 60), (.t 61)]), (some (53, false))⟩, .eff), (ox 63 (.pick (.t 53) (.c (.bool true)) (.t 62)), .pure)] false) (.cond (.t 63) (.exit 0) .skip)) (.dreg [(ox 64 (.fad 0 (.t 4)), .pure), (ox 65 (.load false 1 (.t 64)), (.read 0 0)), (oy 66 8, .pure), (ox 67 (.fad 0 (.t 4)), .pure), (ox 68 (.load false 1 (.t 67)), (.read 0 0)), (oy 69 8, .pure), (ox 70 (.bin .sub (.t 69) (.c (.int .i64 (.ofNat 1)))), .pure), (ox 71 (.iad 4 (.t 68) (.t 70)), .pure), (ox 72 (.load true 4 (.t 71)), (.read 0 0)), (ox 73 (.iad 4 (.t 65) (.t 66)), .pure), (⟨none, (.op (.store 4 (.t 73) (.t 72))), none⟩, .eff)] false)))) (.reg [oy 40 8, ox 41 (.bin .sub (.t 40) (.c (.int .i64 (.ofNat 1)))), oy 8 41]))))))
def c3R : SCode := (.seq (.dreg [(ox 75 (.load true 7 (.t 4)), (.read 0 1)), (ox 76 (.load true 2 (.t 5)), (.read 0 1)), (⟨some 77, (.call 9 []), none⟩, .eff), (⟨some 78, (.call 8 [(.t 75), (.t 76), (.t 77)]), none⟩, .eff), (oy 74 78, .pure), (ox 79 (.ext 0 (.t 74)), .pure), (ox 80 (.ext 1 (.t 74)), .pure), (ox 9 (.alloc [(.str []), .nils, .nils, .nils, (.bool false)] 45), (.hoist 0 2)), (⟨none, (.op (.store 5 (.t 9) (.t 79))), none⟩, .eff), (oy 10 80, .pure)] false) (.seq (.reg [ox 11 (.mv (.c (.str [])))]) (.seq (.seq (.reg [ox 81 (.load true 7 (.t 4)), ox 82 (.load true 2 (.t 6)), ox 83 (.build [(.int .i64 (.ofNat 0)), (.int .i64 (.ofNat 0)), (.str []), (.int .i64 (.ofNat 0))] [(0, (1, (.c (.int .i64 (.ofNat 2))))), (1, (2, (.t 82)))]), ⟨some 84, (.call 10 [(.t 81), (.t 83)]), none⟩, ox 85 (.fld false 1 0 (.t 84)), ox 86 (.un .not (.t 85))]) (.cond (.t 86) (.reg [ox 11 (.mv (.c (.str [99, 108, 97, 115, 115, 61, 34, 109, 105, 115, 115, 105, 110, 103, 34, 32])))]) .skip)) (.seq (.dreg [(oy 87 10, .pure), (ox 88 (.bin .eql (.t 87) (.c (.int .i64 (.ofNat 0)))), .pure), (oy 89 88, .pure), (⟨some 90, (.op (.fad 0 (.t 9))), (some (89, true))⟩, .pure), (⟨some 91, (.op (.load false 1 (.t 90))), (some (89, true))⟩, (.read 0 1)), (⟨some 92, (.op (.mv (.t 11))), (some (89, true))⟩, .pure), (⟨some 93, (.op (.bin .add (.c (.str [60, 112, 62, 60, 97, 32])) (.t 92))), (some (89, true))⟩, .pure), (⟨some 94, (.op (.bin .add (.t 93) (.c (.str [104, 114, 101, 102, 61, 34])))), (some (89, true))⟩, .pure), (⟨some 95, (.op (.load true 2 (.t 6))), (some (89, true))⟩, (.read 0 0)), (⟨some 96, (.call 11 [(.t 95)]), (some (89, true))⟩, .eff), (⟨some 97, (.op (.bin .add (.t 94) (.t 96))), (some (89, true))⟩, .pure), (⟨some 98, (.op (.bin .add (.t 97) (.c (.str [34, 62, 120, 60, 47, 97, 62, 60, 47, 112, 62, 10])))), (some (89, true))⟩, .pure), (⟨some 99, (.op (.bin .eql (.t 91) (.t 98))), (some (89, true))⟩, .pure), (ox 100 (.pick (.t 89) (.t 99) (.c (.bool false))), .pure), (oy 101 100, .pure), (⟨some 102, (.call 12 []), (some (101, true))⟩, .eff), (ox 103 (.pick (.t 101) (.t 102) (.c (.bool false))), .pure), (oy 2 103, .pure)] false) .ret))))
section
variable {lf : Nat} {H : Heap} {call : CallS}
theorem bl_pg (a : Pg) : beqList (pgC a) (pgC a) = true := by simp [pgC, beqOne, beqList, eqS_dec]
@[reducible] def I3 (H1 : Heap) (p4 p5 p6 b : Nat) (A : List Pg) (a1 a2 a3 a4 a5 a6 : SV) (tx : List Nat) (m : Nat) (ts : T) (D : DS) (H' : Heap) : Prop :=
  D = [] ∧ Fr2 b b H1 H' ∧ ∃ (i : Nat) (x : Pg), m = i ∧ i ≤ A.length ∧ (∀ j y, i ≤ j → A[j]? = some y → cmpT y.t tQ ≠ -1) ∧ H'.get b = some (.row ((insQ A i x).map pgC).flatten 40 false false 0) ∧
    ∃ z : Nat → SV, ts = (z 0 :: z 1 :: z 2 :: z 3 :: (.ptr p4 0) :: (.ptr p5 0) :: (.ptr p6 0) :: (.str tx) :: (.int .i64 (i : Int)) :: z 9 :: z 10 :: z 11 :: z 12 :: z 13 :: z 14 :: z 15 :: z 16 :: z 17 :: z 18 :: z 19 :: z 20 :: z 21 :: z 22 :: z 23 :: z 24 :: z 25 :: z 26 :: z 27 :: z 28 :: z 29 :: z 30 :: z 31 :: z 32 :: z 33 :: z 34 :: z 35 :: z 36 :: z 37 :: z 38 :: z 39 :: z 40 :: z 41 :: z 42 :: z 43 :: z 44 :: z 45 :: z 46 :: z 47 :: z 48 :: z 49 :: z 50 :: z 51 :: z 52 :: z 53 :: z 54 :: z 55 :: z 56 :: z 57 :: z 58 :: z 59 :: z 60 :: z 61 :: z 62 :: z 63 :: z 64 :: z 65 :: z 66 :: z 67 :: z 68 :: z 69 :: z 70 :: z 71 :: z 72 :: z 73 :: z 74 :: z 75 :: z 76 :: z 77 :: (.undef) :: z 79 :: z 80 :: z 81 :: z 82 :: z 83 :: z 84 :: z 85 :: z 86 :: z 87 :: z 88 :: z 89 :: z 90 :: z 91 :: z 92 :: z 93 :: z 94 :: z 95 :: z 96 :: z 97 :: z 98 :: z 99 :: z 100 :: z 101 :: z 102 :: z 103 :: [] : T) ∧ (True)
theorem ins_ok {p4 p5 p6 b : Nat} {A : List Pg} {a1 a2 a3 a4 a5 a6 : SV} {tx : List Nat} {x0 : Pg} {ts : T} (h7 : ∀ a ∈ pagL, ∀ H, call 7 [tC a, tC tQ] H = some (.bool (decide (cmpT a tQ = -1)), H)) (hA : ∀ x ∈ A, x.t ∈ pagL) (hl : A.length ≤ 5) (htx : tx.length ≤ 100)
    (hp4 : H.get p4 = some (.row [.slice b 0 (A.length + 1) none 4, a1, a2, a3, a4, a5, a6] 34 true false 0)) (hp5 : H.get p5 = some (.row [.int .i64 ((0 : Nat) : Int), .str [81]] 37 true false 0)) (hb : H.get b = some (.row ((insQ A A.length x0).map pgC).flatten 40 false false 0)) (hb4 : p4 ≠ b) (hb5 : p5 ≠ b) (hbn : b < H.next) (h4n : p4 < H.next) (h5n : p5 < H.next) (hlf : 1000 < lf)
    (hts : ∃ z : Nat → SV, ts = (z 0 :: z 1 :: z 2 :: z 3 :: (.ptr p4 0) :: (.ptr p5 0) :: (.ptr p6 0) :: (.str tx) :: z 8 :: z 9 :: z 10 :: z 11 :: z 12 :: z 13 :: z 14 :: z 15 :: z 16 :: z 17 :: z 18 :: z 19 :: z 20 :: z 21 :: z 22 :: z 23 :: z 24 :: z 25 :: z 26 :: z 27 :: z 28 :: z 29 :: z 30 :: z 31 :: z 32 :: z 33 :: z 34 :: z 35 :: z 36 :: z 37 :: z 38 :: z 39 :: z 40 :: z 41 :: z 42 :: z 43 :: z 44 :: z 45 :: z 46 :: z 47 :: z 48 :: z 49 :: z 50 :: z 51 :: z 52 :: z 53 :: z 54 :: z 55 :: z 56 :: z 57 :: z 58 :: z 59 :: z 60 :: z 61 :: z 62 :: z 63 :: z 64 :: z 65 :: z 66 :: z 67 :: z 68 :: z 69 :: z 70 :: z 71 :: z 72 :: z 73 :: z 74 :: z 75 :: z 76 :: z 77 :: (.undef) :: z 79 :: z 80 :: z 81 :: z 82 :: z 83 :: z 84 :: z 85 :: z 86 :: z 87 :: z 88 :: z 89 :: z 90 :: z 91 :: z 92 :: z 93 :: z 94 :: z 95 :: z 96 :: z 97 :: z 98 :: z 99 :: z 100 :: z 101 :: z 102 :: z 103 :: [] : T) ∧ (True)) :
    EC call lf c3L ts [] H fun x ts D H' => x = .normal ∧ D = [] ∧ Fr2 b b H H' ∧ ∃ i, i ≤ A.length ∧ (∀ j y, i ≤ j → A[j]? = some y → cmpT y.t tQ ≠ -1) ∧ (∀ j, j + 1 = i → ∀ y, A[j]? = some y → cmpT y.t tQ = -1) ∧ H'.get b = some (.row ((insQ A i ⟨tQ, [91, 91, 58] ++ tx ++ [124, 120, 93, 93], 1⟩).map pgC).flatten 40 false false 0) ∧ ∃ z : Nat → SV, ts = (z 0 :: z 1 :: z 2 :: z 3 :: (.ptr p4 0) :: (.ptr p5 0) :: (.ptr p6 0) :: z 7 :: z 8 :: z 9 :: z 10 :: z 11 :: z 12 :: z 13 :: z 14 :: z 15 :: z 16 :: z 17 :: z 18 :: z 19 :: z 20 :: z 21 :: z 22 :: z 23 :: z 24 :: z 25 :: z 26 :: z 27 :: z 28 :: z 29 :: z 30 :: z 31 :: z 32 :: z 33 :: z 34 :: z 35 :: z 36 :: z 37 :: z 38 :: z 39 :: z 40 :: z 41 :: z 42 :: z 43 :: z 44 :: z 45 :: z 46 :: z 47 :: z 48 :: z 49 :: z 50 :: z 51 :: z 52 :: z 53 :: z 54 :: z 55 :: z 56 :: z 57 :: z 58 :: z 59 :: z 60 :: z 61 :: z 62 :: z 63 :: z 64 :: z 65 :: z 66 :: z 67 :: z 68 :: z 69 :: z 70 :: z 71 :: z 72 :: z 73 :: z 74 :: z 75 :: z 76 :: z 77 :: (.undef) :: z 79 :: z 80 :: z 81 :: z 82 :: z 83 :: z 84 :: z 85 :: z 86 :: z 87 :: z 88 :: z 89 :: z 90 :: z 91 :: z 92 :: z 93 :: z 94 :: z 95 :: z 96 :: z 97 :: z 98 :: z 99 :: z 100 :: z 101 :: z 102 :: z 103 :: [] : T) ∧ (True) := by
  obtain ⟨z, rfl, -⟩ := hts
  unfold c3L
  have hw0 : IntKind.wrap .i64 (((A.length + 1 : Nat) : Int) - ((1 : Nat) : Int)) = ((A.length : Nat) : Int) := by rw [wrap_i64 (by omega) (by omega)]; omega
  refine stp (And.intro @hp4 @hw0) ?_
  refine EC_loop (I := I3 H p4 p5 p6 b A a1 a2 a3 a4 a5 a6 tx) ?_ A.length ?_ (by omega)
  · rintro m ts D H1 ⟨rfl, hF, i, x, rfl, hi, hhi, hb1, ⟨z, rfl, -⟩⟩
    have hp41 := hF.old h4n hb4 hb4 hp4
    have hp51 := hF.old h5n hb5 hb5 hp5
    have d0 : decide ((m : Int) ≥ ((0 : Nat) : Int)) = true := by rw [decide_eq_true_eq]; omega
    have hall : AllL 4 ((insQ A m x).map pgC) := pg_all _
    have hlen : ((insQ A m x).map pgC).length = A.length + 1 := by rw [List.length_map, insQ_len hi]
    have hset : ((insQ A m x).map pgC).set m (pgC ⟨tQ, [91, 91, 58] ++ tx ++ [124, 120, 93, 93], 1⟩) = (insQ A m ⟨tQ, [91, 91, 58] ++ tx ++ [124, 120, 93, 93], 1⟩).map pgC := by rw [← List.map_set, insQ_set hi]
    obtain ⟨H2, hH2⟩ : ∃ H2, H1.put b (.row ((insQ A m ⟨tQ, [91, 91, 58] ++ tx ++ [124, 120, 93, 93], 1⟩).map pgC).flatten 40 false false 0) = H2 := ⟨_, rfl⟩
    have hst : storeS 4 (.ptr b (m * 4)) [.int .i64 ((0 : Nat) : Int), .str [81], .str (91 :: 91 :: 58 :: (tx ++ [124, 120, 93, 93])), .int .i64 ((1 : Nat) : Int)] H1 = some H2 := by
      have := store_at (i := m) (x := pgC ⟨tQ, [91, 91, 58] ++ tx ++ [124, 120, 93, 93], 1⟩) hall hb1 (by rw [hlen]; omega) rfl rfl
      rw [hset, hH2] at this
      exact this
    have hF2 : Fr2 b b H H2 := by rw [← hH2]; exact hF.put _
    have hb2 : H2.get b = some (.row ((insQ A m ⟨tQ, [91, 91, 58] ++ tx ++ [124, 120, 93, 93], 1⟩).map pgC).flatten 40 false false 0) := by rw [← hH2]; exact get_put_self _ _
    have hp42 := hF2.old h4n hb4 hb4 hp4
    have hp52 := hF2.old h5n hb5 hb5 hp5
    refine stp @d0 ?_
    refine cstT trivial ?_
    refine stp (And.intro @hp41 (And.intro @hp51 @hst)) ?_
    by_cases hm0 : m = 0
    · subst hm0
      have e0 : decide (((0 : Nat) : Int) = ((0 : Nat) : Int)) = true := by decide
      refine EC_draw rfl ?_
      refine stpw @e0 ?_
      refine ⟨?_, fun h => (by cases h), _, (by simp only [List.getLast?_cons_cons, List.getLast?_singleton]; first | done | with_reducible rfl), ?_⟩
      · exact rdp @e0
      · refine stp trivial ?_
        refine cstT trivial ?_
        refine stp trivial ?_
        exact ⟨rfl, rfl, hF2, 0, Nat.zero_le _, hhi, (fun j hj => by omega), hb2, (frame_in (by rfl) (trivial))⟩
    · obtain ⟨k, rfl⟩ : ∃ k, m = k + 1 := ⟨m - 1, by omega⟩
      have hk : k < A.length := by omega
      have e0 : decide (((k + 1 : Nat) : Int) = ((0 : Nat) : Int)) = false := by rw [decide_eq_false_iff_not]; omega
      have hw1 : IntKind.wrap .i64 (((k + 1 : Nat) : Int) - ((1 : Nat) : Int)) = ((k : Nat) : Int) := by rw [wrap_i64 (by omega) (by omega)]; omega
      have hAk : A[k]? = some A[k] := List.getElem?_eq_getElem hk
      have hmk := hA _ (List.getElem_mem hk)
      have hbelow := insQ_below (q := ⟨tQ, [91, 91, 58] ++ tx ++ [124, 120, 93, 93], 1⟩) hk
      have hup := insQ_up hk
      generalize A[k] = a at hAk hmk hbelow hup
      obtain ⟨⟨u1, u2⟩, s, r⟩ := a
      have hmk : (u1, u2) ∈ pagL := hmk
      have hall2 : AllL 4 ((insQ A (k + 1) ⟨tQ, [91, 91, 58] ++ tx ++ [124, 120, 93, 93], 1⟩).map pgC) := pg_all _
      have hrow : rowL (H2.get b) (k * 4) 4 = some [.int .i64 (u1 : Int), .str u2, .str s, .int .i64 (r : Int)] := by
        rw [hb2]
        exact rowL_at hall2 (by rw [List.getElem?_map, hbelow]; rfl)
      have hrow2 : rowL (H2.get b) (k * 4) 2 = some [.int .i64 (u1 : Int), .str u2] := rowL_sub (i := 0) (m := 2) hrow (by omega)
      have hc7 : call 7 [.agg [.int .i64 (u1 : Int), .str u2], .agg [.int .i64 ((0 : Nat) : Int), .str [81]]] H2 = some (.bool (decide (cmpT (u1, u2) tQ = -1)), H2) := h7 (u1, u2) hmk H2
      have ub : beqS (.agg [.int .i64 (u1 : Int), .str u2]) (.agg [.int .i64 (u1 : Int), .str u2]) = true := bq_tt (u1, u2)
      have qb : beqS (.agg [.int .i64 ((0 : Nat) : Int), .str [81]]) (.agg [.int .i64 ((0 : Nat) : Int), .str [81]]) = true := bq_tt (0, [81])
      have vb : beqS (.slice b 0 (A.length + 1) none 4) (.slice b 0 (A.length + 1) none 4) = true := bq_slice _ _ _ _ _
      refine EC_draw rfl ?_
      refine stp (And.intro @e0 (And.intro @hp42 (And.intro @hw1 (And.intro @hrow2 @hp52)))) ?_
      refine ED_call (by exact sfc trivial) hc7 (by (simp only [List.set_cons_zero, List.set_cons_succ]; with_reducible rfl)) ?_
      refine stp trivial ?_
      refine ⟨?_, fun h => (by cases h), _, (by simp only [List.getLast?_cons_cons, List.getLast?_singleton]; first | done | with_reducible rfl), ?_⟩
      · exact rdp (And.intro @e0 (And.intro @hp42 (And.intro @hw1 (And.intro @hrow2 (And.intro @hp52 (And.intro @ub (And.intro @qb @vb)))))))
      · refine stp trivial ?_
        by_cases hlt : cmpT (u1, u2) tQ = -1
        · have dl := decide_eq_true hlt
          refine cstT @dl ?_
          refine stp trivial ?_
          have hlo : ∀ j, j + 1 = k + 1 → ∀ y, A[j]? = some y → cmpT y.t tQ = -1 := by
            intro j hj y hy
            obtain rfl : j = k := by omega
            rw [hAk] at hy
            cases hy
            exact hlt
          exact ⟨rfl, rfl, hF2, k + 1, hi, hhi, hlo, hb2, (frame_in (by rfl) (trivial))⟩
        · have dl := decide_eq_false hlt
          have hset3 : ((insQ A (k + 1) ⟨tQ, [91, 91, 58] ++ tx ++ [124, 120, 93, 93], 1⟩).map pgC).set (k + 1) (pgC ⟨(u1, u2), s, r⟩) = (insQ A k ⟨(u1, u2), s, r⟩).map pgC := by rw [← List.map_set, insQ_set hi, hup]
          obtain ⟨H3, hH3⟩ : ∃ H3, H2.put b (.row ((insQ A k ⟨(u1, u2), s, r⟩).map pgC).flatten 40 false false 0) = H3 := ⟨_, rfl⟩
          have hst3 : storeS 4 (.ptr b ((k + 1) * 4)) [.int .i64 (u1 : Int), .str u2, .str s, .int .i64 (r : Int)] H2 = some H3 := by
            have := store_at (i := k + 1) (x := pgC ⟨(u1, u2), s, r⟩) hall2 hb2 (by rw [List.length_map, insQ_len hi]; omega) rfl rfl
            rw [hset3, hH3] at this
            exact this
          have hF3 : Fr2 b b H H3 := by rw [← hH3]; exact hF2.put _
          have hb3 : H3.get b = some (.row ((insQ A k ⟨(u1, u2), s, r⟩).map pgC).flatten 40 false false 0) := by rw [← hH3]; exact get_put_self _ _
          have ab : beqS (.agg [.int .i64 (u1 : Int), .str u2, .str s, .int .i64 (r : Int)]) (.agg [.int .i64 (u1 : Int), .str u2, .str s, .int .i64 (r : Int)]) = true := bl_pg ⟨(u1, u2), s, r⟩
          refine cstE @dl ?_
          refine EC_skip (seqR_normal (EC_draw rfl ?_))
          refine stp (And.intro @hp42 (And.intro @hw1 (And.intro @hrow @hst3))) ?_
          refine ⟨?_, fun h => (by cases h), _, (by simp only [List.getLast?_cons_cons, List.getLast?_singleton]; first | done | with_reducible rfl), ?_⟩
          · exact rdp (And.intro @hp42 (And.intro @hw1 (And.intro @hrow (And.intro @ab @vb))))
          · refine stp @hw1 ?_
            refine loopR_normal k (by omega) ⟨rfl, hF3, k, ⟨(u1, u2), s, r⟩, rfl, by omega, fun j y hj hy => ?_, hb3, (frame_in (by rfl) (trivial))⟩
            by_cases hjk : j = k
            · subst hjk
              rw [hAk] at hy
              cases hy
              exact hlt
            · exact hhi j y (by omega) hy
  · exact ⟨rfl, Fr2.refl .., A.length, x0, rfl, Nat.le_refl _, (fun j y hj hy => by rw [List.getElem?_eq_none (by omega)] at hy; cases hy), hb, (frame_in (by rfl) (trivial))⟩
end
end Go.Sh
end
