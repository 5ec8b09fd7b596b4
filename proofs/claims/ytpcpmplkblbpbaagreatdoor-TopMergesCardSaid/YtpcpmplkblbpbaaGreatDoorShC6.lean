/-
  Symbolic reckoning: section.Sections, the levels. (frame style z)
  Symbolic reckoning: section.Sections. (frame style z)
-/
import Derived.Test.YtpcpmplkblbpbaaGreatDoorShC5
set_option linter.all false
section
namespace Go.Sh
set_option maxRecDepth 10000
set_option linter.all false
def toF (R : List Sec) (i : Nat) (x : Sec) : Sec := { x with to := match (R.drop (i + 1)).find? (fun y => decide (y.level ≤ x.level)) with | some y => y.frm | none => x.to }
def stage (R : List Sec) (i : Nat) : List Sec := (secsF R).take i ++ R.drop i
theorem stage_len (R : List Sec) (i : Nat) : (stage R i).length = R.length := by
  simp [stage, secsF_length]
  omega
theorem stage_at {R : List Sec} {i j : Nat} (h : i ≤ j) (hj : j < R.length) : (stage R i)[j]? = R[j]? := by
  rw [stage, List.getElem?_append_right (by simp [secsF_length]; omega)]
  simp [secsF_length, List.getElem?_drop]
  congr 1
  omega
theorem stage_succ {R : List Sec} {i : Nat} {x : Sec} (h : R[i]? = some x) : stage R (i + 1) = (stage R i).set i (toF R i x) := by
  have hi : i < R.length := (List.getElem?_eq_some_iff.1 h).1
  have h1 := secsF_get R i x h
  have hi2 : i < (secsF R).length := by rw [secsF_length]; exact hi
  have h2 : (secsF R)[i] = toF R i x := by
    rw [List.getElem?_eq_getElem hi2] at h1
    exact Option.some.inj h1
  have hl : ((secsF R).take i).length = i := by rw [List.length_take]; omega
  rw [stage, stage, List.take_succ_eq_append_getElem hi2, h2, List.drop_eq_getElem_cons hi, List.set_append_right _ _ (by omega), hl, Nat.sub_self, List.set_cons_zero, List.append_assoc]
  rfl
theorem toF_none {R : List Sec} {i : Nat} {x : Sec} (h : (R.drop (i + 1)).find? (fun y => decide (y.level ≤ x.level)) = none) : toF R i x = x := by rw [toF, h]
theorem toF_some {R : List Sec} {i : Nat} {x y : Sec} (h : (R.drop (i + 1)).find? (fun y => decide (y.level ≤ x.level)) = some y) : toF R i x = { x with to := y.frm } := by rw [toF, h]
theorem stage_zero (R : List Sec) : stage R 0 = R := by simp [stage]
theorem stage_all (R : List Sec) : stage R R.length = secsF R := by
  rw [stage, List.drop_length, List.append_nil, List.take_of_length_le (by rw [secsF_length]; exact Nat.le_refl _)]
theorem stage_row (R : List Sec) (i : Nat) : ((stage R i).map secC).flatten.length = R.length * 5 := by
  rw [flatten_len (secC_all _), List.length_map, stage_len]
theorem sec_cell {L : List Sec} {i : Nat} {x : Sec} (hi : L[i]? = some x) (j : Nat) {c : SV} (hj : (secC x)[j]? = some c) (hj5 : j < 5) : (L.map secC).flatten[i * 5 + j]? = some c :=
  flat_cell (secC_all L) (by rw [List.getElem?_map, hi]; rfl) hj hj5
theorem sec_set {L : List Sec} {i : Nat} {x : Sec} (hi : L[i]? = some x) (v : Nat) : (L.map secC).flatten.take (i * 5 + 4) ++ ([.int .i64 (v : Int)] ++ (L.map secC).flatten.drop (i * 5 + 4 + 1)) = ((L.set i { x with to := v }).map secC).flatten := by
  rw [flat_set (secC_all L) (x := secC x) (by rw [List.getElem?_map, hi]; rfl) (by omega), List.map_set]
  rfl
@[reducible] def I7 (R : List Sec) (b : Nat) (H1 : Heap) (m : Nat) (ts : T) (D : DS) (H' : Heap) : Prop :=
  D = [] ∧ Ext H1 H' ∧ b < H'.next ∧ ∃ i : Nat, m = R.length - i ∧ i ≤ R.length ∧ H'.get b = some (.row ((stage R i).map secC).flatten 110 false false 0) ∧
    ∃ z : Nat → SV, ts = (z 0 :: z 1 :: z 2 :: z 3 :: z 4 :: z 5 :: (.slice b 0 R.length none 5) :: z 7 :: z 8 :: z 9 :: z 10 :: z 11 :: z 12 :: z 13 :: z 14 :: z 15 :: z 16 :: z 17 :: z 18 :: z 19 :: z 20 :: z 21 :: z 22 :: z 23 :: z 24 :: z 25 :: z 26 :: z 27 :: z 28 :: z 29 :: z 30 :: z 31 :: z 32 :: z 33 :: z 34 :: z 35 :: z 36 :: z 37 :: z 38 :: z 39 :: z 40 :: z 41 :: z 42 :: z 43 :: z 44 :: z 45 :: z 46 :: z 47 :: z 48 :: z 49 :: z 50 :: z 51 :: z 52 :: z 53 :: z 54 :: z 55 :: z 56 :: z 57 :: z 58 :: z 59 :: z 60 :: z 61 :: z 62 :: z 63 :: z 64 :: z 65 :: z 66 :: z 67 :: z 68 :: z 69 :: z 70 :: z 71 :: z 72 :: z 73 :: z 74 :: z 75 :: z 76 :: z 77 :: z 78 :: z 79 :: z 80 :: z 81 :: z 82 :: z 83 :: z 84 :: (.int .i64 (R.length : Int)) :: (.int .i64 (i : Int)) :: z 87 :: z 88 :: z 89 :: z 90 :: z 91 :: z 92 :: z 93 :: z 94 :: z 95 :: z 96 :: z 97 :: z 98 :: z 99 :: z 100 :: z 101 :: z 102 :: z 103 :: z 104 :: z 105 :: z 106 :: z 107 :: z 108 :: z 109 :: z 110 :: z 111 :: z 112 :: z 113 :: z 114 :: z 115 :: z 116 :: z 117 :: z 118 :: [] : T) ∧ (True)
@[reducible] def J7 (R : List Sec) (b i : Nat) (x : Sec) (H3 : Heap) (m : Nat) (ts : T) (D : DS) (H' : Heap) : Prop :=
  D = [] ∧ H' = H3 ∧ ∃ j : Nat, m = R.length - j ∧ i + 1 ≤ j ∧ j ≤ R.length ∧ (R.drop (i + 1)).find? (fun y => decide (y.level ≤ x.level)) = (R.drop j).find? (fun y => decide (y.level ≤ x.level)) ∧
    ∃ z : Nat → SV, ts = (z 0 :: z 1 :: z 2 :: z 3 :: z 4 :: z 5 :: (.slice b 0 R.length none 5) :: z 7 :: z 8 :: z 9 :: z 10 :: z 11 :: z 12 :: z 13 :: z 14 :: z 15 :: (.int .i64 (i : Int)) :: (.int .i64 (j : Int)) :: z 18 :: z 19 :: z 20 :: z 21 :: z 22 :: z 23 :: z 24 :: z 25 :: z 26 :: z 27 :: z 28 :: z 29 :: z 30 :: z 31 :: z 32 :: z 33 :: z 34 :: z 35 :: z 36 :: z 37 :: z 38 :: z 39 :: z 40 :: z 41 :: z 42 :: z 43 :: z 44 :: z 45 :: z 46 :: z 47 :: z 48 :: z 49 :: z 50 :: z 51 :: z 52 :: z 53 :: z 54 :: z 55 :: z 56 :: z 57 :: z 58 :: z 59 :: z 60 :: z 61 :: z 62 :: z 63 :: z 64 :: z 65 :: z 66 :: z 67 :: z 68 :: z 69 :: z 70 :: z 71 :: z 72 :: z 73 :: z 74 :: z 75 :: z 76 :: z 77 :: z 78 :: z 79 :: z 80 :: z 81 :: z 82 :: z 83 :: z 84 :: (.int .i64 (R.length : Int)) :: (.int .i64 (i : Int)) :: z 87 :: z 88 :: z 89 :: z 90 :: z 91 :: z 92 :: z 93 :: z 94 :: z 95 :: z 96 :: z 97 :: z 98 :: z 99 :: z 100 :: z 101 :: z 102 :: z 103 :: z 104 :: z 105 :: z 106 :: z 107 :: z 108 :: z 109 :: z 110 :: z 111 :: z 112 :: z 113 :: z 114 :: z 115 :: z 116 :: z 117 :: z 118 :: [] : T) ∧ (True)
section
variable {lf n : Nat} {H : Heap}
def c6b : SCode := (.seq (.reg [ox 87 (.bin .lss (.t 86) (.t 85))]) (.seq (.cond (.t 87) .skip (.exit 4)) (.seq (.block 5 (.seq (.reg [oy 88 86, oy 16 88]) (.seq (.reg [oy 89 16, ox 90 (.bin .add (.t 89) (.c (.int .i64 (.ofNat 1)))), oy 17 90]) (.block 6 (.loop (.seq (.seq (.reg [oy 91 17, oy 92 6, ox 93 (.lenl (.t 92)), ox 94 (.bin .lss (.t 91) (.t 93))]) (.cond (.t 94) .skip (.exit 6))) (.seq (.block 7 (.seq (.dreg [(oy 97 6, .pure), (oy 98 17, .pure), (ox 99 (.iad 5 (.t 97) (.t 98)), .pure), (ox 100 (.fad 0 (.t 99)), .pure), (ox 101 (.load false 1 (.t 100)), (.read 0 0)), (oy 102 6, .pure), (oy 103 16, .pure), (ox 104 (.iad 5 (.t 102) (.t 103)), .pure), (ox 105 (.fad 0 (.t 104)), .pure), (ox 106 (.load false 1 (.t 105)), (.read 0 0)), (ox 107 (.bin .leq (.t 101) (.t 106)), .pure)] false) (.cond (.t 107) (.seq (.reg [oy 108 6, oy 109 16, oy 110 6, oy 111 17, ox 112 (.iad 5 (.t 110) (.t 111)), ox 113 (.fad 2 (.t 112)), ox 114 (.load false 1 (.t 113)), ox 115 (.iad 5 (.t 108) (.t 109)), ox 116 (.fad 4 (.t 115)), ⟨none, (.op (.store 1 (.t 116) (.t 114))), none⟩]) (.exit 6)) .skip))) (.reg [oy 95 17, ox 96 (.bin .add (.t 95) (.c (.int .i64 (.ofNat 1)))), oy 17 96])))))))) (.reg [ox 117 (.bin .add (.t 86) (.c (.int .i64 (.ofNat 1)))), oy 86 117]))))
theorem levels_ok {R : List Sec} {b : Nat} {H1 : Heap} (hb1 : H1.next ≤ b) (hR : R.length ≤ 8192) (hlf : R.length < lf) {Q : SExit → T → DS → Heap → Prop}
    (hend : ∀ (H' : Heap) (ts : T), Ext H1 H' → b < H'.next → H'.get b = some (.row ((secsF R).map secC).flatten 110 false false 0) → (∃ z : Nat → SV, ts = (z 0 :: z 1 :: z 2 :: z 3 :: z 4 :: z 5 :: (.slice b 0 R.length none 5) :: z 7 :: z 8 :: z 9 :: z 10 :: z 11 :: z 12 :: z 13 :: z 14 :: z 15 :: z 16 :: z 17 :: z 18 :: z 19 :: z 20 :: z 21 :: z 22 :: z 23 :: z 24 :: z 25 :: z 26 :: z 27 :: z 28 :: z 29 :: z 30 :: z 31 :: z 32 :: z 33 :: z 34 :: z 35 :: z 36 :: z 37 :: z 38 :: z 39 :: z 40 :: z 41 :: z 42 :: z 43 :: z 44 :: z 45 :: z 46 :: z 47 :: z 48 :: z 49 :: z 50 :: z 51 :: z 52 :: z 53 :: z 54 :: z 55 :: z 56 :: z 57 :: z 58 :: z 59 :: z 60 :: z 61 :: z 62 :: z 63 :: z 64 :: z 65 :: z 66 :: z 67 :: z 68 :: z 69 :: z 70 :: z 71 :: z 72 :: z 73 :: z 74 :: z 75 :: z 76 :: z 77 :: z 78 :: z 79 :: z 80 :: z 81 :: z 82 :: z 83 :: z 84 :: z 85 :: z 86 :: z 87 :: z 88 :: z 89 :: z 90 :: z 91 :: z 92 :: z 93 :: z 94 :: z 95 :: z 96 :: z 97 :: z 98 :: z 99 :: z 100 :: z 101 :: z 102 :: z 103 :: z 104 :: z 105 :: z 106 :: z 107 :: z 108 :: z 109 :: z 110 :: z 111 :: z 112 :: z 113 :: z 114 :: z 115 :: z 116 :: z 117 :: z 118 :: [] : T) ∧ (True)) → Q (.exit 4) ts [] H') :
    ∀ m ts D H', I7 R b H1 m ts D H' → EC (callS tabT lf n) lf c6b ts D H' (loopR (I7 R b H1) m Q) := by
  rintro m ts D H' ⟨rfl, hE, hb, i, rfl, hi, hrow, ⟨z, rfl, -⟩⟩
  unfold c6b
  refine stp trivial ?_
  refine cst trivial (fun hc => ?_) (fun hc => ?_) <;> try simp only [decide_eq_true_eq, decide_eq_false_iff_not, not_true_eq_false, not_false_eq_true, Int.not_lt, Int.not_le, ge_iff_le, gt_iff_lt] at hc
  · have hlt : i < R.length := by omega
    obtain ⟨x, hx⟩ : ∃ x, R[i]? = some x := ⟨_, List.getElem?_eq_getElem hlt⟩
    refine stp trivial ?_
    refine EC_loop (I := J7 R b i x H') ?_ (R.length - (i + 1)) ?_ (by omega)
    · rintro m ts D H3 ⟨rfl, rfl, j, rfl, hij, hj, hfind, ⟨z, rfl, -⟩⟩
      refine stp trivial ?_
      refine cst trivial (fun hc => ?_) (fun hc => ?_) <;> try simp only [decide_eq_true_eq, decide_eq_false_iff_not, not_true_eq_false, not_false_eq_true, Int.not_lt, Int.not_le, ge_iff_le, gt_iff_lt] at hc
      · have hjlt : j < R.length := by omega
        obtain ⟨y, hy⟩ : ∃ y, R[j]? = some y := ⟨_, List.getElem?_eq_getElem hjlt⟩
        have hsi := (stage_at (Nat.le_refl i) hlt).trans hx
        have hsj := (stage_at (show i ≤ j by omega) hjlt).trans hy
        have hset := sec_set hsi y.frm
        have hlen := stage_row R i
        have c1 := sec_cell hsj 0 (c := .int .i64 (y.level : Int)) rfl (by omega)
        have c2 := sec_cell hsi 0 (c := .int .i64 (x.level : Int)) rfl (by omega)
        have c3 := sec_cell hsj 2 (c := .int .i64 (y.frm : Int)) rfl (by omega)
        obtain ⟨cs, hcs⟩ : ∃ cs, ((stage R i).map secC).flatten = cs := ⟨_, rfl⟩
        rw [hcs] at hrow hset hlen c1 c2 c3
        have r1 := rowL_one (e := 110) (ex := false) (ro := false) (frz := 0) c1
        have r2 := rowL_one (e := 110) (ex := false) (ro := false) (frz := 0) c2
        have r3 := rowL_one (e := 110) (ex := false) (ro := false) (frz := 0) c3
        rw [Nat.add_zero] at r1 r2
        refine stp (And.intro @hrow (And.intro @r1 @r2)) ?_
        refine cst trivial (fun hc => ?_) (fun hc => ?_) <;> try simp only [decide_eq_true_eq, decide_eq_false_iff_not, not_true_eq_false, not_false_eq_true, Int.not_lt, Int.not_le, ge_iff_le, gt_iff_lt] at hc
        · have hle : y.level ≤ x.level := by omega
          have hf2 : (R.drop (i + 1)).find? (fun y => decide (y.level ≤ x.level)) = some y := by
            rw [hfind, List.drop_eq_getElem_cons hjlt, show R[j] = y from by rw [List.getElem?_eq_getElem hjlt] at hy; exact Option.some.inj hy, List.find?_cons_of_pos (by simpa using hle)]
          refine stp (And.intro @hrow @r3) ?_
          refine loopR_normal (R.length - (i + 1)) (by omega) ⟨rfl, hE.put hb1 _, hb, i + 1, rfl, by omega, (by rw [get_put_self, stage_succ hx, toF_some hf2, ← hset]; rfl), ?_⟩
          exact (frame_in (by rfl) (trivial))
        · have hgt : ¬ (y.level ≤ x.level) := by omega
          refine stp trivial ?_
          refine loopR_normal (R.length - (j + 1)) (by omega) ⟨rfl, rfl, j + 1, rfl, by omega, by omega, ?_, ?_⟩
          · rw [hfind, List.drop_eq_getElem_cons hjlt, show R[j] = y from by rw [List.getElem?_eq_getElem hjlt] at hy; exact Option.some.inj hy, List.find?_cons_of_neg (by simpa using hgt)]
          · exact (frame_in (by rfl) (trivial))
      · have hje : j = R.length := by omega
        subst hje
        rw [List.drop_length] at hfind
        have hs : stage R (i + 1) = stage R i := by
          rw [stage_succ hx, toF_none hfind]
          refine List.ext_getElem? fun k => ?_
          rw [List.getElem?_set]
          split
          · rename_i e
            subst e
            rw [if_pos (by rw [stage_len]; exact hlt), stage_at (Nat.le_refl i) hlt, hx]
          · rfl
        refine stp trivial ?_
        refine loopR_normal (R.length - (i + 1)) (by omega) ⟨rfl, hE, hb, i + 1, rfl, by omega, by rw [hs]; exact hrow, ?_⟩
        exact (frame_in (by rfl) (trivial))
    · refine ⟨rfl, rfl, i + 1, rfl, by omega, by omega, rfl, ?_⟩
      exact (frame_in (by rfl) (trivial))
  · have hie : i = R.length := by omega
    subst hie
    refine stp trivial ?_
    refine hend H' _ hE hb (by rw [← stage_all]; exact hrow) ?_
    exact (frame_in (by rfl) (trivial))
theorem levels_nil (hlf : 0 < lf) {H1 : Heap} {ts : T} {Q : SExit → T → DS → Heap → Prop} (hts : ∃ z : Nat → SV, ts = (z 0 :: z 1 :: z 2 :: z 3 :: z 4 :: z 5 :: (.nils) :: z 7 :: z 8 :: z 9 :: z 10 :: z 11 :: z 12 :: z 13 :: z 14 :: z 15 :: z 16 :: z 17 :: z 18 :: z 19 :: z 20 :: z 21 :: z 22 :: z 23 :: z 24 :: z 25 :: z 26 :: z 27 :: z 28 :: z 29 :: z 30 :: z 31 :: z 32 :: z 33 :: z 34 :: z 35 :: z 36 :: z 37 :: z 38 :: z 39 :: z 40 :: z 41 :: z 42 :: z 43 :: z 44 :: z 45 :: z 46 :: z 47 :: z 48 :: z 49 :: z 50 :: z 51 :: z 52 :: z 53 :: z 54 :: z 55 :: z 56 :: z 57 :: z 58 :: z 59 :: z 60 :: z 61 :: z 62 :: z 63 :: z 64 :: z 65 :: z 66 :: z 67 :: z 68 :: z 69 :: z 70 :: z 71 :: z 72 :: z 73 :: z 74 :: z 75 :: z 76 :: z 77 :: z 78 :: z 79 :: z 80 :: z 81 :: z 82 :: z 83 :: z 84 :: (.int .i64 0) :: (.int .i64 0) :: z 87 :: z 88 :: z 89 :: z 90 :: z 91 :: z 92 :: z 93 :: z 94 :: z 95 :: z 96 :: z 97 :: z 98 :: z 99 :: z 100 :: z 101 :: z 102 :: z 103 :: z 104 :: z 105 :: z 106 :: z 107 :: z 108 :: z 109 :: z 110 :: z 111 :: z 112 :: z 113 :: z 114 :: z 115 :: z 116 :: z 117 :: z 118 :: [] : T) ∧ (True))
    (hend : ∀ ts : T, (∃ z : Nat → SV, ts = (z 0 :: z 1 :: z 2 :: z 3 :: z 4 :: z 5 :: (.nils) :: z 7 :: z 8 :: z 9 :: z 10 :: z 11 :: z 12 :: z 13 :: z 14 :: z 15 :: z 16 :: z 17 :: z 18 :: z 19 :: z 20 :: z 21 :: z 22 :: z 23 :: z 24 :: z 25 :: z 26 :: z 27 :: z 28 :: z 29 :: z 30 :: z 31 :: z 32 :: z 33 :: z 34 :: z 35 :: z 36 :: z 37 :: z 38 :: z 39 :: z 40 :: z 41 :: z 42 :: z 43 :: z 44 :: z 45 :: z 46 :: z 47 :: z 48 :: z 49 :: z 50 :: z 51 :: z 52 :: z 53 :: z 54 :: z 55 :: z 56 :: z 57 :: z 58 :: z 59 :: z 60 :: z 61 :: z 62 :: z 63 :: z 64 :: z 65 :: z 66 :: z 67 :: z 68 :: z 69 :: z 70 :: z 71 :: z 72 :: z 73 :: z 74 :: z 75 :: z 76 :: z 77 :: z 78 :: z 79 :: z 80 :: z 81 :: z 82 :: z 83 :: z 84 :: z 85 :: z 86 :: z 87 :: z 88 :: z 89 :: z 90 :: z 91 :: z 92 :: z 93 :: z 94 :: z 95 :: z 96 :: z 97 :: z 98 :: z 99 :: z 100 :: z 101 :: z 102 :: z 103 :: z 104 :: z 105 :: z 106 :: z 107 :: z 108 :: z 109 :: z 110 :: z 111 :: z 112 :: z 113 :: z 114 :: z 115 :: z 116 :: z 117 :: z 118 :: [] : T) ∧ (True)) → Q (.exit 4) ts [] H1) :
    EC (callS tabT lf n) lf (.loop c6b) ts [] H1 Q := by
  refine EC_loop1 hlf ?_
  obtain ⟨z, rfl, -⟩ := hts
  unfold c6b
  have d : decide ((0 : Int) < 0) = false := by decide
  refine stp trivial ?_
  refine cstE @d ?_
  refine stp trivial ?_
  refine hend _ ?_
  exact (frame_in (by rfl) (trivial))
end
end Go.Sh
end
section
namespace Go.Sh
set_option maxRecDepth 10000
set_option linter.all false
theorem sections_ok {lf n : Nat} {H : Heap} {s : List Nat} {ls : List (List Nat)} {last : List Nat} (hp : Plain s) (hs : Bts s) (hL : LinesOK s ls last) (hlen : s.length ≤ 8192) (hn : 8 ≤ n) (hlf : s.length + 2 < lf) :
    ∃ (w : SV) (H' : Heap), callS tabT lf n 32 [.str s] H = some (.tup [w, .int .i64 0], H') ∧ Ext H H' ∧ Sl H.next 110 5 H' w ((secsF (headsL s.length 0 ls last)).map secC) := by
  obtain ⟨n, rfl⟩ : ∃ m, n = m + 1 := ⟨n - 1, by omega⟩
  obtain ⟨R, hR⟩ : ∃ R, headsL s.length 0 ls last = R := ⟨_, rfl⟩
  rw [hR]
  have key : ∃ v H', callS tabT lf (n + 1) 32 [.str s] H = some (v, H') ∧ ∃ w, v = .tup [w, .int .i64 0] ∧ Ext H H' ∧ Sl H.next 110 5 H' w ((secsF R).map secC) := by
    refine call_code tab32 (by simp only [c32, go_sem, List.reduceReplicate, Nat.reduceAdd, Nat.reduceSub]; exact rfl) ?_
    simp only [c32]
    refine stp trivial ?_
    obtain ⟨tv, H1, hpl, hE, hT⟩ := plain_ok (lf := lf) (n := n) (H := H) hp hs hlen (by omega) (by omega)
    refine kst trivial hpl ?_
    have d0 : decide ((0 : Int) ≠ ((0 : Nat) : Int)) = false := by decide
    refine stp trivial ?_
    refine cstE @d0 ?_
    refine stp trivial ?_
    refine EC_loop (I := I6 s tv H1 R) (heads_ok hs hlen (by omega) (by omega) hT ?_) s.length ?_ (by omega)
    · rintro w H' ts hE2 hsl hRl ⟨z, rfl, -⟩
      rcases hsl with ⟨he, rfl⟩ | ⟨hne, b, hb1, hb2, rfl, hb4⟩
      · have hR0 : R = [] := List.map_eq_nil_iff.1 he
        subst hR0
        refine stp trivial ?_
        refine levels_nil (by omega) ?_ ?_
        · exact (frame_in (by rfl) (trivial))
        · rintro ts ⟨z, rfl, -⟩
          refine stp trivial ?_
          refine ret2 trivial ?_
          exact (⟨_, rfl, hE.trans hE2, .inl ⟨rfl, rfl⟩⟩)
      · rw [List.length_map]
        refine stp trivial ?_
        refine EC_loop (I := I7 R b H1) (levels_ok hb1 (by omega) (by omega) ?_) R.length ?_ (by omega)
        · rintro H3 ts hE3 hb3 hrow ⟨z, rfl, -⟩
          refine stp trivial ?_
          have e1 : (secsF R).map secC ≠ [] := by
            intro e
            apply hne
            rw [List.map_eq_nil_iff] at e ⊢
            have := secsF_length R
            rw [e] at this
            exact List.eq_nil_of_length_eq_zero this.symm
          have e2 : SV.slice b 0 R.length none 5 = SV.slice b 0 ((secsF R).map secC).length none 5 := by rw [List.length_map, secsF_length]
          refine ret2 trivial ?_
          exact (⟨_, rfl, hE.trans hE3, .inr ⟨e1, b, Nat.le_trans hE.1 hb1, hb3, e2, hrow⟩⟩)
        · refine ⟨rfl, hE2, hb2, 0, by omega, by omega, by rw [stage_zero]; exact hb4, ?_⟩
          exact (frame_in (by rfl) (trivial))
    · refine ⟨rfl, Ext.refl _, 0, ls, last, .nils, [], by omega, by omega, hL, by simpa using hR, Nat.zero_le _, .inl ⟨rfl, rfl⟩, ?_⟩
      exact (frame_in (by rfl) (trivial))
  obtain ⟨v, H', h, w, rfl, hE, hsl⟩ := key
  exact ⟨w, H', h, hE, hsl⟩
end Go.Sh
end
