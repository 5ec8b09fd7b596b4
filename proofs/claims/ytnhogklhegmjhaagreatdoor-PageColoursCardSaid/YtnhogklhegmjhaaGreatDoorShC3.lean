/-
  Pieces, lines and texts that are drawn: some texts, of so many bytes at most. (frame style z)
  Texts of pages that are drawn. (frame style z)
-/
import Derived.Test.YtnhogklhegmjhaaGreatDoorShC2
import Derived.KernelRfl
set_option linter.all false
section
namespace Go.Sh
set_option maxRecDepth 10000
set_option linter.all false
theorem tab88 : tabT 88 = some (.code c88) := by kernel_rfl
theorem tab46 : tabT 46 = some (.code c46) := by kernel_rfl
theorem tab20 : tabT 20 = some (.code c20) := by kernel_rfl
section
variable {lf n : Nat} {H : Heap}
theorem word_len : ∀ s ∈ wordL, s.length ≤ 3 := by decide
theorem piece0_ok {M kb : Nat} (hT : TapeOK M H kb) (hn : 4 ≤ n) : ∃ s H', callS tabT lf n 88 [.ptr kb 0, .int .i64 ((0 : Nat) : Int)] H = some (.str s, H') ∧ s.length ≤ 3 ∧ GS M kb H H' := by
  obtain ⟨n, rfl⟩ : ∃ m, n = m + 1 := ⟨n - 1, by omega⟩
  have key : ∃ v H', callS tabT lf (n + 1) 88 [.ptr kb 0, .int .i64 ((0 : Nat) : Int)] H = some (v, H') ∧ ∃ s, v = .str s ∧ s.length ≤ 3 ∧ GS M kb H H' := by
    obtain ⟨s, H1, hc, hs, hg⟩ := word_ok (lf := lf) (n := n) hT (by omega)
    have d0 : decide (((0 : Nat) : Int) ≤ ((0 : Nat) : Int)) = true := by decide
    refine call_code tab88 (by simp only [c88, go_sem, List.reduceReplicate, Nat.reduceAdd, Nat.reduceSub]; exact rfl) ?_
    simp only [c88]
    refine stp @d0 ?_
    refine cstT @d0 ?_
    refine stp trivial ?_
    refine kst trivial hc ?_
    refine stp trivial ?_
    refine ret1 trivial ?_
    exact (⟨s, rfl, word_len s hs, hg⟩)
  obtain ⟨v, H', h, s, rfl, h1, h2⟩ := key
  exact ⟨s, H', h, h1, h2⟩
theorem callsA_ok {M kb : Nat} (hn : 4 ≤ n) : CallsA M kb (callS tabT lf n) := by
  intro f zs a ha vs H hT hlen hok
  unfold aCall at ha
  split at ha
  · split at ha <;> cases ha
    rename_i m len hb
    simp only [Bool.and_eq_true] at hb
    match vs, hlen with
    | [v0, v1], _ =>
      have h0 := hok 0 _ v0 rfl rfl
      have h1 := hok 1 _ v1 rfl rfl
      simp only [AT.ok] at h0 h1
      obtain ⟨b, L, h1, hL, hs, hM, hlt, e, ex, ro, frz, hg⟩ := h1
      subst h0 h1 hL
      obtain ⟨s, H', hc, hs', hst⟩ := of_ok (lf := lf) (n := n) hT (c := some L.length) hg (by have := hT.1; omega) (Nat.le_of_ble_eq_true hb.1) (Nat.le_of_ble_eq_true hb.2) (by omega)
      exact ⟨.str s, H', hc, by simp only [AT.ok]; exact ⟨s, rfl, hs s hs'⟩, hst.gs (GS.refl hT)⟩
  · cases ha
    match vs, hlen with
    | [v0], _ =>
      have h0 := hok 0 _ v0 rfl rfl
      simp only [AT.ok] at h0
      subst h0
      obtain ⟨s, H', hc, hs, hg⟩ := word_ok (lf := lf) (n := n) hT (by omega)
      exact ⟨.str s, H', hc, by simp only [AT.ok]; exact ⟨s, rfl, word_len s hs⟩, hg⟩
  · split at ha <;> cases ha
    rename_i m x hb
    simp only [Bool.and_eq_true] at hb
    have l1 := Nat.le_of_ble_eq_true hb.1
    have l2 := Nat.le_of_ble_eq_true hb.2
    match vs, hlen with
    | [v0, v1], _ =>
      have h0 := hok 0 _ v0 rfl rfl
      have h1 := hok 1 _ v1 rfl rfl
      simp only [AT.ok] at h0 h1
      subst h0 h1
      obtain ⟨r, H', hc, hr0, hr1, hst⟩ := next_ok (lf := lf) (n := n) hT (m := ((m : Nat) : Int)) (by omega) (by omega) (by omega)
      exact ⟨.int .i64 r, H', hc, by simp only [AT.ok]; exact ⟨r, rfl⟩, hst.gs (GS.refl hT)⟩
  · cases ha
    match vs, hlen with
    | [v0, v1], _ =>
      have h0 := hok 0 _ v0 rfl rfl
      have h1 := hok 1 _ v1 rfl rfl
      simp only [AT.ok] at h0 h1
      subst h0 h1
      obtain ⟨s, H', hc, hs, hg⟩ := piece0_ok (lf := lf) (n := n) hT (by omega)
      exact ⟨.str s, H', hc, by simp only [AT.ok]; exact ⟨s, rfl, hs⟩, hg⟩
  · cases ha
def startA (zs : List AT) (n : Nat) : AE := zs ++ List.replicate (n - zs.length) .top
def isNoneA (r : Option (Option AE)) : Bool := match r with
  | some none => true
  | _ => false
theorem piece_ok {M kb : Nat} (hT : TapeOK M H kb) (hn : 5 ≤ n) : ∃ s H', callS tabT lf n 88 [.ptr kb 0, .int .i64 ((1 : Nat) : Int)] H = some (.str s, H') ∧ s.length ≤ 60 ∧ GS M kb H H' := by
  obtain ⟨n, rfl⟩ : ∃ m, n = m + 1 := ⟨n - 1, by omega⟩
  have key : ∃ v H', callS tabT lf (n + 1) 88 [.ptr kb 0, .int .i64 ((1 : Nat) : Int)] H = some (v, H') ∧ ∃ s, v = .str s ∧ s.length ≤ 60 ∧ GS M kb H H' := by
    have hq : ∃ q, aCode 4 60 c88.body (startA [.tape, .num (some 1)] 238) = some q ∧ q = none := by
      have h : isNoneA (aCode 4 60 c88.body (startA [.tape, .num (some 1)] 238)) = true := by kernel_rfl
      unfold isNoneA at h
      split at h
      · rename_i e; exact ⟨_, e, rfl⟩
      · cases h
    obtain ⟨q, hq, rfl⟩ := hq
    have hF : Fits M kb H (startA [.tape, .num (some 1)] 238) ([.ptr kb 0, .int .i64 ((1 : Nat) : Int)] ++ List.replicate (238 - 2) SV.undef) := by
      refine ⟨by simp [startA], fun i a v h1 h2 => ?_⟩
      match i with
      | 0 => simp [startA] at h1 h2; subst h1 h2; simp only [AT.ok]
      | 1 => simp [startA] at h1 h2; subst h1 h2; simp only [AT.ok]; rfl
      | i + 2 =>
        have : a = .top := by
          simp only [startA, List.cons_append, List.nil_append, List.getElem?_cons_succ, List.getElem?_replicate] at h1
          split at h1
          · cases h1; rfl
          · cases h1
        subst this
        simp only [AT.ok]
    have hk := aCode_ok (lf := lf) (callsA_ok (lf := lf) (n := n) (M := M) (kb := kb) (by omega)) hT hF hq
    refine call_code tab88 (ts := [.ptr kb 0, .int .i64 ((1 : Nat) : Int)] ++ List.replicate (238 - 2) SV.undef) rfl ?_
    unfold EC at hk ⊢
    obtain ⟨x, ts', D', H', e1, rfl, e2, e3⟩ := hk
    refine ⟨x, ts', [], H', e1, ?_⟩
    cases x with
    | normal => obtain ⟨E, h, _⟩ := e3; cases h
    | exit id => exact e3.elim
    | ret =>
      obtain ⟨s, h1, h2⟩ := e3
      refine funR_ret (res_one _ _ (resOne_tmp 4)) ⟨s, h1, h2, e2⟩
  obtain ⟨v, H', h, s, rfl, h1, h2⟩ := key
  exact ⟨s, H', h, h1, h2⟩
@[reducible] def I46 (M kb : Nat) (H0 : Heap) (m : Nat) (ts : T) (D : DS) (H' : Heap) : Prop :=
  D = [] ∧ GS M kb H0 H' ∧ ∃ (k : Nat) (s : List Nat), m = 4 - k ∧ k ≤ 3 ∧ s.length ≤ 10 + 60 * k ∧ ∃ z : Nat → SV, ts = ((.ptr kb 0) :: (.int .i64 ((1 : Nat) : Int)) :: z 2 :: z 3 :: z 4 :: (.str s) :: (.int .i64 (k : Int)) :: z 7 :: z 8 :: z 9 :: z 10 :: z 11 :: z 12 :: z 13 :: z 14 :: z 15 :: z 16 :: z 17 :: z 18 :: z 19 :: z 20 :: z 21 :: [] : T) ∧ (True)
theorem line_ok {M kb : Nat} (hT : TapeOK M H kb) (hn : 6 ≤ n) (hlf : 5 < lf) : ∃ s H', callS tabT lf n 46 [.ptr kb 0, .int .i64 ((1 : Nat) : Int)] H = some (.str s, H') ∧ s.length ≤ 190 ∧ GS M kb H H' := by
  obtain ⟨n, rfl⟩ : ∃ m, n = m + 1 := ⟨n - 1, by omega⟩
  have key : ∃ v H', callS tabT lf (n + 1) 46 [.ptr kb 0, .int .i64 ((1 : Nat) : Int)] H = some (v, H') ∧ ∃ s, v = .str s ∧ s.length ≤ 190 ∧ GS M kb H H' := by
    obtain ⟨s, H1, hc, hs, hg, _⟩ := of_lit (lf := lf) (n := n) hT 14 (L := [[], [], [], [42, 32], [42, 42, 32], [35, 32], [42, 35, 32], [32], [123, 124], [124], [124, 45], [33], [124, 125], [45, 45, 45, 45]]) rfl rfl (by decide) (by decide) (by omega)
    have hsl : s.length ≤ 10 := (show ∀ s ∈ [[], [], [], [42, 32], [42, 42, 32], [35, 32], [42, 35, 32], [32], [123, 124], [124], [124, 45], [33], [124, 125], [45, 45, 45, 45]], s.length ≤ 10 by decide) s hs
    refine call_code tab46 (by simp only [c46, go_sem, List.reduceReplicate, Nat.reduceAdd, Nat.reduceSub]; exact rfl) ?_
    simp only [c46]
    refine stp trivial ?_
    refine kst trivial hc ?_
    refine stp trivial ?_
    refine EC_loop (I := I46 M kb H) ?_ 4 ?_ (by omega)
    · rintro m ts D H' ⟨rfl, hg, k, s, rfl, hk, hsl, ⟨z, rfl, -⟩⟩
      obtain ⟨r, H2, hc, hr0, hr1, hst⟩ := next_ok (lf := lf) (n := n) hg.2.2 (m := ((3 : Nat) : Int)) (by omega) (by omega) (by omega)
      refine stp trivial ?_
      refine kst trivial hc ?_
      refine stp trivial ?_
      refine cst trivial (fun hc => ?_) (fun hc => ?_) <;> try simp only [decide_eq_true_eq, decide_eq_false_iff_not, not_true_eq_false, not_false_eq_true, Int.not_lt, Int.not_le, ge_iff_le, gt_iff_lt] at hc
      · refine stp trivial ?_
        obtain ⟨p, H3, hc3, hp, hg3⟩ := piece_ok (lf := lf) (n := n) hst.2.2 (by omega)
        refine kst trivial hc3 ?_
        have hk3 : k < 3 := by omega
        have hw : IntKind.wrap .i64 ((k : Int) + ((1 : Nat) : Int)) = ((k + 1 : Nat) : Int) := by rw [wrap_i64 (by omega) (by omega)]; omega
        have hadd : binS .add (.str s) (.str p) = some (.str (s ++ p)) := bin_sadd (by omega)
        refine stp (And.intro @hadd @hw) ?_
        refine loopR_normal (4 - (k + 1)) (by omega) ⟨rfl, (hst.gs hg).trans hg3, k + 1, s ++ p, rfl, by omega, by rw [List.length_append]; omega, (frame_in (by rfl) (trivial))⟩
      · refine stp trivial ?_
        refine ret1 trivial ?_
        exact (⟨s, rfl, by omega, hst.gs hg⟩)
    · exact ⟨rfl, hg, 0, s, rfl, by omega, by omega, (frame_in (by rfl) (trivial))⟩
  obtain ⟨v, H', h, s, rfl, h1, h2⟩ := key
  exact ⟨s, H', h, h1, h2⟩
end
end Go.Sh
end
section
namespace Go.Sh
set_option maxRecDepth 10000
set_option linter.all false
def headT : List (List Nat) := [[], [], [], [], [35, 82, 69, 68, 73, 82, 69, 67, 84, 32, 91, 91, 66, 93, 93, 10], [35, 82, 69, 68, 73, 82, 69, 67, 84, 32, 91, 91, 58, 84, 101, 109, 112, 108, 97, 116, 101, 58, 84, 93, 93, 32, 120]]
def eqT : List (List Nat) := [[61], [61, 61], [61, 61], [61, 61, 61]]
def secT : List (List Nat) := [[32, 115, 32], [32, 116, 32], [97, 32, 98], [32, 115, 32]]
theorem headT_len : ∀ s ∈ headT, s.length ≤ 30 := by decide
theorem eqT_len : ∀ s ∈ eqT, s.length ≤ 3 := by decide
theorem secT_len : ∀ s ∈ secT, s.length ≤ 3 := by decide
section
variable {lf n : Nat} {H : Heap}
@[reducible] def I20 (M kb : Nat) (H0 : Heap) (r : Nat) (m : Nat) (ts : T) (D : DS) (H' : Heap) : Prop :=
  D = [] ∧ GS M kb H0 H' ∧ ∃ (k : Nat) (s : List Nat), m = 6 - k ∧ k ≤ r + 1 ∧ s.length ≤ 30 + 220 * k ∧ ∃ z : Nat → SV, ts = ((.ptr kb 0) :: (.int .i64 ((1 : Nat) : Int)) :: z 2 :: z 3 :: z 4 :: (.str s) :: (.int .i64 (r : Int)) :: (.int .i64 (k : Int)) :: z 8 :: z 9 :: z 10 :: z 11 :: z 12 :: z 13 :: z 14 :: z 15 :: z 16 :: z 17 :: z 18 :: z 19 :: z 20 :: z 21 :: z 22 :: z 23 :: z 24 :: z 25 :: z 26 :: z 27 :: z 28 :: z 29 :: z 30 :: z 31 :: z 32 :: z 33 :: z 34 :: z 35 :: z 36 :: z 37 :: z 38 :: z 39 :: z 40 :: z 41 :: z 42 :: z 43 :: z 44 :: [] : T) ∧ (True)
theorem text_ok {M kb : Nat} (hT : TapeOK M H kb) (hn : 7 ≤ n) (hlf : 7 < lf) : ∃ s H', callS tabT lf n 20 [.ptr kb 0, .int .i64 ((1 : Nat) : Int)] H = some (.str s, H') ∧ s.length ≤ 2000 ∧ GS M kb H H' := by
  obtain ⟨n, rfl⟩ : ∃ m, n = m + 1 := ⟨n - 1, by omega⟩
  have key : ∃ v H', callS tabT lf (n + 1) 20 [.ptr kb 0, .int .i64 ((1 : Nat) : Int)] H = some (v, H') ∧ ∃ s, v = .str s ∧ s.length ≤ 2000 ∧ GS M kb H H' := by
    obtain ⟨s, H1, hc, hs, hg, _⟩ := of_lit (lf := lf) (n := n) hT 6 (L := headT) rfl rfl (by decide) (by decide) (by omega)
    have hsl := headT_len s hs
    obtain ⟨r, H2, hc2, hr0, hr1, hst⟩ := next_ok (lf := lf) (n := n) hg.2.2 (m := ((5 : Nat) : Int)) (by omega) (by omega) (by omega)
    obtain ⟨r, rfl⟩ : ∃ k : Nat, r = (k : Int) := ⟨r.toNat, by omega⟩
    have hg2 := hst.gs hg
    refine call_code tab20 (by simp only [c20, go_sem, List.reduceReplicate, Nat.reduceAdd, Nat.reduceSub]; exact rfl) ?_
    simp only [c20]
    refine stp trivial ?_
    refine kst trivial hc ?_
    refine stp trivial ?_
    refine kst trivial hc2 ?_
    refine stp trivial ?_
    refine EC_loop (I := I20 M kb H r) ?_ 6 ?_ (by omega)
    · rintro m ts D H' ⟨rfl, hg, k, s, rfl, hk, hsl, ⟨z, rfl, -⟩⟩
      have hw : IntKind.wrap .i64 ((k : Int) + ((1 : Nat) : Int)) = ((k + 1 : Nat) : Int) := by rw [wrap_i64 (by omega) (by omega)]; omega
      refine stp trivial ?_
      refine cst trivial (fun hc => ?_) (fun hc => ?_) <;> try simp only [decide_eq_true_eq, decide_eq_false_iff_not, not_true_eq_false, not_false_eq_true, Int.not_lt, Int.not_le, ge_iff_le, gt_iff_lt] at hc
      · have hk4 : k ≤ r := by omega
        refine stp trivial ?_
        refine cst trivial (fun hc => ?_) (fun hc => ?_) <;> try simp only [decide_eq_true_eq, decide_eq_false_iff_not, not_true_eq_false, not_false_eq_true, Int.not_lt, Int.not_le, ge_iff_le, gt_iff_lt] at hc
        · have ha : binS .add (.str s) (.str [10]) = some (.str (s ++ [10])) := bin_sadd (by simp; omega)
          have hal : (s ++ [10]).length ≤ 30 + 220 * k + 1 := by simp; omega
          generalize s ++ [10] = s1 at ha hal
          refine stp @ha ?_
          obtain ⟨q, H2, hc2, hq0, hq1, hst2⟩ := next_ok (lf := lf) (n := n) hg.2.2 (m := ((4 : Nat) : Int)) (by omega) (by omega) (by omega)
          have hg2 := hst2.gs hg
          refine kst trivial hc2 ?_
          refine stp trivial ?_
          refine cst trivial (fun hc => ?_) (fun hc => ?_) <;> try simp only [decide_eq_true_eq, decide_eq_false_iff_not, not_true_eq_false, not_false_eq_true, Int.not_lt, Int.not_le, ge_iff_le, gt_iff_lt] at hc
          · refine stp trivial ?_
            obtain ⟨e, H3, hc3, he, hg3, _⟩ := of_lit (lf := lf) (n := n) hg2.2.2 4 (L := eqT) rfl rfl (by decide) (by decide) (by omega)
            refine kst trivial hc3 ?_
            have hel := eqT_len e he
            have a1 : binS .add (.str s1) (.str e) = some (.str (s1 ++ e)) := bin_sadd (by omega)
            have l1 : (s1 ++ e).length ≤ 30 + 220 * k + 4 := by rw [List.length_append]; omega
            generalize s1 ++ e = s2 at a1 l1
            refine stp @a1 ?_
            obtain ⟨w, H4, hc4, hw4, hg4, _⟩ := of_lit (lf := lf) (n := n) (hg2.trans hg3).2.2 4 (L := secT) rfl rfl (by decide) (by decide) (by omega)
            refine kst trivial hc4 ?_
            have hwl := secT_len w hw4
            have a2 : binS .add (.str s2) (.str w) = some (.str (s2 ++ w)) := bin_sadd (by omega)
            have l2 : (s2 ++ w).length ≤ 30 + 220 * k + 7 := by rw [List.length_append]; omega
            generalize s2 ++ w = s3 at a2 l2
            have a3 : binS .add (.str s3) (.str e) = some (.str (s3 ++ e)) := bin_sadd (by omega)
            have l3 : (s3 ++ e).length ≤ 30 + 220 * k + 10 := by rw [List.length_append]; omega
            generalize s3 ++ e = s4 at a3 l3
            have a4 : binS .add (.str s4) (.str [10]) = some (.str (s4 ++ [10])) := bin_sadd (by simp; omega)
            have l4 : (s4 ++ [10]).length ≤ 30 + 220 * k + 14 := by simp; omega
            generalize s4 ++ [10] = s5 at a4 l4
            have hg6 := (hg2.trans hg3).trans hg4
            refine stp (And.intro @a2 (And.intro @a3 @a4)) ?_
            obtain ⟨p, H5, hc5, hp, hg5⟩ := line_ok (lf := lf) (n := n) hg6.2.2 (by omega) (by omega)
            refine kst trivial hc5 ?_
            have hadd : binS .add (.str s5) (.str p) = some (.str (s5 ++ p)) := bin_sadd (by omega)
            refine stp (And.intro @hadd @hw) ?_
            refine loopR_normal (6 - (k + 1)) (by omega) ⟨rfl, hg6.trans hg5, k + 1, s5 ++ p, rfl, by omega, by rw [List.length_append]; omega, (frame_in (by rfl) (trivial))⟩
          · refine stp trivial ?_
            obtain ⟨p, H5, hc5, hp, hg5⟩ := line_ok (lf := lf) (n := n) hg2.2.2 (by omega) (by omega)
            refine kst trivial hc5 ?_
            have hadd : binS .add (.str s1) (.str p) = some (.str (s1 ++ p)) := bin_sadd (by omega)
            refine stp (And.intro @hadd @hw) ?_
            refine loopR_normal (6 - (k + 1)) (by omega) ⟨rfl, hg2.trans hg5, k + 1, s1 ++ p, rfl, by omega, by rw [List.length_append]; omega, (frame_in (by rfl) (trivial))⟩
        · refine stp trivial ?_
          obtain ⟨q, H2, hc2, hq0, hq1, hst2⟩ := next_ok (lf := lf) (n := n) hg.2.2 (m := ((4 : Nat) : Int)) (by omega) (by omega) (by omega)
          have hg2 := hst2.gs hg
          refine kst trivial hc2 ?_
          refine stp trivial ?_
          refine cst trivial (fun hc => ?_) (fun hc => ?_) <;> try simp only [decide_eq_true_eq, decide_eq_false_iff_not, not_true_eq_false, not_false_eq_true, Int.not_lt, Int.not_le, ge_iff_le, gt_iff_lt] at hc
          · refine stp trivial ?_
            obtain ⟨e, H3, hc3, he, hg3, _⟩ := of_lit (lf := lf) (n := n) hg2.2.2 4 (L := eqT) rfl rfl (by decide) (by decide) (by omega)
            refine kst trivial hc3 ?_
            have hel := eqT_len e he
            have a1 : binS .add (.str s) (.str e) = some (.str (s ++ e)) := bin_sadd (by omega)
            have l1 : (s ++ e).length ≤ 30 + 220 * k + 4 := by rw [List.length_append]; omega
            generalize s ++ e = s2 at a1 l1
            refine stp @a1 ?_
            obtain ⟨w, H4, hc4, hw4, hg4, _⟩ := of_lit (lf := lf) (n := n) (hg2.trans hg3).2.2 4 (L := secT) rfl rfl (by decide) (by decide) (by omega)
            refine kst trivial hc4 ?_
            have hwl := secT_len w hw4
            have a2 : binS .add (.str s2) (.str w) = some (.str (s2 ++ w)) := bin_sadd (by omega)
            have l2 : (s2 ++ w).length ≤ 30 + 220 * k + 7 := by rw [List.length_append]; omega
            generalize s2 ++ w = s3 at a2 l2
            have a3 : binS .add (.str s3) (.str e) = some (.str (s3 ++ e)) := bin_sadd (by omega)
            have l3 : (s3 ++ e).length ≤ 30 + 220 * k + 10 := by rw [List.length_append]; omega
            generalize s3 ++ e = s4 at a3 l3
            have a4 : binS .add (.str s4) (.str [10]) = some (.str (s4 ++ [10])) := bin_sadd (by simp; omega)
            have l4 : (s4 ++ [10]).length ≤ 30 + 220 * k + 14 := by simp; omega
            generalize s4 ++ [10] = s5 at a4 l4
            have hg6 := (hg2.trans hg3).trans hg4
            refine stp (And.intro @a2 (And.intro @a3 @a4)) ?_
            obtain ⟨p, H5, hc5, hp, hg5⟩ := line_ok (lf := lf) (n := n) hg6.2.2 (by omega) (by omega)
            refine kst trivial hc5 ?_
            have hadd : binS .add (.str s5) (.str p) = some (.str (s5 ++ p)) := bin_sadd (by omega)
            refine stp (And.intro @hadd @hw) ?_
            refine loopR_normal (6 - (k + 1)) (by omega) ⟨rfl, hg6.trans hg5, k + 1, s5 ++ p, rfl, by omega, by rw [List.length_append]; omega, (frame_in (by rfl) (trivial))⟩
          · refine stp trivial ?_
            obtain ⟨p, H5, hc5, hp, hg5⟩ := line_ok (lf := lf) (n := n) hg2.2.2 (by omega) (by omega)
            refine kst trivial hc5 ?_
            have hadd : binS .add (.str s) (.str p) = some (.str (s ++ p)) := bin_sadd (by omega)
            refine stp (And.intro @hadd @hw) ?_
            refine loopR_normal (6 - (k + 1)) (by omega) ⟨rfl, hg2.trans hg5, k + 1, s ++ p, rfl, by omega, by rw [List.length_append]; omega, (frame_in (by rfl) (trivial))⟩
      · refine stp trivial ?_
        refine ret1 trivial ?_
        exact (⟨s, rfl, by omega, hg⟩)
    · exact ⟨rfl, hg2, 0, s, rfl, by omega, by omega, (frame_in (by rfl) (trivial))⟩
  obtain ⟨v, H', h, s, rfl, h1, h2⟩ := key
  exact ⟨s, H', h, h1, h2⟩
end
end Go.Sh
end
