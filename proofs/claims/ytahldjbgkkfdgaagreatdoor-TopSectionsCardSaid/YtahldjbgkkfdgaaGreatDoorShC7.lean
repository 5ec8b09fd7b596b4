/-
  Symbolic reckoning: endings, lookups in the empty list, section.at. (frame style z)
  Symbolic reckoning: section.Replace. (frame style z)
  Symbolic reckoning: section.Find, access.part, access.concerned, access.Change. (frame style z)
-/
import Derived.Test.YtahldjbgkkfdgaaGreatDoorShC6
set_option linter.all false
section
namespace Go.Sh
set_option maxRecDepth 10000
set_option linter.all false
theorem tab22 : tabT 22 = some (.code c22) := by kernel_rfl
theorem tab43 : tabT 43 = some (.code c43) := by kernel_rfl
theorem tab20 : tabT 20 = some (.code c20) := by kernel_rfl
theorem tab9 : tabT 9 = some (.code c9) := by kernel_rfl
theorem tab10 : tabT 10 = some (.code c10) := by kernel_rfl
theorem tab23 : tabT 23 = some (.code c23) := by kernel_rfl
theorem tab44 : tabT 44 = some (.code c44) := by kernel_rfl
theorem tab96 : tabT 96 = some (.code c96) := by kernel_rfl
theorem tab7 : tabT 7 = some (.code c7) := by kernel_rfl
theorem tab16 : tabT 16 = some (.code c16) := by kernel_rfl
theorem tab31 : tabT 31 = some (.code c31) := by kernel_rfl
theorem tab58 : tabT 58 = some (.code c58) := by kernel_rfl
theorem tab30 : tabT 30 = some (.code c30) := by kernel_rfl
theorem tab4 : tabT 4 = some (.code c4) := by kernel_rfl
theorem tab5 : tabT 5 = some (.code c5) := by kernel_rfl
theorem tab3 : tabT 3 = some (.code c3) := by kernel_rfl
section
variable {lf n : Nat} {H : Heap}

theorem hasSuffix42_ok {s : List Nat} {c : Nat} (hs : s ≠ []) (hlen : s.length < 100000) (hn : 1 ≤ n) :
    callS tabT lf n 42 [.str s, .str [c]] H = some (.bool (decide (s.drop (s.length - 1) = [c])), H) := by
  obtain ⟨n, rfl⟩ : ∃ m, n = m + 1 := ⟨n - 1, by omega⟩
  have hp : 0 < s.length := List.length_pos_iff.2 hs
  have key : ∃ v H', callS tabT lf (n + 1) 42 [.str s, .str [c]] H = some (v, H') ∧ v = .bool (decide (s.drop (s.length - 1) = [c])) ∧ H' = H := by
    refine call_code tab42 (by simp only [c42, go_sem, List.reduceReplicate, Nat.reduceAdd, Nat.reduceSub]; exact rfl) ?_
    simp only [c42]
    have d1 : decide ((s.length : Int) ≥ ((1 : Nat) : Int)) = true := by simp only [decide_eq_true_eq]; omega
    have hsub : ((s.length : Int) - ((1 : Nat) : Int)) = ((s.length - 1 : Nat) : Int) := by omega
    have htk : (s.drop (s.length - 1)).take (s.length - (s.length - 1)) = s.drop (s.length - 1) := List.take_of_length_le (by simp)
    refine stp (And.intro @d1 (And.intro @hsub @htk)) ?_
    refine ret1 trivial ?_
    exact (⟨rfl, rfl⟩)
  obtain ⟨v, H', h, rfl, rfl⟩ := key
  exact h

theorem hasSuffix_ok {s : List Nat} {c : Nat} (hs : s ≠ []) (hlen : s.length < 100000) (hn : 2 ≤ n) :
    callS tabT lf n 21 [.str s, .str [c]] H = some (.bool (decide (s.drop (s.length - 1) = [c])), H) := by
  obtain ⟨n, rfl⟩ : ∃ m, n = m + 1 := ⟨n - 1, by omega⟩
  have key : ∃ v H', callS tabT lf (n + 1) 21 [.str s, .str [c]] H = some (v, H') ∧ v = .bool (decide (s.drop (s.length - 1) = [c])) ∧ H' = H := by
    refine call_code tab21 (by simp only [c21, go_sem, List.reduceReplicate, Nat.reduceAdd, Nat.reduceSub]; exact rfl) ?_
    simp only [c21]
    refine stp trivial ?_
    have hcl := hasSuffix42_ok (lf := lf) (n := n) (H := H) (c := c) hs hlen (by omega)
    refine kst trivial hcl ?_
    refine stp trivial ?_
    refine ret1 trivial ?_
    exact (⟨rfl, rfl⟩)
  obtain ⟨v, H', h, rfl, rfl⟩ := key
  exact h

theorem indexNil_ok {x : List Nat} (hn : 1 ≤ n) (hlf : 1 ≤ lf) : callS tabT lf n 43 [.nils, .str x] H = some (.int .i64 (-1), H) := by
  obtain ⟨n, rfl⟩ : ∃ m, n = m + 1 := ⟨n - 1, by omega⟩
  have key : ∃ v H', callS tabT lf (n + 1) 43 [.nils, .str x] H = some (v, H') ∧ v = .int .i64 (-1) ∧ H' = H := by
    refine call_code tab43 (by simp only [c43, go_sem, List.reduceReplicate, Nat.reduceAdd, Nat.reduceSub]; exact rfl) ?_
    simp only [c43]
    refine stp trivial ?_
    refine EC_loop1 (by omega) ?_
    have d : decide (((0 : Nat) : Int) < 0) = false := by decide
    refine stp trivial ?_
    refine cstE @d ?_
    refine stp trivial ?_
    refine ret1 trivial ?_
    exact (⟨rfl, rfl⟩)
  obtain ⟨v, H', h, rfl, rfl⟩ := key
  exact h

theorem containsNil_ok {x : List Nat} (hn : 2 ≤ n) (hlf : 1 ≤ lf) : callS tabT lf n 22 [.nils, .str x] H = some (.bool false, H) := by
  obtain ⟨n, rfl⟩ : ∃ m, n = m + 1 := ⟨n - 1, by omega⟩
  have key : ∃ v H', callS tabT lf (n + 1) 22 [.nils, .str x] H = some (v, H') ∧ v = .bool false ∧ H' = H := by
    refine call_code tab22 (by simp only [c22, go_sem, List.reduceReplicate, Nat.reduceAdd, Nat.reduceSub]; exact rfl) ?_
    simp only [c22]
    refine stp trivial ?_
    have hcl := indexNil_ok (lf := lf) (n := n) (H := H) (x := x) (by omega) hlf
    refine kst trivial hcl ?_
    have d : decide ((-1 : Int) ≥ ((0 : Nat) : Int)) = false := by decide
    refine stp @d ?_
    refine ret1 @d ?_
    exact (⟨rfl, rfl⟩)
  obtain ⟨v, H', h, rfl, rfl⟩ := key
  exact h

theorem Sl.at {B0 e z : Nat} {H : Heap} {v : SV} {L : List (List SV)} {i : Nat} {x : List SV} (h : Sl B0 e z H v L) (hi : L[i]? = some x) : ∃ b, B0 ≤ b ∧ b < H.next ∧ v = .slice b 0 L.length none z ∧ H.get b = some (.row L.flatten e false false 0) := by
  rcases h with ⟨rfl, rfl⟩ | ⟨_, b, h1, h2, h3, h4⟩
  · simp at hi
  · exact ⟨b, h1, h2, h3, h4⟩

theorem at_ok {s : List Nat} {ls : List (List Nat)} {last : List Nat} {i : Nat} {x : Sec} (hp : Plain s) (hs : Bts s) (hL : LinesOK s ls last) (hlen : s.length ≤ 8192) (hx : (secsF (headsL s.length 0 ls last))[i]? = some x) (hn : 9 ≤ n) (hlf : s.length + 2 < lf) :
    ∃ (H' : Heap), callS tabT lf n 20 [.str s, .int .i64 (i : Int)] H = some (.tup [.agg (secC x), .int .i64 0], H') ∧ Ext H H' := by
  obtain ⟨n, rfl⟩ : ∃ m, n = m + 1 := ⟨n - 1, by omega⟩
  have key : ∃ v H', callS tabT lf (n + 1) 20 [.str s, .int .i64 (i : Int)] H = some (v, H') ∧ v = .tup [.agg (secC x), .int .i64 0] ∧ Ext H H' := by
    refine call_code tab20 (by simp only [c20, go_sem, List.reduceReplicate, Nat.reduceAdd, Nat.reduceSub]; exact rfl) ?_
    simp only [c20]
    refine stp trivial ?_
    obtain ⟨w, H1, hc, hE, hsl⟩ := sections_ok (lf := lf) (n := n) (H := H.push (.row [.int .i64 0, .str [], .int .i64 0, .int .i64 0, .int .i64 0] 33 true false 0)) hp hs hL hlen (by omega) hlf
    obtain ⟨R, hR⟩ : ∃ R, secsF (headsL s.length 0 ls last) = R := ⟨_, rfl⟩
    rw [hR] at hx hsl
    have hi : i < R.length := (List.getElem?_eq_some_iff.1 hx).1
    have hxc : (R.map secC)[i]? = some (secC x) := by rw [List.getElem?_map, hx]; rfl
    obtain ⟨b, hb1, hb2, rfl, hrow⟩ := hsl.at hxc
    have hfl := flatten_len (secC_all R)
    have hat := flatten_at (secC_all R) hxc
    rw [List.length_map] at hfl hc
    obtain ⟨cs, hcs⟩ : ∃ cs, (R.map secC).flatten = cs := ⟨_, rfl⟩
    rw [hcs] at hrow hfl hat
    refine stp trivial ?_
    refine kst trivial hc ?_
    have d0 : decide ((0 : Int) ≠ ((0 : Nat) : Int)) = false := by decide
    refine stp trivial ?_
    refine cstE @d0 ?_
    have d1 : decide ((i : Int) < ((0 : Nat) : Int)) = false := by simp only [decide_eq_false_iff_not]; omega
    have d2 : decide ((i : Int) ≥ (R.length : Int)) = false := by simp only [decide_eq_false_iff_not]; omega
    refine stp (And.intro @d1 @d2) ?_
    refine cstE (And.intro @d1 @d2) ?_
    have hld : rowL (some (.row cs 33 false false 0)) (i * 5) 5 = some (secC x) := by rw [rowL_row (by omega), hat]
    have hold : H1.get H.next = some (.row [.int .i64 0, .str [], .int .i64 0, .int .i64 0, .int .i64 0] 33 true false 0) := by rw [hE.2 _ (by rw [next_push]; omega), get_push_self]
    simp only [secC] at hld
    refine stp (And.intro @hrow (And.intro @hld @hold)) ?_
    refine ret2 @get_put_self ?_
    exact (⟨rfl, Ext.put (⟨Nat.le_trans (Nat.le_succ _) hE.1, fun c hc => by rw [hE.2 c (by rw [next_push]; omega), get_push_old hc]⟩) (Nat.le_refl _) _⟩)
  obtain ⟨v, H', h, rfl, hE⟩ := key
  exact ⟨H', h, hE⟩
end
end Go.Sh
end
section
namespace Go.Sh
set_option maxRecDepth 10000
set_option linter.all false
section
variable {lf n : Nat} {H : Heap}

/-- What is laid in the place of a section. -/
def repT (s t : List Nat) (x : Sec) : List Nat := if ¬ t.drop (t.length - 1) = [10] ∧ x.to < s.length then t ++ [10] else t
def repS (s t : List Nat) (x : Sec) : List Nat := s.take x.frm ++ repT s t x ++ s.drop x.to

theorem replace_ok {s : List Nat} {ls : List (List Nat)} {last : List Nat} {i : Nat} {x : Sec} {t : List Nat} (hp : Plain s) (hs : Bts s) (hL : LinesOK s ls last) (hlen : s.length ≤ 8192) (hx : (secsF (headsL s.length 0 ls last))[i]? = some x)
    (hft : x.frm ≤ x.to) (hto : x.to ≤ s.length) (ht : t ≠ []) (htl : (repS s t x).length ≤ 8192) (hn : 10 ≤ n) (hlf : s.length + 2 < lf) :
    ∃ (H' : Heap), callS tabT lf n 9 [.str s, .int .i64 (i : Int), .str t] H = some (.tup [.str (repS s t x), .int .i64 0], H') ∧ Ext H H' := by
  obtain ⟨n, rfl⟩ : ∃ m, n = m + 1 := ⟨n - 1, by omega⟩
  have key : ∃ v H', callS tabT lf (n + 1) 9 [.str s, .int .i64 (i : Int), .str t] H = some (v, H') ∧ v = .tup [.str (repS s t x), .int .i64 0] ∧ Ext H H' := by
    obtain ⟨H1, hc, hE⟩ := at_ok (lf := lf) (n := n) (H := H) hp hs hL hlen hx (by omega) hlf
    simp only [secC] at hc
    have htd : (s.drop x.to).take (s.length - x.to) = s.drop x.to := List.take_of_length_le (by simp)
    have hrl : (repS s t x).length = x.frm + (repT s t x).length + (s.length - x.to) := by simp [repS]; omega
    have hrt : t.length ≤ (repT s t x).length := by
      rw [repT]
      split <;> simp
    have htk : (s.drop 0).take x.frm = s.take x.frm := rfl
    refine call_code tab9 (by simp only [c9, go_sem, List.reduceReplicate, Nat.reduceAdd, Nat.reduceSub]; exact rfl) ?_
    simp only [c9]
    refine stp trivial ?_
    refine kst trivial hc ?_
    have d0 : decide ((0 : Int) ≠ ((0 : Nat) : Int)) = false := by decide
    refine stp trivial ?_
    refine cstE @d0 ?_
    have d1 : decide (t ≠ []) = true := by simp only [decide_eq_true_eq]; exact ht
    have d1' : decide (t = []) = false := by simp only [decide_eq_false_iff_not]; exact ht
    have hsf := fun H => hasSuffix_ok (lf := lf) (n := n) (H := H) (s := t) (c := 10) ht (by omega) (by omega)
    by_cases c1 : t.drop (t.length - 1) = [10]
    · have hr : repT s t x = t := by rw [repT, if_neg (fun h => h.1 c1)]
      have hS : s.take x.frm ++ t ++ s.drop x.to = repS s t x := by rw [repS, hr]
      rw [hr] at hrl
      rw [decide_eq_true c1] at hsf
      refine stp @d1 ?_
      refine kst trivial (hsf _) ?_
      refine stp @Bool.not_true ?_
      refine cstE trivial ?_
      have e1 : ((s.length : Int) - ((x.to : Int) - (x.frm : Int)) + ((t.length : Nat) : Int)) = (((repS s t x).length : Nat) : Int) := by omega
      have e2 : decide ((((repS s t x).length : Nat) : Int) > ((8192 : Nat) : Int)) = false := by simp only [decide_eq_false_iff_not]; omega
      refine stp (And.intro @e1 @e2) ?_
      refine cstE @e2 ?_
      refine stp (And.intro @htd (And.intro @Nat.sub_zero @hS)) ?_
      refine ret2 (And.intro @Nat.sub_zero @hS) ?_
      exact (⟨rfl, (hE.push _).put hE.1 _⟩)
    · rw [decide_eq_false c1] at hsf
      by_cases c2 : x.to < s.length
      · have hr : repT s t x = t ++ [10] := by rw [repT, if_pos ⟨c1, c2⟩]
        have hS : s.take x.frm ++ (t ++ [10]) ++ s.drop x.to = repS s t x := by rw [repS, hr]
        have hl10 : (t ++ [10]).length = t.length + 1 := by simp
        rw [hr, hl10] at hrl
        have d2 : decide ((x.to : Int) < (s.length : Int)) = true := by simp only [decide_eq_true_eq]; omega
        refine stp @d1 ?_
        refine kst trivial (hsf _) ?_
        refine stp (And.intro @Bool.not_false @d2) ?_
        refine cstT @d2 ?_
        have e1 : ((s.length : Int) - ((x.to : Int) - (x.frm : Int)) + ((t.length + 1 : Nat) : Int)) = (((repS s t x).length : Nat) : Int) := by omega
        have e2 : decide ((((repS s t x).length : Nat) : Int) > ((8192 : Nat) : Int)) = false := by simp only [decide_eq_false_iff_not]; omega
        refine stp (And.intro @hl10 (And.intro @e1 @e2)) ?_
        refine cstE @e2 ?_
        refine stp (And.intro @htd (And.intro @Nat.sub_zero @hS)) ?_
        refine ret2 (And.intro @Nat.sub_zero @hS) ?_
        exact (⟨rfl, (hE.push _).put hE.1 _⟩)
      · have hr : repT s t x = t := by rw [repT, if_neg (fun h => c2 h.2)]
        have hS : s.take x.frm ++ t ++ s.drop x.to = repS s t x := by rw [repS, hr]
        rw [hr] at hrl
        have d2 : decide ((x.to : Int) < (s.length : Int)) = false := by simp only [decide_eq_false_iff_not]; omega
        refine stp @d1 ?_
        refine kst trivial (hsf _) ?_
        refine stp (And.intro @Bool.not_false @d2) ?_
        refine cstE @d2 ?_
        have e1 : ((s.length : Int) - ((x.to : Int) - (x.frm : Int)) + ((t.length : Nat) : Int)) = (((repS s t x).length : Nat) : Int) := by omega
        have e2 : decide ((((repS s t x).length : Nat) : Int) > ((8192 : Nat) : Int)) = false := by simp only [decide_eq_false_iff_not]; omega
        refine stp (And.intro @e1 @e2) ?_
        refine cstE @e2 ?_
        refine stp (And.intro @htd (And.intro @Nat.sub_zero @hS)) ?_
        refine ret2 (And.intro @Nat.sub_zero @hS) ?_
        exact (⟨rfl, (hE.push _).put hE.1 _⟩)
  obtain ⟨v, H', h, rfl, hE⟩ := key
  exact ⟨H', h, hE⟩
end
end Go.Sh
end
section
namespace Go.Sh
set_option maxRecDepth 10000
set_option linter.all false

@[reducible] def I96 (b : Nat) (nm : List Nat) (R : List Sec) (cs : List SV) (H0 : Heap) (m : Nat) (ts : T) (D : DS) (H' : Heap) : Prop :=
  D = [] ∧ Ext H0 H' ∧ ∃ i : Nat, m = R.length - i ∧ i ≤ R.length ∧ ∃ z : Nat → SV, ts = (z 0 :: (.str nm) :: z 2 :: z 3 :: z 4 :: z 5 :: z 6 :: z 7 :: z 8 :: z 9 :: (.slice b 0 R.length none 5) :: (.int .i64 (R.length : Int)) :: (.int .i64 (i : Int)) :: z 13 :: z 14 :: z 15 :: z 16 :: z 17 :: z 18 :: z 19 :: z 20 :: z 21 :: z 22 :: [] : T) ∧ (True)
section
variable {lf n : Nat} {H : Heap}

theorem find_none {name : List Nat} {B0 : Nat} {w : SV} {R : List Sec} (hbn : Bts name) (hln : name.length < 10000) (hsl : Sl B0 33 5 H w (R.map secC)) (hR : R.length ≤ 8192) (hno : ∀ y ∈ R, y.title ≠ (trimR isSp name).dropWhile isSp) (hn : 4 ≤ n) (hlf : R.length + name.length + 5 < lf) :
    ∃ (H' : Heap), callS tabT lf n 96 [w, .str name] H = some (.tup [.int .i64 0, .bool false], H') ∧ Ext H H' := by
  obtain ⟨n, rfl⟩ : ∃ m, n = m + 1 := ⟨n - 1, by omega⟩
  have key : ∃ v H', callS tabT lf (n + 1) 96 [w, .str name] H = some (v, H') ∧ v = .tup [.int .i64 0, .bool false] ∧ Ext H H' := by
    obtain ⟨H1, hc, hE⟩ := trim_sp (lf := lf) (n := n) (H := H) hbn (by omega) (by omega) (by omega) (by omega)
    obtain ⟨nm, hnm⟩ : ∃ nm, (trimR isSp name).dropWhile isSp = nm := ⟨_, rfl⟩
    rw [hnm] at hc hno
    refine call_code tab96 (by simp only [c96, go_sem, List.reduceReplicate, Nat.reduceAdd, Nat.reduceSub]; exact rfl) ?_
    simp only [c96]
    rcases hsl with ⟨he, rfl⟩ | ⟨hne, b, hb1, hb2, rfl, hrow⟩
    · refine stp trivial ?_
      refine kst trivial hc ?_
      refine stp trivial ?_
      refine EC_loop1 (by omega) ?_
      have d : decide (((0 : Nat) : Int) < 0) = false := by decide
      refine stp trivial ?_
      refine cstE @d ?_
      refine stp trivial ?_
      refine ret2 trivial ?_
      exact (⟨rfl, hE⟩)
    · rw [List.length_map]
      have hfl := flatten_len (secC_all R)
      rw [List.length_map] at hfl
      have hat := fun (i : Nat) (x : Sec) (hi : R[i]? = some x) => flatten_at (secC_all R) (i := i) (x := secC x) (by rw [List.getElem?_map, hi]; rfl)
      obtain ⟨cs, hcs⟩ : ∃ cs, (R.map secC).flatten = cs := ⟨_, rfl⟩
      rw [hcs] at hrow hfl hat
      refine stp trivial ?_
      refine kst trivial hc ?_
      refine stp trivial ?_
      refine EC_loop (I := I96 b nm R cs H1) ?_ R.length ?_ (by omega)
      · rintro m ts D H' ⟨rfl, hE2, i, rfl, hi, ⟨z, rfl, -⟩⟩
        have hrow2 : H'.get b = some (.row cs 33 false false 0) := by rw [hE2.2 b (Nat.lt_of_lt_of_le hb2 hE.1), hE.2 b hb2]; exact hrow
        refine stp trivial ?_
        refine cst trivial (fun hc => ?_) (fun hc => ?_) <;> try simp only [decide_eq_true_eq, decide_eq_false_iff_not, not_true_eq_false, not_false_eq_true, Int.not_lt, Int.not_le, ge_iff_le, gt_iff_lt] at hc
        · have hlt : i < R.length := by omega
          obtain ⟨x, hx⟩ : ∃ x, R[i]? = some x := ⟨_, List.getElem?_eq_getElem hlt⟩
          have hld : rowL (some (.row cs 33 false false 0)) (i * 5) 5 = some (secC x) := by rw [rowL_row (by omega), hat i x hx]
          simp only [secC] at hld
          have hxm : x ∈ R := List.mem_of_getElem? hx
          have dn : decide (x.title = nm) = false := by simp only [decide_eq_false_iff_not]; exact hno x hxm
          refine stp (And.intro @hrow2 (And.intro @hld (And.intro @dn @get_put_self))) ?_
          refine cstE @dn ?_
          refine stp trivial ?_
          refine loopR_normal (R.length - (i + 1)) (by omega) ⟨rfl, (hE2.push _).put hE2.1 _, i + 1, rfl, by omega, ?_⟩
          exact (frame_in (by rfl) (trivial))
        · refine stp trivial ?_
          refine ret2 trivial ?_
          exact (⟨rfl, hE.trans hE2⟩)
      · refine ⟨rfl, Ext.refl _, 0, by omega, by omega, ?_⟩
        exact (frame_in (by rfl) (trivial))
  obtain ⟨v, H', h, rfl, hE⟩ := key
  exact ⟨H', h, hE⟩

/-- No section of that name. -/
def NoSec (s name : List Nat) : Prop := Plain s ∧ Bts s ∧ s.length ≤ 8192 ∧ ∃ ls last, LinesOK s ls last ∧ (secsF (headsL s.length 0 ls last)).length ≤ 8192 ∧ ∀ y ∈ secsF (headsL s.length 0 ls last), y.title ≠ (trimR isSp name).dropWhile isSp

theorem part_none {s name : List Nat} (h : NoSec s name) (hbn : Bts name) (hln : name.length < 10000) (hn : 9 ≤ n) (hlf : 20000 < lf) :
    ∃ (H' : Heap), callS tabT lf n 44 [.str s, .str name] H = some (.tup [.str [], .bool false], H') ∧ Ext H H' := by
  obtain ⟨n, rfl⟩ : ∃ m, n = m + 1 := ⟨n - 1, by omega⟩
  obtain ⟨hp, hb, hlen, ls, last, hL, hRl, hno⟩ := h
  have key : ∃ v H', callS tabT lf (n + 1) 44 [.str s, .str name] H = some (v, H') ∧ v = .tup [.str [], .bool false] ∧ Ext H H' := by
    obtain ⟨w, H1, hc, hE, hsl⟩ := sections_ok (lf := lf) (n := n) (H := H) hp hb hL hlen (by omega) (by omega)
    obtain ⟨H2, hc2, hE2⟩ := find_none (lf := lf) (n := n) (H := H1) hbn hln hsl hRl hno (by omega) (by omega)
    refine call_code tab44 (by simp only [c44, go_sem, List.reduceReplicate, Nat.reduceAdd, Nat.reduceSub]; exact rfl) ?_
    simp only [c44]
    refine stp trivial ?_
    refine kst trivial hc ?_
    have d0 : decide ((0 : Int) ≠ ((0 : Nat) : Int)) = false := by decide
    refine stp trivial ?_
    refine cstE @d0 ?_
    refine stp trivial ?_
    refine kst trivial hc2 ?_
    refine stp @Bool.not_false ?_
    refine cstT trivial ?_
    refine stp trivial ?_
    refine ret2 trivial ?_
    exact (⟨rfl, hE.trans hE2⟩)
  obtain ⟨v, H', h, rfl, hE⟩ := key
  exact ⟨H', h, hE⟩

theorem concerned_no {s s' name g : List Nat} {k : Int} {a : List Nat} {fb : Bool} (h : NoSec s name) (h' : NoSec s' name) (hne : name ≠ []) (hbn : Bts name) (hln : name.length < 10000) (hn : 10 ≤ n) (hlf : 20000 < lf) :
    ∃ (H' : Heap), callS tabT lf n 23 [.agg [.bool fb, .str g, .int .i64 k, .str a, .str name], .str s, .str s'] H = some (.bool false, H') ∧ Ext H H' := by
  obtain ⟨n, rfl⟩ : ∃ m, n = m + 1 := ⟨n - 1, by omega⟩
  have key : ∃ v H', callS tabT lf (n + 1) 23 [.agg [.bool fb, .str g, .int .i64 k, .str a, .str name], .str s, .str s'] H = some (v, H') ∧ v = .bool false ∧ Ext H H' := by
    have hh := fun H => part_none (lf := lf) (n := n) (H := H) h hbn hln (by omega) hlf
    have hh' := fun H => part_none (lf := lf) (n := n) (H := H) h' hbn hln (by omega) hlf
    obtain ⟨H1, hc, hE⟩ := hh (H.push (.row [.bool fb, .str g, .int .i64 k, .str a, .str name] 39 true false 0))
    obtain ⟨H2, hc2, hE2⟩ := hh' H1
    have dn : decide (name = []) = false := by simp only [decide_eq_false_iff_not]; exact hne
    have hold : H1.get H.next = some (.row [.bool fb, .str g, .int .i64 k, .str a, .str name] 39 true false 0) := by rw [hE.2 _ (by rw [next_push]; omega), get_push_self]
    refine call_code tab23 (by simp only [c23, go_sem, List.reduceReplicate, Nat.reduceAdd, Nat.reduceSub]; exact rfl) ?_
    simp only [c23]
    refine stp @dn ?_
    refine cstE @dn ?_
    refine stp trivial ?_
    refine kst trivial hc ?_
    refine stp @hold ?_
    refine kst trivial hc2 ?_
    have e1 : eqVal false [(0, 0)] (.bool false) (.bool false) = some true := rfl
    have e2 : decide (([] : List Nat) ≠ []) = false := by decide
    refine stp (And.intro @e1 (And.intro @e2 @Bool.not_true)) ?_
    refine ret1 trivial ?_
    exact (⟨rfl, ⟨Nat.le_trans (Nat.le_succ _) (hE.trans hE2).1, fun c hc => by rw [(hE.trans hE2).2 c (by rw [next_push]; omega), get_push_old hc]⟩⟩)
  obtain ⟨v, H', h, rfl, hE⟩ := key
  exact ⟨H', h, hE⟩
end
end Go.Sh
end
