/-
  Symbolic reckoning: endings, lookups in the empty list, section.at. (frame style z)
  Symbolic reckoning: trcgen.New, Lines. (frame style z)
-/
import Derived.Test.YtpcpmplkblbpbaaGreatDoorShC6
set_option linter.all false
section
namespace Go.Sh
set_option maxRecDepth 10000
set_option linter.all false
theorem tab118 : tabT 118 = some (.code c118) := by kernel_rfl
theorem tab190 : tabT 190 = some (.code c190) := by kernel_rfl
theorem tab408 : tabT 408 = some (.code c408) := by kernel_rfl
theorem tab375 : tabT 375 = some (.code c375) := by kernel_rfl
theorem tab266 : tabT 266 = some (.code c266) := by kernel_rfl
theorem tab312 : tabT 312 = some (.code c312) := by kernel_rfl
theorem tab339 : tabT 339 = some (.code c339) := by kernel_rfl
theorem tab338 : tabT 338 = some (.code c338) := by kernel_rfl
theorem tab308 : tabT 308 = some (.code c308) := by kernel_rfl
theorem tab3 : tabT 3 = some (.code c3) := by kernel_rfl
theorem tab4 : tabT 4 = some (.code c4) := by kernel_rfl
theorem tab5 : tabT 5 = some (.code c5) := by kernel_rfl
section
variable {lf n : Nat} {H : Heap}
theorem hasSuffix42_ok {s : List Nat} {c : Nat} (hs : s ≠ []) (hlen : s.length < 100000) (hn : 1 ≤ n) :
    callS tabT lf n 57 [.str s, .str [c]] H = some (.bool (decide (s.drop (s.length - 1) = [c])), H) := by
  obtain ⟨n, rfl⟩ : ∃ m, n = m + 1 := ⟨n - 1, by omega⟩
  have hp : 0 < s.length := List.length_pos_iff.2 hs
  have key : ∃ v H', callS tabT lf (n + 1) 57 [.str s, .str [c]] H = some (v, H') ∧ v = .bool (decide (s.drop (s.length - 1) = [c])) ∧ H' = H := by
    refine call_code tab57 (by simp only [c57, go_sem, List.reduceReplicate, Nat.reduceAdd, Nat.reduceSub]; exact rfl) ?_
    simp only [c57]
    have d1 : decide ((s.length : Int) ≥ ((1 : Nat) : Int)) = true := by simp only [decide_eq_true_eq]; omega
    have hsub : ((s.length : Int) - ((1 : Nat) : Int)) = ((s.length - 1 : Nat) : Int) := by omega
    have htk : (s.drop (s.length - 1)).take (s.length - (s.length - 1)) = s.drop (s.length - 1) := List.take_of_length_le (by simp)
    refine stp (And.intro @d1 (And.intro @hsub @htk)) ?_
    refine ret1 trivial ?_
    exact (⟨rfl, rfl⟩)
  obtain ⟨v, H', h, rfl, rfl⟩ := key
  exact h
theorem hasSuffix_ok {s : List Nat} {c : Nat} (hs : s ≠ []) (hlen : s.length < 100000) (hn : 2 ≤ n) :
    callS tabT lf n 39 [.str s, .str [c]] H = some (.bool (decide (s.drop (s.length - 1) = [c])), H) := by
  obtain ⟨n, rfl⟩ : ∃ m, n = m + 1 := ⟨n - 1, by omega⟩
  have key : ∃ v H', callS tabT lf (n + 1) 39 [.str s, .str [c]] H = some (v, H') ∧ v = .bool (decide (s.drop (s.length - 1) = [c])) ∧ H' = H := by
    refine call_code tab39 (by simp only [c39, go_sem, List.reduceReplicate, Nat.reduceAdd, Nat.reduceSub]; exact rfl) ?_
    simp only [c39]
    refine stp trivial ?_
    have hcl := hasSuffix42_ok (lf := lf) (n := n) (H := H) (c := c) hs hlen (by omega)
    refine kst trivial hcl ?_
    refine stp trivial ?_
    refine ret1 trivial ?_
    exact (⟨rfl, rfl⟩)
  obtain ⟨v, H', h, rfl, rfl⟩ := key
  exact h
theorem indexNil_ok {x : List Nat} (hn : 1 ≤ n) (hlf : 1 ≤ lf) : callS tabT lf n 190 [.nils, .str x] H = some (.int .i64 (-1), H) := by
  obtain ⟨n, rfl⟩ : ∃ m, n = m + 1 := ⟨n - 1, by omega⟩
  have key : ∃ v H', callS tabT lf (n + 1) 190 [.nils, .str x] H = some (v, H') ∧ v = .int .i64 (-1) ∧ H' = H := by
    refine call_code tab190 (by simp only [c190, go_sem, List.reduceReplicate, Nat.reduceAdd, Nat.reduceSub]; exact rfl) ?_
    simp only [c190]
    refine stp trivial ?_
    refine EC_loop1 (by omega) ?_
    have d : decide (((0 : Nat) : Int) < 0) = false := by decide
    refine stp trivial ?_
    refine cstE @d ?_
    refine stp trivial ?_
    refine ret1 trivial ?_
    exact (⟨rfl, rfl⟩)
  obtain ⟨v, H', h, rfl, rfl⟩ := key
  exact h
theorem containsNil_ok {x : List Nat} (hn : 2 ≤ n) (hlf : 1 ≤ lf) : callS tabT lf n 118 [.nils, .str x] H = some (.bool false, H) := by
  obtain ⟨n, rfl⟩ : ∃ m, n = m + 1 := ⟨n - 1, by omega⟩
  have key : ∃ v H', callS tabT lf (n + 1) 118 [.nils, .str x] H = some (v, H') ∧ v = .bool false ∧ H' = H := by
    refine call_code tab118 (by simp only [c118, go_sem, List.reduceReplicate, Nat.reduceAdd, Nat.reduceSub]; exact rfl) ?_
    simp only [c118]
    refine stp trivial ?_
    have hcl := indexNil_ok (lf := lf) (n := n) (H := H) (x := x) (by omega) hlf
    refine kst trivial hcl ?_
    have d : decide ((-1 : Int) ≥ ((0 : Nat) : Int)) = false := by decide
    refine stp @d ?_
    refine ret1 @d ?_
    exact (⟨rfl, rfl⟩)
  obtain ⟨v, H', h, rfl, rfl⟩ := key
  exact h
theorem Sl.at {B0 e z : Nat} {H : Heap} {v : SV} {L : List (List SV)} {i : Nat} {x : List SV} (h : Sl B0 e z H v L) (hi : L[i]? = some x) : ∃ b, B0 ≤ b ∧ b < H.next ∧ v = .slice b 0 L.length none z ∧ H.get b = some (.row L.flatten e false false 0) := by
  rcases h with ⟨rfl, rfl⟩ | ⟨_, b, h1, h2, h3, h4⟩
  · simp at hi
  · exact ⟨b, h1, h2, h3, h4⟩
end
end Go.Sh
end
section
namespace Go.Sh
set_option maxRecDepth 10000
set_option linter.all false
def menu : List (List Nat) := [[97], [98], [99], [97], [], [61, 61, 32, 115, 32, 61, 61], [61, 61, 32, 116, 32, 61, 61], [61, 61, 61, 32, 115, 32, 61, 61, 61], [61, 61, 32, 115, 32, 61, 61]]
theorem textL_nil (ls : List (List Nat)) (l : List Nat) : textL ls [] ++ l ++ [10] = textL (ls ++ [l]) [] := by simp [textL]
theorem textL_end (ls : List (List Nat)) (l : List Nat) : textL ls [] ++ l = textL ls l := by simp [textL]
theorem TapeStep.ext {H0 H H' : Heap} {kb : Nat} (h : TapeStep H H' kb) (hE : Ext H0 H) (hk : H0.next ≤ kb) : Ext H0 H' :=
  ⟨by rw [h.1]; exact hE.1, fun b hb => by rw [h.2.1 b (by omega)]; exact hE.2 b hb⟩
theorem TapeOK.push {H : Heap} {kb : Nat} (h : TapeOK H kb) (hk : kb < H.next) (o : SObj) : TapeOK (H.push o) kb := by
  obtain ⟨lv, at_, h1, h2, h3⟩ := h
  refine ⟨lv, at_, by rw [get_push_old hk]; exact h1, h2, ?_⟩
  rcases h3 with h | ⟨lb, lo, len, cap, cs, e, ex, ro, frz, ha, hb, hbn, hc, hd⟩
  · exact .inl h
  · exact .inr ⟨lb, lo, len, cap, cs, e, ex, ro, frz, ha, hb, Nat.lt_succ_of_lt hbn, by rw [get_push_old hbn]; exact hc, hd⟩
theorem textL_len {k : Nat} : ∀ {ls : List (List Nat)} {last : List Nat}, (∀ l ∈ ls, l.length ≤ k) → (textL ls last).length ≤ (k + 1) * ls.length + last.length
  | [], last, _ => by simp [textL]
  | l :: ls, last, h => by
    have ih := textL_len (ls := ls) (last := last) fun x hx => h x (List.mem_cons_of_mem _ hx)
    have := h l (List.mem_cons_self ..)
    rw [textL_cons, List.length_append, List.length_cons, List.length_cons, Nat.mul_add]
    omega
theorem menu_len : ∀ l ∈ menu, l.length ≤ 9 := by decide
@[reducible] def I5 (kb : Nat) (H0 : Heap) (m : Nat) (ts : T) (D : DS) (H' : Heap) : Prop :=
  D = [] ∧ Ext H0 H' ∧ TapeOK H' kb ∧ kb < H'.next ∧ ∃ (i : Nat) (ls : List (List Nat)), m = 10 - i ∧ i ≤ 9 ∧ ls.length = i ∧ (∀ l ∈ ls, l ∈ menu) ∧
    ∃ z : Nat → SV, ts = ((.ptr kb 0) :: (.int .i64 10) :: z 2 :: z 3 :: z 4 :: (.str (textL ls [])) :: (.int .i64 (i : Int)) :: z 7 :: z 8 :: z 9 :: z 10 :: z 11 :: z 12 :: z 13 :: z 14 :: z 15 :: z 16 :: z 17 :: z 18 :: z 19 :: z 20 :: z 21 :: z 22 :: z 23 :: z 24 :: z 25 :: [] : T) ∧ (True)
section
variable {lf n : Nat} {H : Heap}
theorem lines_ok {kb : Nat} {H0 : Heap} (hE0 : Ext H0 H) (hk : H0.next ≤ kb) (hkn : kb < H.next) (hT : TapeOK H kb) (hn : 4 ≤ n) (hlf : 13 < lf) :
    ∃ (ls : List (List Nat)) (last : List Nat) (H' : Heap), callS tabT lf n 5 [.ptr kb 0, .int .i64 10] H = some (.str (textL ls last), H') ∧ Ext H0 H' ∧ ls.length ≤ 9 ∧ (∀ l ∈ ls, l ∈ menu) ∧ (last = [] ∨ last = [101, 110, 100]) ∧ TapeOK H' kb ∧ kb < H'.next := by
  obtain ⟨n, rfl⟩ : ∃ m, n = m + 1 := ⟨n - 1, by omega⟩
  have key : ∃ v H', callS tabT lf (n + 1) 5 [.ptr kb 0, .int .i64 10] H = some (v, H') ∧ ∃ ls last, v = .str (textL ls last) ∧ Ext H0 H' ∧ ls.length ≤ 9 ∧ (∀ l ∈ ls, l ∈ menu) ∧ (last = [] ∨ last = [101, 110, 100]) ∧ TapeOK H' kb ∧ kb < H'.next := by
    refine call_code tab5 (by simp only [c5, go_sem, List.reduceReplicate, Nat.reduceAdd, Nat.reduceSub]; exact rfl) ?_
    simp only [c5]
    refine stp trivial ?_
    refine EC_loop (I := I5 kb H0) ?_ 10 ?_ (by omega)
    · rintro m ts D H1 ⟨rfl, hE, hT1, hk1, i, ls, rfl, hi, hls, hmem, ⟨z, rfl, -⟩⟩
      have htl := textL_len (last := []) fun l hl => menu_len l (hmem l hl)
      rw [List.length_nil] at htl
      obtain ⟨r, H2, hc, hr0, hr1, hst⟩ := next_ok (lf := lf) (n := n) hT1 (m := 10) (by omega) (by omega) (by omega)
      have hE2 := hst.ext hE hk
      have hk2 : kb < H2.next := by rw [hst.1]; exact hk1
      refine stp trivial ?_
      refine kst trivial hc ?_
      refine stp trivial ?_
      refine cst trivial (fun hc => ?_) (fun hc => ?_) <;> try simp only [decide_eq_true_eq, decide_eq_false_iff_not, not_true_eq_false, not_false_eq_true, Int.not_lt, Int.not_le, ge_iff_le, gt_iff_lt] at hc
      · have hmap : (menu.map SV.str) = [.str [97], .str [98], .str [99], .str [97], .str [], .str [61, 61, 32, 115, 32, 61, 61], .str [61, 61, 32, 116, 32, 61, 61], .str [61, 61, 61, 32, 115, 32, 61, 61, 61], .str [61, 61, 32, 115, 32, 61, 61]] := rfl
        obtain ⟨H3, hH3⟩ : ∃ H3, H2.push (.row (menu.map SV.str) 9 true false 0) = H3 := ⟨_, rfl⟩
        have hT3 : TapeOK H3 kb := by rw [← hH3]; exact hst.2.2.push hk2 _
        have hE3 : Ext H0 H3 := by rw [← hH3]; exact hE2.push _
        have hg3 : H3.get H2.next = some (.row (menu.map SV.str) 9 true false 0) := by rw [← hH3]; exact get_push_self _
        have hn3 : H3.next = H2.next + 1 := by rw [← hH3]; rfl
        obtain ⟨l, H4, hc4, hl, hst4⟩ := of_ok (lf := lf) (n := n) hT3 (c := some 9) hg3 (by omega) (by simp [menu]) (by simp [menu]) (by omega)
        rw [hmap] at hH3
        have hml : menu.length = 9 := rfl
        rw [hml] at hc4
        have hll := menu_len l hl
        refine stp @hH3 ?_
        refine kst trivial hc4 ?_
        refine stp @textL_nil ?_
        refine loopR_normal (10 - (i + 1)) (by omega) ⟨rfl, hst4.ext hE3 hk, hst4.2.2, by rw [hst4.1]; omega, i + 1, ls ++ [l], rfl, by omega, by simp [hls], ?_, ?_⟩
        · intro x hx
          rcases List.mem_append.1 hx with h | h
          · exact hmem x h
          · simp at h
            subst h
            exact hl
        · exact (frame_in (by rfl) (trivial))
      · refine stp trivial ?_
        obtain ⟨r2, H3, hc3, hr2, hr3, hst3⟩ := next_ok (lf := lf) (n := n) hst.2.2 (m := ((4 : Nat) : Int)) (by omega) (by omega) (by omega)
        refine kst trivial hc3 ?_
        refine stp trivial ?_
        refine cst trivial (fun hc => ?_) (fun hc => ?_) <;> try simp only [decide_eq_true_eq, decide_eq_false_iff_not, not_true_eq_false, not_false_eq_true, Int.not_lt, Int.not_le, ge_iff_le, gt_iff_lt] at hc
        · refine stp @textL_end ?_
          refine ret1 @textL_end ?_
          exact (⟨ls, [101, 110, 100], rfl, hst3.ext hE2 hk, by omega, hmem, .inr rfl, hst3.2.2, by rw [hst3.1]; exact hk2⟩)
        · refine stp trivial ?_
          refine ret1 trivial ?_
          exact (⟨ls, [], rfl, hst3.ext hE2 hk, by omega, hmem, .inl rfl, hst3.2.2, by rw [hst3.1]; exact hk2⟩)
    · refine ⟨rfl, hE0, hT, hkn, 0, [], rfl, by omega, rfl, by simp, ?_⟩
      exact (frame_in (by rfl) (trivial))
  obtain ⟨v, H', h, ls, last, rfl, hr⟩ := key
  exact ⟨ls, last, H', h, hr⟩
end
end Go.Sh
end
