/-
  Slices that are read; whether a list has a text; a text put into a sorted list. (frame style z)
  Parts of slices, appended; a text put into a sorted list. (frame style z)
  A text put into a sorted list. (frame style z)
-/
import Derived.Test.YtnhogklhegmjhaaGreatDoorShC1
import Derived.Test.YtnhogklhegmjhaaGreatDoorShC3
set_option linter.all false
section
namespace Go.Sh
set_option maxRecDepth 10000
set_option linter.all false
def RSl (H : Heap) (v : SV) (z : Nat) (L : List (List SV)) : Prop :=
  AllL z L ∧ ((L = [] ∧ v = .nils) ∨ ∃ b c e ex ro frz, v = .slice b 0 L.length c z ∧ (∀ k, c = some k → k = L.length) ∧ b < H.next ∧ H.get b = some (.row L.flatten e ex ro frz))
theorem RSl.keep {H H' : Heap} {v : SV} {z : Nat} {L : List (List SV)} (h : RSl H v z L) (hE : Ext H H') : RSl H' v z L := by
  refine ⟨h.1, ?_⟩
  rcases h.2 with h | ⟨b, c, e, ex, ro, frz, h1, hc, h2, h3⟩
  · exact .inl h
  · exact .inr ⟨b, c, e, ex, ro, frz, h1, hc, Nat.lt_of_lt_of_le h2 hE.1, (hE.2 b h2).trans h3⟩
theorem RSl.froz {H : Heap} {v : SV} {z : Nat} {L : List (List SV)} (h : RSl H v z L) : RSl H.froz v z L := by
  refine ⟨h.1, ?_⟩
  rcases h.2 with h | ⟨b, c, e, ex, ro, frz, h1, hc, h2, h3⟩
  · exact .inl h
  · exact .inr ⟨b, c, e, ex, true, frz, h1, hc, h2, Heap.froz_row h3⟩
theorem RSl.lenl {H : Heap} {v : SV} {z : Nat} {L : List (List SV)} (h : RSl H v z L) : lenlS v = some (.int .i64 (L.length : Int)) := by
  rcases h.2 with ⟨rfl, rfl⟩ | ⟨b, c, e, ex, ro, frz, rfl, _⟩ <;> rfl
theorem RSl.one {H : Heap} {v : SV} {z : Nat} {L : List (List SV)} (h : RSl H v z L) : SV.one v = true := by
  rcases h.2 with ⟨_, rfl⟩ | ⟨b, c, e, ex, ro, frz, rfl, _⟩ <;> rfl
theorem RSl.cells {H : Heap} {v : SV} {z : Nat} {L : List (List SV)} (h : RSl H v z L) : v.cells = [v] := by
  rcases h.2 with ⟨_, rfl⟩ | ⟨b, c, e, ex, ro, frz, rfl, _⟩ <;> rfl
theorem RSl.bq {H : Heap} {v : SV} {z : Nat} {L : List (List SV)} (h : RSl H v z L) : beqS v v = true := by
  rcases h.2 with ⟨_, rfl⟩ | ⟨b, c, e, ex, ro, frz, rfl, _⟩
  · rfl
  · exact bq_slice _ _ _ _ _
theorem RSl.at_ {H : Heap} {v : SV} {z : Nat} {L : List (List SV)} (h : RSl H v z L) {i : Nat} {x : List SV} (hi : L[i]? = some x) :
    ∃ b o, iadS z v (.int .i64 (i : Int)) = some (.ptr b o) ∧ b < H.next ∧ rowL (H.get b) o z = some x ∧ x.length = z := by
  have hlt := (List.getElem?_eq_some_iff.1 hi).1
  rcases h.2 with ⟨rfl, rfl⟩ | ⟨b, c, e, ex, ro, frz, rfl, _, h2, h3⟩
  · simp at hlt
  · refine ⟨b, 0 + ((i : Int).toNat) * z, iad_slice (by omega) (by omega), h2, ?_, h.1 x (List.mem_of_getElem? hi)⟩
    rw [h3, Nat.zero_add, show ((i : Int)).toNat = i from rfl]
    exact rowL_at h.1 hi
def strL (L : List (List Nat)) : List (List SV) := L.map fun s => [.str s]
theorem strL_len (L : List (List Nat)) : (strL L).length = L.length := by simp [strL]
theorem strL_flat (L : List (List Nat)) : (strL L).flatten = L.map SV.str := by
  induction L with
  | nil => rfl
  | cons x L ih => simp only [strL, List.map_cons, List.flatten_cons] at ih ⊢; rw [ih]; rfl
theorem strL_at {L : List (List Nat)} {i : Nat} {s : List Nat} (h : L[i]? = some s) : (strL L)[i]? = some [.str s] := by simp [strL, h]
theorem strL_all (L : List (List Nat)) : AllL 1 (strL L) := by
  intro x hx
  obtain ⟨s, _, rfl⟩ := List.mem_map.1 hx
  rfl
theorem tab87 : tabT 87 = some (.code c87) := by kernel_rfl
theorem tab44 : tabT 44 = some (.code c44) := by kernel_rfl
section
variable {lf n : Nat} {H : Heap}
theorem succ_w {k : Nat} (h : k < 1000000) : IntKind.wrap .i64 ((k : Int) + ((1 : Nat) : Int)) = ((k + 1 : Nat) : Int) := by rw [wrap_i64 (by omega) (by omega)]; omega
@[reducible] def I87 (H0 : Heap) (v : SV) (L : List (List Nat)) (s : List Nat) (m : Nat) (ts : T) (D : DS) (H' : Heap) : Prop :=
  D = [] ∧ H' = H0 ∧ ∃ k : Nat, m = L.length - k ∧ k ≤ L.length ∧ ∃ z : Nat → SV, ts = ((v) :: (.str s) :: z 2 :: z 3 :: z 4 :: (.int .i64 (k : Int)) :: z 6 :: z 7 :: z 8 :: z 9 :: z 10 :: z 11 :: z 12 :: z 13 :: z 14 :: z 15 :: z 16 :: z 17 :: [] : T) ∧ (True)
theorem has_ok {v : SV} {L : List (List Nat)} {s : List Nat} (hv : RSl H v 1 (strL L)) (hl : L.length < 1000) (hn : 1 ≤ n) (hlf : 1000 < lf) : ∃ b, callS tabT lf n 87 [v, .str s] H = some (.bool b, H) := by
  obtain ⟨n, rfl⟩ : ∃ m, n = m + 1 := ⟨n - 1, by omega⟩
  have key : ∃ w H', callS tabT lf (n + 1) 87 [v, .str s] H = some (w, H') ∧ ∃ b, w = .bool b ∧ H' = H := by
    have hlen := hv.lenl
    rw [strL_len] at hlen
    refine call_code tab87 (by simp only [c87, go_sem, List.reduceReplicate, Nat.reduceAdd, Nat.reduceSub]; exact rfl) ?_
    simp only [c87]
    refine stp trivial ?_
    refine EC_loop (I := I87 H v L s) ?_ L.length ?_ (by omega)
    · rintro m ts D H' ⟨rfl, rfl, k, rfl, hk, ⟨z, rfl, -⟩⟩
      refine stp @hlen ?_
      refine cst trivial (fun hc => ?_) (fun hc => ?_) <;> try simp only [decide_eq_true_eq, decide_eq_false_iff_not, not_true_eq_false, not_false_eq_true, Int.not_lt, Int.not_le, ge_iff_le, gt_iff_lt] at hc
      · have hkl : k < L.length := by omega
        obtain ⟨b, o, hi, hb, hrow, _⟩ := hv.at_ (strL_at (List.getElem?_eq_getElem hkl))
        refine stp (And.intro @hi @hrow) ?_
        refine cst trivial (fun hc => ?_) (fun hc => ?_) <;> try simp only [decide_eq_true_eq, decide_eq_false_iff_not, not_true_eq_false, not_false_eq_true, Int.not_lt, Int.not_le, ge_iff_le, gt_iff_lt] at hc
        · refine stp trivial ?_
          refine ret1 trivial ?_
          exact (⟨true, rfl, rfl⟩)
        · refine stp (succ_w (k := k) (by omega)) ?_
          refine loopR_normal (L.length - (k + 1)) (by omega) ⟨rfl, rfl, k + 1, rfl, by omega, (frame_in (by rfl) (trivial))⟩
      · refine stp trivial ?_
        refine ret1 trivial ?_
        exact (⟨false, rfl, rfl⟩)
    · exact ⟨rfl, rfl, 0, rfl, by omega, (frame_in (by rfl) (trivial))⟩
  obtain ⟨w, H', h, b, rfl, rfl⟩ := key
  exact ⟨b, h⟩
theorem isname_ok {s : List Nat} (hs : s ∈ userL) (hn : 1 ≤ n) : callS tabT lf n 42 [.str s] H = some (.bool !s.isEmpty, H) :=
  nat_fact tab42n rfl (said_all k_isname (a := s) hs) hn H
@[reducible] def I44 (H0 H1 : Heap) (user : List Nat) (lv : SV) (gc : SV) (ms : List (List Nat)) (m : Nat) (ts : T) (D : DS) (H' : Heap) : Prop :=
  D = [] ∧ H' = H1 ∧ ∃ k : Nat, m = ms.length - k ∧ k ≤ ms.length ∧ ∃ z : Nat → SV, ts = ((gc) :: (.str user) :: (lv) :: (.ptr H0.next 0) :: z 4 :: z 5 :: z 6 :: (.int .i64 (k : Int)) :: z 8 :: z 9 :: z 10 :: z 11 :: z 12 :: z 13 :: z 14 :: z 15 :: z 16 :: z 17 :: z 18 :: z 19 :: z 20 :: z 21 :: z 22 :: z 23 :: z 24 :: z 25 :: z 26 :: z 27 :: z 28 :: z 29 :: z 30 :: z 31 :: z 32 :: z 33 :: z 34 :: z 35 :: z 36 :: z 37 :: z 38 :: z 39 :: z 40 :: z 41 :: z 42 :: z 43 :: [] : T) ∧ (True)
theorem belongs_ok {msv lv : SV} {nm user : List Nat} {ms L : List (List Nat)} (hm : RSl H msv 1 (strL ms)) (hml : ms.length < 100) (hu : user ∈ userL) (hv : RSl H lv 1 (strL L)) (hl : L.length < 1000) (hn : 2 ≤ n) (hlf : 1000 < lf) :
    ∃ b H', callS tabT lf n 44 [.agg [.str nm, msv], .str user, lv] H = some (.bool b, H') ∧ Ext H H' := by
  obtain ⟨n, rfl⟩ : ∃ m, n = m + 1 := ⟨n - 1, by omega⟩
  have key : ∃ w H', callS tabT lf (n + 1) 44 [.agg [.str nm, msv], .str user, lv] H = some (w, H') ∧ ∃ b, w = .bool b ∧ Ext H H' := by
    have hlen := hm.lenl
    rw [strL_len] at hlen
    refine call_code tab44 (by simp only [c44, go_sem, List.reduceReplicate, Nat.reduceAdd, Nat.reduceSub]; exact rfl) ?_
    simp only [c44]
    refine stp trivial ?_
    obtain ⟨H1, hH1⟩ : ∃ H1, H.push (.row [.str nm, msv] 109 true false 0) = H1 := ⟨_, rfl⟩
    have hE : Ext H H1 := by rw [← hH1]; exact (Ext.refl H).push _
    have hr : H1.get H.next = some (.row [.str nm, msv] 109 true false 0) := by rw [← hH1]; exact get_push_self _
    rw [hH1]
    have hm1 := hm.keep hE
    have hv1 := hv.keep hE
    refine EC_loop (I := I44 H H1 user lv (.agg [.str nm, msv]) ms) ?_ ms.length ?_ (by omega)
    · rintro m ts D H' ⟨rfl, rfl, k, rfl, hk, ⟨z, rfl, -⟩⟩
      refine stp (And.intro @hr @hlen) ?_
      refine cst trivial (fun hc => ?_) (fun hc => ?_) <;> try simp only [decide_eq_true_eq, decide_eq_false_iff_not, not_true_eq_false, not_false_eq_true, Int.not_lt, Int.not_le, ge_iff_le, gt_iff_lt] at hc
      · have hkl : k < ms.length := by omega
        obtain ⟨b, o, hi, hb, hrow, _⟩ := hm1.at_ (strL_at (List.getElem?_eq_getElem hkl))
        generalize ms[k] = mem at hrow
        have hname := isname_ok (lf := lf) (n := n) (H := H') hu (by omega)
        refine stp (And.intro @hr (And.intro @hi @hrow)) ?_
        refine kst trivial hname ?_
        cases hue : user.isEmpty with
        | true =>
          refine stp (And.intro @hue @Bool.not_true) ?_
          cases mem with
          | nil =>
            have d0 : decide (((([] : List Nat).length : Nat) : Int) > ((0 : Nat) : Int)) = false := rfl
            have d1 : decide (((0 : Nat) : Int) > ((0 : Nat) : Int)) = false := rfl
            refine stp (And.intro @d0 @d1) ?_
            refine cstE trivial ?_
            refine stp (succ_w (k := k) (by omega)) ?_
            refine loopR_normal (ms.length - (k + 1)) (by omega) ⟨rfl, rfl, k + 1, rfl, by omega, (frame_in (by rfl) (trivial))⟩
          | cons c r =>
            have d0 : decide ((((c :: r).length : Nat) : Int) > ((0 : Nat) : Int)) = true := by simp
            have hc : ixsS (.str (c :: r)) (.int .i64 ((0 : Nat) : Int)) = some (.int .u8 (c : Int)) := by rw [ixs_any (by omega)]; rfl
            have d0' : ∀ q : Nat, decide (((q + 1 : Nat) : Int) > ((0 : Nat) : Int)) = true := fun q => by simp
            refine stp (And.intro @d0 (And.intro @d0' @hc)) ?_
            cases h64 : decide ((c : Int) = ((64 : Nat) : Int)) with
            | false =>
              refine stp @h64 ?_
              refine cstE trivial ?_
              refine stp (succ_w (k := k) (by omega)) ?_
              refine loopR_normal (ms.length - (k + 1)) (by omega) ⟨rfl, rfl, k + 1, rfl, by omega, (frame_in (by rfl) (trivial))⟩
            | true =>
              obtain ⟨hb, hhas⟩ := has_ok (lf := lf) (n := n) (s := List.take (r.length + 1 - 1) r) hv1 hl (by omega) hlf
              refine stp @h64 ?_
              refine kst trivial hhas ?_
              refine stp trivial ?_
              cases hb with
              | true =>
                refine cstT trivial ?_
                refine stp trivial ?_
                refine ret1 trivial ?_
                exact (⟨true, rfl, hE⟩)
              | false =>
                refine cstE trivial ?_
                refine stp (succ_w (k := k) (by omega)) ?_
                refine loopR_normal (ms.length - (k + 1)) (by omega) ⟨rfl, rfl, k + 1, rfl, by omega, (frame_in (by rfl) (trivial))⟩
        | false =>
          refine stp (And.intro @hue @Bool.not_false) ?_
          cases hmu : decide (mem = user) with
          | true =>
            refine stp @hmu ?_
            refine cstT trivial ?_
            refine stp trivial ?_
            refine ret1 trivial ?_
            exact (⟨true, rfl, hE⟩)
          | false =>
            refine stp @hmu ?_
            cases mem with
            | nil =>
              have d0 : decide (((([] : List Nat).length : Nat) : Int) > ((0 : Nat) : Int)) = false := rfl
              have d1 : decide (((0 : Nat) : Int) > ((0 : Nat) : Int)) = false := rfl
              refine stp (And.intro @d0 @d1) ?_
              refine cstE trivial ?_
              refine stp (succ_w (k := k) (by omega)) ?_
              refine loopR_normal (ms.length - (k + 1)) (by omega) ⟨rfl, rfl, k + 1, rfl, by omega, (frame_in (by rfl) (trivial))⟩
            | cons c r =>
              have d0 : decide ((((c :: r).length : Nat) : Int) > ((0 : Nat) : Int)) = true := by simp
              have hc : ixsS (.str (c :: r)) (.int .i64 ((0 : Nat) : Int)) = some (.int .u8 (c : Int)) := by rw [ixs_any (by omega)]; rfl
              have d0' : ∀ q : Nat, decide (((q + 1 : Nat) : Int) > ((0 : Nat) : Int)) = true := fun q => by simp
              refine stp (And.intro @d0 (And.intro @d0' @hc)) ?_
              cases h64 : decide ((c : Int) = ((64 : Nat) : Int)) with
              | false =>
                refine stp @h64 ?_
                refine cstE trivial ?_
                refine stp (succ_w (k := k) (by omega)) ?_
                refine loopR_normal (ms.length - (k + 1)) (by omega) ⟨rfl, rfl, k + 1, rfl, by omega, (frame_in (by rfl) (trivial))⟩
              | true =>
                obtain ⟨hb, hhas⟩ := has_ok (lf := lf) (n := n) (s := List.take (r.length + 1 - 1) r) hv1 hl (by omega) hlf
                refine stp @h64 ?_
                refine kst trivial hhas ?_
                refine stp trivial ?_
                cases hb with
                | true =>
                  refine cstT trivial ?_
                  refine stp trivial ?_
                  refine ret1 trivial ?_
                  exact (⟨true, rfl, hE⟩)
                | false =>
                  refine cstE trivial ?_
                  refine stp (succ_w (k := k) (by omega)) ?_
                  refine loopR_normal (ms.length - (k + 1)) (by omega) ⟨rfl, rfl, k + 1, rfl, by omega, (frame_in (by rfl) (trivial))⟩
      · refine stp trivial ?_
        refine ret1 trivial ?_
        exact (⟨false, rfl, hE⟩)
    · exact ⟨rfl, rfl, 0, rfl, by omega, (frame_in (by rfl) (trivial))⟩
  obtain ⟨w, H', h, b, rfl, h1⟩ := key
  exact ⟨b, H', h, h1⟩
end
end Go.Sh
end
section
namespace Go.Sh
set_option maxRecDepth 10000
set_option linter.all false
def Srx (H : Heap) (x : SV) (z : Nat) (K : List (List SV)) : Prop := AllL z K ∧ ∃ cs, srcS H false z x = some (K.length, cs) ∧ (K ≠ [] → cs = K.flatten)
theorem flatten_sub {z : Nat} : ∀ {L : List (List SV)} (i m : Nat), AllL z L → (L.flatten.drop (i * z)).take (m * z) = ((L.drop i).take m).flatten
  | [], i, m, _ => by simp
  | x :: L, 0, 0, _ => by simp
  | x :: L, 0, m + 1, h => by
    have hx := h x (List.mem_cons_self ..)
    have ih := flatten_sub (L := L) 0 m fun y hy => h y (List.mem_cons_of_mem _ hy)
    simp only [Nat.zero_mul, List.drop_zero] at ih ⊢
    rw [List.take_succ_cons, List.flatten_cons, List.flatten_cons, Nat.add_mul, Nat.one_mul, List.take_append, hx, List.take_of_length_le (by omega), show m * z + z - z = m * z by omega, ih]
  | x :: L, i + 1, m, h => by
    have hx := h x (List.mem_cons_self ..)
    have ih := flatten_sub (L := L) i m fun y hy => h y (List.mem_cons_of_mem _ hy)
    rw [List.drop_succ_cons, ← ih, List.flatten_cons, Nat.add_mul, Nat.one_mul, List.drop_append, hx, List.drop_of_length_le (by omega), show i * z + z - z = i * z by omega, List.nil_append]
theorem AllL.sub {z : Nat} {L : List (List SV)} (h : AllL z L) (i m : Nat) : AllL z ((L.drop i).take m) := fun x hx => h x (List.mem_of_mem_drop (List.mem_of_mem_take hx))
theorem AllL.app {z : Nat} {L K : List (List SV)} (h : AllL z L) (k : AllL z K) : AllL z (L ++ K) := fun x hx => (List.mem_append.1 hx).elim (h x) (k x)
theorem src_slice {H : Heap} {b i m z : Nat} {c : Option Nat} {L : List (List SV)} {e : TypeId} {ex ro : Bool} {frz : Nat} (hL : AllL z L) (hb : H.get b = some (.row L.flatten e ex ro frz)) (hm : i + m ≤ L.length) : Srx H (.slice b (i * z) m c z) z ((L.drop i).take m) := by
  refine ⟨hL.sub i m, ?_⟩
  have hlen : ((L.drop i).take m).length = m := by simp; omega
  cases m with
  | zero => exact ⟨[], by simp [srcS], fun h => by simp at h⟩
  | succ m =>
    refine ⟨((L.drop i).take (m + 1)).flatten, ?_, fun _ => rfl⟩
    rw [hlen]
    show (match Nat.beq z z with | true => (match loadC H b (i * z) ((m + 1) * z) with | some cs => some (m + 1, cs) | none => none) | false => none) = _
    have h1 : i * z + (m + 1) * z ≤ L.flatten.length := by rw [flatten_len hL, ← Nat.add_mul]; exact Nat.mul_le_mul_right z hm
    rw [beq_self, loadC_eq, hb, rowL_row h1, flatten_sub i (m + 1) hL]
theorem RSl.hi {H : Heap} {v : SV} {z : Nat} {L : List (List SV)} (h : RSl H v z L) {k : Nat} (hk : k ≤ L.length) : ∃ w, slvS z none (some (.int .i64 (k : Int))) v = some w ∧ Srx H w z (L.take k) ∧ ∀ b o n c z', w = .slice b o n c z' → b < H.next := by
  rcases h.2 with ⟨rfl, rfl⟩ | ⟨b, c, e, ex, ro, frz, rfl, hc, h2, h3⟩
  · have : k = 0 := by simpa using hk
    subst this
    exact ⟨.nils, rfl, ⟨h.1.sub 0 0, [], rfl, fun h => absurd rfl h⟩, fun _ _ _ _ _ h => (by cases h)⟩
  · have hlim : limS c L.length = L.length := by
      cases c with
      | none => rfl
      | some q => exact hc q rfl
    refine ⟨_, slv_hi (by omega) (by rw [hlim]; omega), ?_, fun b' o n c' z' e => by
      unfold resl at e
      (repeat' split at e) <;> cases e <;> exact h2⟩
    have hs := fun c' => src_slice (c := c') (i := 0) (m := k) h.1 h3 (by omega)
    rw [List.drop_zero] at hs
    cases c with
    | none => simpa [resl] using hs none
    | some q =>
      have hq := hc q rfl
      subst hq
      by_cases hz : L.length = 0
      · have h0 : L = [] := by simpa using hz
        subst h0
        have : k = 0 := by simpa using hk
        subst this
        simpa [resl] using hs (some 0)
      · have : Nat.beq L.length 0 = false := beq_false hz
        simpa [resl, this] using hs (some L.length)
theorem RSl.lo {H : Heap} {v : SV} {z : Nat} {L : List (List SV)} (h : RSl H v z L) {k : Nat} (hk : k ≤ L.length) : ∃ w, slvS z (some (.int .i64 (k : Int))) none v = some w ∧ Srx H w z (L.drop k) ∧ ∀ b o n c z', w = .slice b o n c z' → b < H.next := by
  rcases h.2 with ⟨rfl, rfl⟩ | ⟨b, c, e, ex, ro, frz, rfl, hc, h2, h3⟩
  · have : k = 0 := by simpa using hk
    subst this
    exact ⟨.nils, rfl, ⟨h.1.sub 0 0, [], rfl, fun h => absurd rfl h⟩, fun _ _ _ _ _ h => (by cases h)⟩
  · refine ⟨_, slv_lo (by omega) (by omega), ?_, fun b' o n c' z' e => by
      unfold resl at e
      (repeat' split at e) <;> cases e <;> exact h2⟩
    have hs := fun c' => src_slice (c := c') (i := k) (m := L.length - k) h.1 h3 (by omega)
    rw [List.take_of_length_le (by simp)] at hs
    cases c with
    | none => simpa [resl] using hs none
    | some q =>
      have hq := hc q rfl
      subst hq
      cases hbq : Nat.beq L.length k with
      | false => simpa [resl, hbq] using hs (some (L.length - k))
      | true =>
        have hkk := Nat.eq_of_beq_eq_true hbq
        have hd : L.drop k = [] := by simp [hkk]
        rw [hd]
        refine ⟨fun x hx => (by cases hx), [], ?_, fun h => absurd rfl h⟩
        simp [resl, hbq, hkk, srcS]
theorem app_sl {H : Heap} {B0 e z bytes : Nat} {v x : SV} {L K : List (List SV)} (hS : Sl B0 e z H v L) (hL : AllL z L) (hx : Srx H x z K) (hone : K.flatten.all SV.one = true) (hB : B0 ≤ H.next)
    (h1 : (L.length + K.length) * bytes ≤ 35184372088832) (h2 : L.length + K.length ≤ 35184372088832) :
    ∃ v' H', appS H false e z bytes v x = some (v', H') ∧ Sl B0 e z H' v' (L ++ K) ∧ H.next ≤ H'.next ∧ (∀ k, k < B0 → H'.get k = H.get k) := by
  obtain ⟨hK, cs, hsrc, hcs⟩ := hx
  by_cases hK0 : K = []
  · subst hK0
    refine ⟨v, H, ?_, by rw [List.append_nil]; exact hS, Nat.le_refl _, fun _ _ => rfl⟩
    simp only [appS, hsrc, List.length_nil]
    rcases hS with ⟨_, rfl⟩ | ⟨_, b, _, _, rfl, _⟩ <;> rfl
  · have hK1 : K.length ≠ 0 := by simpa using hK0
    obtain ⟨n, hn⟩ : ∃ n, K.length = n + 1 := ⟨K.length - 1, by omega⟩
    have hcs := hcs hK0
    subst hcs
    rw [hn] at hsrc h1 h2
    have b1 : Nat.ble ((L.length + (n + 1)) * bytes) roomS = true := ble_true h1
    have b2 : Nat.ble (L.length + (n + 1)) roomS = true := ble_true h2
    rcases hS with ⟨rfl, rfl⟩ | ⟨hne, b, hb0, hbn, rfl, hb⟩
    · simp only [List.length_nil, Nat.zero_add] at b1 b2
      refine ⟨.slice H.next 0 (n + 1) none z, H.push (.row K.flatten e false false 0), ?_, .inr ⟨by simpa using hK0, H.next, hB, Nat.lt_succ_self _, by rw [List.nil_append, hn], by rw [List.nil_append]; exact get_push_self _⟩, Nat.le_succ _, fun k hk => get_push_old (by omega)⟩
      simp only [appS, hsrc, b1, b2, Bool.and_self]
    · have hload : loadC H b 0 (L.length * z) = some L.flatten := by
        rw [loadC_eq, hb, rowL_row (by rw [flatten_len hL]; omega), List.drop_zero, ← flatten_len hL, List.take_length]
      refine ⟨.slice H.next 0 (L.length + (n + 1)) none z, (H.put b .dead).push (.row (L.flatten ++ K.flatten) e false false 0), ?_, .inr ⟨by simp [hne], H.next, hB, Nat.lt_succ_self _, by rw [List.length_append, hn], by rw [List.flatten_append]; exact get_push_self (H := H.put b .dead) _⟩, Nat.le_succ _, fun k hk => ?_⟩
      · simp only [appS, hsrc, beq_self, b1, b2, Bool.and_self, hload, hb, hone]
        rw [ble_true (Nat.zero_le _)]
        rfl
      · rw [get_push_old (H := H.put b .dead) (show k < H.next by omega), get_put_other (by omega)]
theorem Sl.rsl {B0 e z : Nat} {H : Heap} {v : SV} {L : List (List SV)} (h : Sl B0 e z H v L) (hL : AllL z L) : RSl H v z L := by
  refine ⟨hL, ?_⟩
  rcases h with h | ⟨hne, b, hb0, hbn, rfl, hb⟩
  · exact .inl h
  · exact .inr ⟨b, none, e, false, false, 0, rfl, (fun k h => (by cases h)), hbn, hb⟩
theorem Sl.nil {B0 e z : Nat} {H : Heap} : Sl B0 e z H .nils [] := .inl ⟨rfl, rfl⟩
theorem src_lit {H : Heap} {b z : Nat} {x : List SV} {e : TypeId} {ex ro : Bool} {frz : Nat} (hx : x.length = z) (hb : H.get b = some (.row x e ex ro frz)) : Srx H (.slice b 0 1 (some 1) z) z [x] := by
  refine ⟨fun y hy => by rw [List.mem_singleton.1 hy]; exact hx, x, srcS_one hx hb, fun _ => by simp⟩
theorem Srx.keep {H H' : Heap} {x : SV} {z : Nat} {K : List (List SV)} (h : Srx H x z K) (hk : ∀ b o n c, x = .slice b o n c z → H'.get b = H.get b) : Srx H' x z K := by
  refine ⟨h.1, ?_⟩
  obtain ⟨cs, h1, h2⟩ := h.2
  refine ⟨cs, ?_, h2⟩
  rw [← h1]
  cases x with
  | slice b o n c z' =>
    cases n with
    | zero => rfl
    | succ n =>
      simp only [srcS]
      cases hz : Nat.beq z z' with
      | false => rfl
      | true =>
        have := Nat.eq_of_beq_eq_true hz
        subst this
        rw [loadC_eq, loadC_eq, hk b o (n + 1) c rfl]
  | _ => rfl
theorem op_slvH {ts : T} {H : Heap} (z : Nat) (h x : X) : evalOp (.slv z none (some h) none x) ts H = okS (slvS z none (some (h.ev ts)) (x.ev ts)) H := op_slv z none (some h) x
theorem op_slvL {ts : T} {H : Heap} (z : Nat) (l x : X) : evalOp (.slv z (some l) none none x) ts H = okS (slvS z (some (l.ev ts)) none (x.ev ts)) H := op_slv z (some l) none x
attribute [go_sem] op_slvH op_slvL op_app
end Go.Sh
end
section
namespace Go.Sh
set_option maxRecDepth 10000
set_option linter.all false
def posL (s : List Nat) : List (List Nat) → Nat
  | [] => 0
  | x :: L => match ltS x s with
    | true => posL s L + 1
    | false => 0
def putL (L : List (List Nat)) (s : List Nat) : List (List Nat) := if L[posL s L]? = some s then L else L.take (posL s L) ++ (s :: L.drop (posL s L))
theorem posL_le (s : List Nat) : ∀ L : List (List Nat), posL s L ≤ L.length
  | [] => Nat.le_refl _
  | x :: L => by
    have := posL_le s L
    simp only [posL]
    cases ltS x s <;> simp <;> omega
theorem posL_lt {s : List Nat} : ∀ {L : List (List Nat)} {k : Nat} {x : List Nat}, k < posL s L → L[k]? = some x → ltS x s = true
  | [], k, x, h, _ => by simp [posL] at h
  | y :: L, k, x, h, hx => by
    simp only [posL] at h
    cases hy : ltS y s with
    | false => rw [hy] at h; simp at h
    | true =>
      rw [hy] at h
      cases k with
      | zero => simp at hx; subst hx; exact hy
      | succ k => exact posL_lt (L := L) (k := k) (by simpa using h) (by simpa using hx)
theorem posL_at {s : List Nat} : ∀ {L : List (List Nat)} {x : List Nat}, L[posL s L]? = some x → ltS x s = false
  | [], x, h => by simp at h
  | y :: L, x, h => by
    cases hy : ltS y s with
    | false => simp [posL, hy] at h; subst h; exact hy
    | true => simp [posL, hy] at h; exact posL_at h
theorem bin_slss (a b : List Nat) : binS .lss (.str a) (.str b) = some (.bool (ltS a b)) := rfl
theorem bin_sgeq (a b : List Nat) : binS .geq (.str a) (.str b) = some (.bool (!ltS a b)) := rfl
attribute [go_sem] bin_slss bin_sgeq
theorem tab43 : tabT 43 = some (.code c43) := by kernel_rfl
section
variable {lf n : Nat} {H : Heap}
@[reducible] def I43 (H0 : Heap) (v : SV) (L : List (List Nat)) (s : List Nat) (m : Nat) (ts : T) (D : DS) (H' : Heap) : Prop :=
  D = [] ∧ H' = H0 ∧ ∃ k : Nat, m = posL s L - k ∧ k ≤ posL s L ∧ ∃ z : Nat → SV, ts = ((v) :: (.str s) :: z 2 :: z 3 :: z 4 :: (.int .i64 (k : Int)) :: z 6 :: z 7 :: z 8 :: z 9 :: z 10 :: z 11 :: z 12 :: z 13 :: z 14 :: z 15 :: z 16 :: z 17 :: z 18 :: z 19 :: z 20 :: z 21 :: z 22 :: z 23 :: z 24 :: z 25 :: z 26 :: z 27 :: z 28 :: z 29 :: z 30 :: z 31 :: z 32 :: z 33 :: z 34 :: z 35 :: z 36 :: z 37 :: z 38 :: z 39 :: z 40 :: z 41 :: z 42 :: z 43 :: [] : T) ∧ (True)
theorem strL_app (A B : List (List Nat)) : strL (A ++ B) = strL A ++ strL B := by simp [strL]
theorem strL_one (L : List (List Nat)) : ((strL L).flatten).all SV.one = true := by
  rw [strL_flat, List.all_eq_true]
  intro x hx
  obtain ⟨s, _, rfl⟩ := List.mem_map.1 hx
  rfl
theorem strL_take (L : List (List Nat)) (k : Nat) : (strL L).take k = strL (L.take k) := by simp [strL]
theorem strL_drop (L : List (List Nat)) (k : Nat) : (strL L).drop k = strL (L.drop k) := by simp [strL]
theorem put_tail {v : SV} {L : List (List Nat)} {s : List Nat} {k : Nat} {ts : T} (hv : RSl H v 1 (strL L)) (hl : L.length < 1000) (hk : k ≤ L.length) (hts : ∃ z : Nat → SV, ts = ((v) :: (.str s) :: z 2 :: z 3 :: z 4 :: (.int .i64 (k : Int)) :: z 6 :: z 7 :: z 8 :: z 9 :: z 10 :: z 11 :: z 12 :: z 13 :: z 14 :: z 15 :: z 16 :: z 17 :: z 18 :: z 19 :: z 20 :: z 21 :: z 22 :: z 23 :: z 24 :: z 25 :: z 26 :: z 27 :: z 28 :: z 29 :: z 30 :: z 31 :: z 32 :: z 33 :: z 34 :: z 35 :: z 36 :: z 37 :: z 38 :: z 39 :: z 40 :: z 41 :: z 42 :: z 43 :: [] : T) ∧ (True)) :
    EC (callS tabT lf n) lf (.dreg [(oy 33 0, .pure), (oy 34 5, .pure), (ox 35 (.slv 1 none (some (.t 34)) none (.t 33)), .pure), (ox 36 (.app false 9 1 16 (.c .nils) (.t 35)), .eff), (oy 37 1, .pure), (ox 38 (.bslice 9 1 1 [.str []] [(0, (1, .t 37))]), .hoist 0 1), (ox 39 (.app false 9 1 16 (.t 36) (.t 38)), .eff), (oy 40 0, .pure), (oy 41 5, .pure), (ox 42 (.slv 1 (some (.t 41)) none none (.t 40)), .pure), (ox 43 (.app false 9 1 16 (.t 39) (.t 42)), .eff), (oy 4 43, .pure)] false) ts [] H (seqR (callS tabT lf n) lf .ret (funR [.tmp 4] fun w H' => Ext H H' ∧ RSl H' w 1 (strL (L.take k ++ (s :: L.drop k))))) := by
  obtain ⟨z, rfl, -⟩ := hts
  obtain ⟨w1, hw1, hs1, hb1⟩ := hv.hi (k := k) (by rw [strL_len]; omega)
  obtain ⟨w2, hw2, hs2, hb2⟩ := hv.lo (k := k) (by rw [strL_len]; omega)
  rw [strL_take] at hs1
  rw [strL_drop] at hs2
  obtain ⟨H1, hH1⟩ : ∃ H1, H.push (.row [.str s] 9 true false 0) = H1 := ⟨_, rfl⟩
  have hE1 : Ext H H1 := by rw [← hH1]; exact (Ext.refl H).push _
  have hn1 : H1.next = H.next + 1 := by rw [← hH1]; rfl
  have hlit : H1.get H.next = some (.row [.str s] 9 true false 0) := by rw [← hH1]; exact get_push_self _
  have t1 : (L.take k).length ≤ L.length := by rw [List.length_take]; omega
  have t2 : (L.drop k).length ≤ L.length := by rw [List.length_drop]; omega
  obtain ⟨v1, H2, ha1, hS1, hn2, hk2⟩ := app_sl (H := H1) (B0 := H.next + 1) (e := 9) (z := 1) (bytes := 16) (L := []) (K := strL (L.take k)) Sl.nil (fun _ h => by cases h) (hs1.keep fun b o n c e => hE1.2 b (hb1 b o n c _ e)) (strL_one _) (by omega) (by rw [strL_len]; simp only [List.length_nil]; omega) (by rw [strL_len]; simp only [List.length_nil]; omega)
  have hlit2 : H2.get H.next = some (.row [.str s] 9 true false 0) := (hk2 _ (by omega)).trans hlit
  obtain ⟨v2, H3, ha2, hS2, hn3, hk3⟩ := app_sl (bytes := 16) hS1 ((strL_all _ : AllL 1 ([] ++ strL (L.take k)))) (src_lit rfl hlit2) rfl (by omega) (by rw [List.length_append, strL_len]; simp only [List.length_nil, List.length_cons]; omega) (by rw [List.length_append, strL_len]; simp only [List.length_nil, List.length_cons]; omega)
  have hA : AllL 1 ([] ++ strL (L.take k) ++ [[SV.str s]]) := (strL_all (L.take k ++ [s])) |> fun h => by simpa [strL] using h
  obtain ⟨v3, H4, ha3, hS3, hn4, hk4⟩ := app_sl (bytes := 16) hS2 hA (hs2.keep (H' := H3) fun b o n c e => by rw [hk3 _ (by have := hb2 b o n c _ e; omega), hk2 _ (by have := hb2 b o n c _ e; omega)]; exact hE1.2 b (hb2 b o n c _ e)) (strL_one _) (by omega) (by rw [List.length_append, List.length_append, strL_len, strL_len]; simp only [List.length_nil, List.length_cons]; omega) (by rw [List.length_append, List.length_append, strL_len, strL_len]; simp only [List.length_nil, List.length_cons]; omega)
  have fin : Ext H H4 ∧ RSl H4 v3 1 (strL (L.take k ++ (s :: L.drop k))) := by
    refine ⟨⟨by omega, fun b hb => ?_⟩, ?_⟩
    · rw [hk4 _ (by omega), hk3 _ (by omega), hk2 _ (by omega)]; exact hE1.2 b hb
    · have := hS3.rsl (hA.app (strL_all _))
      simpa [strL] using this
  have b1 : appV H1 false 9 1 16 .nils w1 = some (v1, H2) := ha1
  have b2 : appV H2 false 9 1 16 v1 (.slice H.next 0 1 (some 1) 1) = some (v2, H3) := ha2
  have b3 : appV H3 false 9 1 16 v2 w2 = some (v3, H4) := ha3
  refine EC_drawH ?_
  refine hdp (And.intro @hw1 @hH1) ?_
  simp only [unh, List.map_cons, List.map_nil]
  refine stp (And.intro @hw1 (And.intro @b1 (And.intro @b2 (And.intro @hw2 @b3)))) ?_
  refine ⟨?_, fun h => (by cases h), _, (by simp only [List.getLast?_cons_cons, List.getLast?_singleton]; first | done | with_reducible rfl), ?_⟩
  · exact rdp (And.intro @hlit @hlit2)
  · refine stp trivial ?_
    refine ret1 trivial ?_
    exact (fin)
theorem put_ok {v : SV} {L : List (List Nat)} {s : List Nat} (hv : RSl H v 1 (strL L)) (hl : L.length < 1000) (hn : 1 ≤ n) (hlf : 1000 < lf) :
    ∃ v' H', callS tabT lf n 43 [v, .str s] H = some (v', H') ∧ Ext H H' ∧ RSl H' v' 1 (strL (putL L s)) := by
  obtain ⟨n, rfl⟩ : ∃ m, n = m + 1 := ⟨n - 1, by omega⟩
  have key : ∃ w H', callS tabT lf (n + 1) 43 [v, .str s] H = some (w, H') ∧ Ext H H' ∧ RSl H' w 1 (strL (putL L s)) := by
    have hlen := hv.lenl
    rw [strL_len] at hlen
    have hple := posL_le s L
    refine call_code tab43 (by simp only [c43, go_sem, List.reduceReplicate, Nat.reduceAdd, Nat.reduceSub]; exact rfl) ?_
    simp only [c43]
    refine stp trivial ?_
    refine EC_loop (I := I43 H v L s) ?_ (posL s L) ?_ (by omega)
    · rintro m ts D H' ⟨rfl, rfl, k, rfl, hk, ⟨z, rfl, -⟩⟩
      by_cases hkl : k < posL s L
      · have hkL : k < L.length := by omega
        obtain ⟨b, o, hi, hb, hrow, _⟩ := hv.at_ (strL_at (List.getElem?_eq_getElem hkL))
        have hlt := posL_lt hkl (List.getElem?_eq_getElem hkL)
        have d0 : decide ((k : Int) < (L.length : Int)) = true := by rw [decide_eq_true_eq]; omega
        refine stp (And.intro @hlen (And.intro @d0 (And.intro @hi (And.intro @hrow @hlt)))) ?_
        refine cstT trivial ?_
        refine stp (succ_w (k := k) (by omega)) ?_
        refine loopR_normal (posL s L - (k + 1)) (by omega) ⟨rfl, rfl, k + 1, rfl, by omega, (frame_in (by rfl) (trivial))⟩
      · have hkp : k = posL s L := by omega
        subst hkp
        by_cases hkL : posL s L < L.length
        · obtain ⟨b, o, hi, hb, hrow, _⟩ := hv.at_ (strL_at (List.getElem?_eq_getElem hkL))
          have hge := posL_at (List.getElem?_eq_getElem hkL)
          have d0 : decide ((posL s L : Int) < (L.length : Int)) = true := by rw [decide_eq_true_eq]; omega
          refine stp (And.intro @hlen (And.intro @d0 (And.intro @hi (And.intro @hrow @hge)))) ?_
          refine cstE trivial ?_
          refine stp (And.intro @hlen (And.intro @d0 (And.intro @hi @hrow))) ?_
          cases hsx : decide (L[posL s L] = s) with
          | true =>
            have hp : putL L s = L := by unfold putL; rw [if_pos (by rw [List.getElem?_eq_getElem hkL, of_decide_eq_true hsx])]
            refine stp @hsx ?_
            refine cstT trivial ?_
            refine stp trivial ?_
            refine ret1 trivial ?_
            exact (⟨Ext.refl _, by rw [hp]; exact hv⟩)
          | false =>
            have hp : putL L s = L.take (posL s L) ++ (s :: L.drop (posL s L)) := by unfold putL; rw [if_neg (by rw [List.getElem?_eq_getElem hkL]; intro h; rw [Option.some.inj h] at hsx; simp at hsx)]
            refine stp @hsx ?_
            refine cstE trivial ?_
            refine stp trivial ?_
            rw [hp]
            refine put_tail (s := s) hv hl hple ?_
            exact (frame_in (by rfl) (trivial))
        · have d0 : decide ((posL s L : Int) < (L.length : Int)) = false := by rw [decide_eq_false_iff_not]; omega
          have hp : putL L s = L.take (posL s L) ++ (s :: L.drop (posL s L)) := by unfold putL; rw [if_neg (by rw [List.getElem?_eq_none (by omega)]; intro h; cases h)]
          refine stp (And.intro @hlen @d0) ?_
          refine cstE trivial ?_
          refine stp (And.intro @hlen @d0) ?_
          refine cstE trivial ?_
          refine stp trivial ?_
          rw [hp]
          refine put_tail (s := s) hv hl hple ?_
          exact (frame_in (by rfl) (trivial))
    · exact ⟨rfl, rfl, 0, rfl, by omega, (frame_in (by rfl) (trivial))⟩
  exact key
end
end Go.Sh
end
