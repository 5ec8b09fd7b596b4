/-
  Closed facts: the paths of titles; what is known.
  Render as an answer of the outer walk.
  The outermost walk: the page is put in. (frame style z)
-/
import Derived.Test.YtnhogklhegmjhaaGreatDoorShC1
import Derived.Test.YtnhogklhegmjhaaGreatDoorShD3
import Derived.Test.YtnhogklhegmjhaaGreatDoorShA7
set_option linter.all false
section
namespace Go.Sh
set_option maxRecDepth 10000
set_option linter.all false
theorem k_known : saidIs (runF 12 []) (.bool true) = true := by kernel_rfl
end Go.Sh
end
section
namespace Go.Sh
open Go.RowKit (Below)
set_option maxRecDepth 10000
set_option linter.all false
def opKind : SV → Bool
  | .nils => true
  | .slice _ _ _ _ _ => true
  | .int _ _ => true
  | _ => false
theorem opKind_op {ψ : Emb} {v : SV} {u : Value} (hv : opKind v = true) (h : VR ψ v u) : opOk u = true := by
  cases v <;> first | (cases hv; done) | (cases h <;> rfl)
def Good8 (t : Tt) (ok : Bool) (args : List SV) (H : Heap) : Prop := ∃ v0 v1 v2 v3 v4 v5 v6 lf n, args = [.agg [v0, v1, v2, v3, v4, v5, v6], tC tQ, limQ] ∧ [v0, v1, v2, v3, v4, v5, v6].all opKind = true ∧ ∀ x ∈ saidL (textT t) t ok, SaidOK (callS tabT lf n) H [v0, v1, v2, v3, v4, v5, v6] x
open Classical in
noncomputable def nat8 (t : Tt) (ok : Bool) (args : List SV) (H : Heap) : Option (SV × Heap) :=
  if Good8 t ok args H then some (.tup [.agg [.str (htmlT t ok), .opq H.next, .opq (H.next + 1), .opq (H.next + 2), .bool false], .int .i64 ((0 : Nat) : Int)], H.shield) else none
theorem nat8_eq {t : Tt} {ok : Bool} {args : List SV} {H : Heap} (h : Good8 t ok args H) : nat8 t ok args H = some (.tup [.agg [.str (htmlT t ok), .opq H.next, .opq (H.next + 1), .opq (H.next + 2), .bool false], .int .i64 ((0 : Nat) : Int)], H.shield) := by
  unfold nat8
  rw [if_pos h]
theorem run_of {t : Tt} {ok : Bool} (h : htmlIs (htmlT t ok) (runR t ok) = true) : ∃ a b c H1, isSlice a = true ∧ isSlice b = true ∧ isSlice c = true ∧ callS (tabSaid tabB [47, 10] (saidL (textT t) t ok)) 100 20 8 [vQ, tC tQ, limQ] h0 = some (.tup [.agg [.str (htmlT t ok), a, b, c, .bool false], .int .i64 ((0 : Nat) : Int)], H1) := by
  unfold runR at h
  rw [callF_eq] at h
  generalize callS (tabSaid tabB [47, 10] (saidL (textT t) t ok)) 100 20 8 [vQ, tC tQ, limQ] h0 = r at h
  unfold htmlIs at h
  split at h
  · rename_i s a b c H1
    rw [Bool.and_eq_true, Bool.and_eq_true, Bool.and_eq_true] at h
    obtain ⟨⟨⟨h1, h2⟩, h3⟩, h4⟩ := h
    have h4 := h4
    rw [eqS_dec, decide_eq_true_eq] at h4
    subst h4
    exact ⟨a, b, c, H1, h1, h2, h3, rfl⟩
  · cases h
section
variable {G : Ground} {P : Program}
theorem vQ_vr {φ : Emb} {us : List Value} {v0 v1 v2 v3 v4 v5 v6 : SV} {ψ : Emb} (hk : [v0, v1, v2, v3, v4, v5, v6].all opKind = true) (h : VRL ψ [v0, v1, v2, v3, v4, v5, v6] us) (ho : OpqAt φ us) {u : Array Value} (hu : u.toList = us) : VR φ vQ (.agg u) := by
  refine .agg ?_
  rw [hu]
  simp only [List.all_cons, List.all_nil, Bool.and_true, Bool.and_eq_true] at hk
  obtain ⟨k0, k1, k2, k3, k4, k5, k6⟩ := hk
  cases h with
  | cons p0 q => cases q with
    | cons p1 q => cases q with
      | cons p2 q => cases q with
        | cons p3 q => cases q with
          | cons p4 q => cases q with
            | cons p5 q => cases q with
              | cons p6 q =>
                cases q
                obtain ⟨l0, a0, b0⟩ := ho 0 _ rfl
                obtain ⟨l1, a1, b1⟩ := ho 1 _ rfl
                obtain ⟨l2, a2, b2⟩ := ho 2 _ rfl
                obtain ⟨l3, a3, b3⟩ := ho 3 _ rfl
                obtain ⟨l4, a4, b4⟩ := ho 4 _ rfl
                obtain ⟨l5, a5, b5⟩ := ho 5 _ rfl
                obtain ⟨l6, a6, b6⟩ := ho 6 _ rfl
                exact .cons (.opq a0 b0 (opKind_op k0 p0)) (.cons (.opq a1 b1 (opKind_op k1 p1)) (.cons (.opq a2 b2 (opKind_op k2 p2)) (.cons (.opq a3 b3 (opKind_op k3 p3)) (.cons (.opq a4 b4 (opKind_op k4 p4)) (.cons (.opq a5 b5 (opKind_op k5 p5)) (.cons (.opq a6 b6 (opKind_op k6 p6)) .nil))))))
theorem nat8_ok (hm : P.follows .mixedOrders = true) (hG : G.up) (hpos : ∀ φ B w, G.p φ B w → 0 < w.heap.size) (hB : TabOK G P tabB) (hT : TabOK G P tabT) (h47 : enterable P 47 = true) (h10 : enterable P 10 = true) {t : Tt} {ok : Bool} (hrun : htmlIs (htmlT t ok) (runR t ok) = true) {args : List SV} {H H' : Heap} {v : SV} (h : nat8 t ok args H = some (v, H')) :
    ∀ φ B w (args' : Array Value), VRL φ args args'.toList → HG G φ B H w → Calls P 8 args' w (CPost φ B H w v H') := by
  intro φ B w args' ha hh
  unfold nat8 at h
  split at h
  · rename_i hg
    cases h
    obtain ⟨v0, v1, v2, v3, v4, v5, v6, lf, n, rfl, hk, hs⟩ := hg
    obtain ⟨a, b, c, H1, h1, h2, h3, h4⟩ := run_of hrun
    obtain ⟨l⟩ := args'
    cases ha with
    | cons p0 q =>
      cases q with
      | cons p1 q =>
        cases q with
        | cons p2 q =>
          cases q
          cases p0 with
          | agg p0 =>
            rename_i u1 u2 us
            have h0 := hpos _ _ _ hh.2
            refine (within_ok hm hG (shadow_ok hm hT lf n) hB (vs := [v0, v1, v2, v3, v4, v5, v6]) (fs := [47, 10]) (fun f hf => ?_) hs (by show 7 ≤ 1000; decide) (fun i hi => ?_) h4 p0 h0 (fun φ1 ho => .cons (vQ_vr hk p0 ho rfl) (.cons (flatA_any rfl p1) (.cons (flatA_any rfl p2) .nil))) hh).mono ?_
            · simp only [List.mem_cons, List.not_mem_nil, or_false] at hf
              rcases hf with rfl | rfl
              · exact h47
              · exact h10
            · rfl
            · rintro e w' ⟨ψ, u, rfl, hu, _, hb⟩
              exact shield_ok hh.1 h0 hb h1 h2 h3 hu
  · cases h
end
end Go.Sh
end
section
namespace Go.Sh
set_option maxRecDepth 10000
set_option linter.all false
/-! ### Plain -/
theorem titL_space : ∀ t ∈ titL, t.1 < 6 := by decide +kernel
theorem titL_text : ∀ t ∈ titL, (textT t).length ≤ 100 ∧ (fmtT t).length ≤ 60 ∧ (pathT t).length ≤ 100 := by decide +kernel
theorem titL_Q : tQ ∉ titL := by decide +kernel
theorem pagL_Q : tQ ∉ pagL := by decide +kernel
theorem cmpQ_ge : ∀ a ∈ pagL, cmpT a tQ ≠ -1 → cmpT tQ a = -1 := by decide +kernel
theorem cmpQ_tr : ∀ a ∈ pagL, ∀ b ∈ pagL, cmpT a b = -1 → cmpT b tQ = -1 → cmpT a tQ = -1 := by decide +kernel
def insQ (A : List Pg) (i : Nat) (q : Pg) : List Pg := A.take i ++ q :: A.drop i
theorem insQ_len {A : List Pg} {i : Nat} {q : Pg} (hi : i ≤ A.length) : (insQ A i q).length = A.length + 1 := by
  unfold insQ
  rw [List.length_append, List.length_cons, List.length_take, List.length_drop]
  omega
theorem insQ_at {A : List Pg} {i : Nat} {q : Pg} (hi : i ≤ A.length) : (insQ A i q)[i]? = some q := by
  unfold insQ
  rw [List.getElem?_append_right (by rw [List.length_take]; omega), List.length_take, Nat.min_eq_left hi, Nat.sub_self]
  rfl
theorem insQ_set {A : List Pg} {i : Nat} {q r : Pg} (hi : i ≤ A.length) : (insQ A i q).set i r = insQ A i r := by
  unfold insQ
  rw [List.set_append_right _ _ (by rw [List.length_take]; omega), List.length_take, Nat.min_eq_left hi, Nat.sub_self]
  rfl
theorem insQ_below {A : List Pg} {i : Nat} {q : Pg} (hi : i < A.length) : (insQ A (i + 1) q)[i]? = some A[i] := by
  unfold insQ
  rw [List.getElem?_append_left (by rw [List.length_take]; omega), List.getElem?_take]
  simp [hi]
theorem insQ_up {A : List Pg} {i : Nat} (hi : i < A.length) : insQ A (i + 1) A[i] = insQ A i A[i] := by
  unfold insQ
  rw [List.take_succ, List.getElem?_eq_getElem hi, List.append_assoc, List.drop_eq_getElem_cons hi]
  rfl
theorem insQ_mem {A : List Pg} {i : Nat} {q x : Pg} (h : x ∈ insQ A i q) : x = q ∨ x ∈ A := by
  unfold insQ at h
  rcases List.mem_append.1 h with h | h
  · exact .inr (List.mem_of_mem_take h)
  · rcases List.mem_cons.1 h with h | h
    · exact .inl h
    · exact .inr (List.mem_of_mem_drop h)
theorem insQ_sorted {A : List Pg} {i : Nat} {q : Pg} (hA : ∀ x ∈ A, x.t ∈ pagL) (hso : (A.map Pg.t).Pairwise fun a b => cmpT a b = -1) (hi : i ≤ A.length) (hq : q.t = tQ) (hlo : ∀ j, j + 1 = i → ∀ x, A[j]? = some x → cmpT x.t tQ = -1) (hhi : ∀ j x, i ≤ j → A[j]? = some x → cmpT x.t tQ ≠ -1) :
    ((insQ A i q).map Pg.t).Pairwise fun a b => cmpT a b = -1 := by
  unfold insQ
  rw [List.map_append, List.map_cons, List.pairwise_append, List.pairwise_cons, hq]
  have hup : ∀ b ∈ (A.drop i).map Pg.t, cmpT tQ b = -1 := by
    intro b hb
    obtain ⟨x, hx, rfl⟩ := List.mem_map.1 hb
    obtain ⟨j, hj, rfl⟩ := List.mem_iff_getElem.1 hx
    rw [List.getElem_drop]
    have hj' : i + j < A.length := by rw [List.length_drop] at hj; omega
    exact cmpQ_ge _ (hA _ (List.getElem_mem hj')) (hhi (i + j) _ (by omega) (List.getElem?_eq_getElem hj'))
  have hdn : ∀ a ∈ (A.take i).map Pg.t, cmpT a tQ = -1 := by
    intro a ha
    obtain ⟨x, hx, rfl⟩ := List.mem_map.1 ha
    obtain ⟨j, hj, rfl⟩ := List.mem_iff_getElem.1 hx
    rw [List.getElem_take]
    have hji : j < i := by rw [List.length_take] at hj; omega
    have hjA : j < A.length := by omega
    obtain ⟨k, rfl⟩ : ∃ k, i = k + 1 := ⟨i - 1, by omega⟩
    have hk : k < A.length := by omega
    have hkQ := hlo k rfl _ (List.getElem?_eq_getElem hk)
    by_cases hjk : j = k
    · subst hjk; exact hkQ
    · have := (List.pairwise_iff_getElem.1 hso) j k (by rw [List.length_map]; omega) (by rw [List.length_map]; omega) (by omega)
      rw [List.getElem_map, List.getElem_map] at this
      exact cmpQ_tr _ (hA _ (List.getElem_mem hjA)) _ (hA _ (List.getElem_mem hk)) this hkQ
  refine ⟨?_, ⟨hup, ?_⟩, ?_⟩
  · rw [List.map_take]; exact hso.sublist (List.take_sublist _ _)
  · rw [List.map_drop]; exact hso.sublist (List.drop_sublist _ _)
  · intro a ha b hb
    rcases List.mem_cons.1 hb with rfl | hb
    · exact hdn a ha
    · obtain ⟨x, hx, rfl⟩ := List.mem_map.1 ha
      obtain ⟨j, hj, rfl⟩ := List.mem_iff_getElem.1 hx
      obtain ⟨y, hy, rfl⟩ := List.mem_map.1 hb
      obtain ⟨k, hk, rfl⟩ := List.mem_iff_getElem.1 hy
      rw [List.getElem_take, List.getElem_drop]
      have hji : j < i := by rw [List.length_take] at hj; omega
      have hkl : i + k < A.length := by rw [List.length_drop] at hk; omega
      have := (List.pairwise_iff_getElem.1 hso) j (i + k) (by rw [List.length_map]; omega) (by rw [List.length_map]; omega) (by omega)
      rwa [List.getElem_map, List.getElem_map] at this
theorem find_none_Q {A : List Pg} (hA : ∀ x ∈ A, x.t ∈ pagL) (i : Nat) : (A.take i).find? (fun p => decide (p.t = tQ)) = none := by
  rw [List.find?_eq_none]
  intro x hx
  have := hA x (List.mem_of_mem_take hx)
  simp only [decide_eq_true_eq]
  intro e
  rw [e] at this
  exact pagL_Q this
theorem insQ_find {A : List Pg} {i : Nat} {q : Pg} (hA : ∀ x ∈ A, x.t ∈ pagL) (hq : q.t = tQ) : (insQ A i q).find? (fun p => decide (p.t = tQ)) = some q := by
  unfold insQ
  rw [List.find?_append, find_none_Q hA, List.find?_cons, hq]
  simp
theorem insQ_findT {A : List Pg} {i : Nat} {q : Pg} {t : Tt} (hq : q.t = tQ) (ht : t ∈ titL) : ((insQ A i q).find? fun p => decide (p.t = t)).isSome = (A.find? fun p => decide (p.t = t)).isSome := by
  have hne : decide (q.t = t) = false := by
    rw [hq, decide_eq_false_iff_not]
    rintro rfl
    exact titL_Q ht
  unfold insQ
  rw [List.find?_append, List.find?_cons, hne]
  conv => rhs; rw [← List.take_append_drop i A, List.find?_append]
theorem row_set {z : Nat} : ∀ {L : List (List SV)} {i : Nat} {x : List SV}, AllL z L → i < L.length → x.length = z → L.flatten.take (i * z) ++ (x ++ L.flatten.drop (i * z + z)) = (L.set i x).flatten
  | y :: L, 0, x, h, _, hx => by
    have hy := h y (List.mem_cons_self ..)
    rw [Nat.zero_mul, List.take_zero, List.nil_append, Nat.zero_add, List.flatten_cons, List.drop_append, List.drop_of_length_le (by omega), hy, Nat.sub_self]
    simp
  | y :: L, i + 1, x, h, hi, hx => by
    have hy := h y (List.mem_cons_self ..)
    have ih := row_set (L := L) (i := i) (x := x) (fun w hw => h w (List.mem_cons_of_mem _ hw)) (by simpa using hi) hx
    have e : (i + 1) * z = z + i * z := by rw [Nat.add_mul, Nat.one_mul, Nat.add_comm]
    rw [List.flatten_cons, List.set_cons_succ, List.flatten_cons, ← ih, e, List.take_append, List.take_of_length_le (by omega), hy, Nat.add_sub_cancel_left, List.drop_append, List.drop_of_length_le (by omega), hy, List.nil_append, show z + i * z + z - z = i * z + z by omega, List.append_assoc]
theorem store_at {H : Heap} {b z i : Nat} {L : List (List SV)} {x : List SV} {e : TypeId} {ex : Bool} (hL : AllL z L) (hb : H.get b = some (.row L.flatten e ex false 0)) (hi : i < L.length) (hx : x.length = z) (ho : x.all SV.one = true) :
    storeS z (.ptr b (i * z)) x H = some (H.put b (.row (L.set i x).flatten e ex false 0)) := by
  have h1 : i * z + z ≤ L.flatten.length := by
    rw [flatten_len hL]
    have : (i + 1) * z ≤ L.length * z := Nat.mul_le_mul_right z hi
    rw [Nat.add_mul, Nat.one_mul] at this
    exact this
  rw [store_ptr hx, storeC_eq, hb, sto_row (by rw [hx]; exact h1) (Nat.zero_le _) ho, hx, row_set hL hi hx]
end Go.Sh
end
