/-
  The checks of a policy: which groups there are. (frame style z)
  The checks of a policy: rules and guards. (frame style z)
-/
import Derived.Test.YtnhogklhegmjhaaGreatDoorShC9
set_option linter.all false
section
namespace Go.Sh
set_option maxRecDepth 10000
set_option linter.all false
def RSw (H : Heap) (v : SV) (z : Nat) (L : List (List SV)) : Prop :=
  lenlS v = some (.int .i64 (L.length : Int)) ∧ ∀ (i : Nat) (x : List SV), L[i]? = some x → ∃ b o, iadS z v (.int .i64 (i : Int)) = some (.ptr b o) ∧ b < H.next ∧ rowL (H.get b) o z = some x
theorem RSl.w {H : Heap} {v : SV} {z : Nat} {L : List (List SV)} (h : RSl H v z L) : RSw H v z L :=
  ⟨h.lenl, fun i x hx => by
    obtain ⟨b, o, h1, h2, h3, _⟩ := h.at_ hx
    exact ⟨b, o, h1, h2, h3⟩⟩
theorem RSw.keep {H H' : Heap} {v : SV} {z : Nat} {L : List (List SV)} (h : RSw H v z L) (hE : Ext H H') : RSw H' v z L :=
  ⟨h.1, fun i x hx => by
    obtain ⟨b, o, h1, h2, h3⟩ := h.2 i x hx
    exact ⟨b, o, h1, Nat.lt_of_lt_of_le h2 hE.1, by rw [hE.2 b h2]; exact h3⟩⟩
theorem RSl.hiw {H : Heap} {v : SV} {z : Nat} {L : List (List SV)} (h : RSl H v z L) {k : Nat} (hk : k ≤ L.length) : ∃ w, slvS z none (some (.int .i64 (k : Int))) v = some w ∧ RSw H w z (L.take k) := by
  have hlen : (L.take k).length = k := by rw [List.length_take]; omega
  rcases h.2 with ⟨rfl, rfl⟩ | ⟨b, c, e, ex, ro, frz, rfl, hc, h2, h3⟩
  · have : k = 0 := by simpa using hk
    subst this
    exact ⟨.nils, rfl, rfl, fun i x hx => by simp at hx⟩
  · have hlim : limS c L.length = L.length := by
      cases c with
      | none => rfl
      | some q => exact hc q rfl
    refine ⟨_, slv_hi (by omega) (by rw [hlim]; omega), ?_⟩
    have hres : ∃ c' , resl b 0 z 0 ((k : Int)).toNat c = .slice b 0 k c' z := by
      unfold resl
      cases c with
      | none => exact ⟨none, by simp⟩
      | some q =>
        cases hq : Nat.beq q 0 with
        | true => exact ⟨some 0, by simp [hq]⟩
        | false => exact ⟨some (q - 0), by simp [hq]⟩
    obtain ⟨c', hr⟩ := hres
    rw [hr]
    refine ⟨by rw [hlen]; rfl, fun i x hx => ?_⟩
    have hi : i < k := by have := (List.getElem?_eq_some_iff.1 hx).1; omega
    have hx' : L[i]? = some x := by rw [List.getElem?_take] at hx; simpa [hi] using hx
    refine ⟨b, 0 + ((i : Int).toNat) * z, iad_slice (by omega) (by omega), h2, ?_⟩
    rw [h3, Nat.zero_add, show ((i : Int)).toNat = i from rfl]
    exact rowL_at h.1 hx'
theorem tab281 : tabT 281 = some (.code c281) := by kernel_rfl
theorem tab232 : tabT 232 = some (.code c232) := by kernel_rfl
theorem tab280 : tabT 280 = some (.code c280) := by kernel_rfl
theorem tab231 : tabT 231 = some (.code c231) := by kernel_rfl
theorem tab233 : tabT 233 = some (.code c233) := by kernel_rfl
section
variable {lf n : Nat} {H : Heap}
theorem ex1_ok {b : Nat} {nm g : List Nat} {mv : SV} (hb : rowL (H.get b) 0 1 = some [.str nm]) (hbn : b < H.next) (hn : 1 ≤ n) : ∃ H', callS tabT lf n 281 [.agg [.str g, mv], .ptr b 0] H = some (.bool (decide (g = nm)), H') ∧ Ext H H' := by
  obtain ⟨n, rfl⟩ : ∃ m, n = m + 1 := ⟨n - 1, by omega⟩
  have key : ∃ w H', callS tabT lf (n + 1) 281 [.agg [.str g, mv], .ptr b 0] H = some (w, H') ∧ w = .bool (decide (g = nm)) ∧ Ext H H' := by
    obtain ⟨H1, hH1⟩ : ∃ H1, H.push (.row [.str g, mv] 109 true false 0) = H1 := ⟨_, rfl⟩
    have hE1 : Ext H H1 := by rw [← hH1]; exact (Ext.refl H).push _
    have hp1 : H1.get H.next = some (.row [.str g, mv] 109 true false 0) := by rw [← hH1]; exact get_push_self _
    have hb1 : rowL (H1.get b) 0 1 = some [.str nm] := by rw [hE1.2 b hbn]; exact hb
    refine call_code tab281 (by simp only [c281, go_sem, List.reduceReplicate, Nat.reduceAdd, Nat.reduceSub]; exact rfl) ?_
    simp only [c281]
    refine stp (And.intro @hH1 (And.intro @hp1 @hb1)) ?_
    refine ret1 trivial ?_
    exact (⟨rfl, hE1⟩)
  obtain ⟨w, H', h, rfl, hE⟩ := key
  exact ⟨H', h, hE⟩
theorem dup1_ok {b : Nat} {nm g : List Nat} {mv : SV} (hb : rowL (H.get b) 0 1 = some [.str nm]) (hbn : b < H.next) (hn : 1 ≤ n) : ∃ H', callS tabT lf n 232 [.agg [.str g, mv], .ptr b 0] H = some (.bool (decide (g = nm)), H') ∧ Ext H H' := by
  obtain ⟨n, rfl⟩ : ∃ m, n = m + 1 := ⟨n - 1, by omega⟩
  have key : ∃ w H', callS tabT lf (n + 1) 232 [.agg [.str g, mv], .ptr b 0] H = some (w, H') ∧ w = .bool (decide (g = nm)) ∧ Ext H H' := by
    obtain ⟨H1, hH1⟩ : ∃ H1, H.push (.row [.str g, mv] 109 true false 0) = H1 := ⟨_, rfl⟩
    have hE1 : Ext H H1 := by rw [← hH1]; exact (Ext.refl H).push _
    have hp1 : H1.get H.next = some (.row [.str g, mv] 109 true false 0) := by rw [← hH1]; exact get_push_self _
    have hb1 : rowL (H1.get b) 0 1 = some [.str nm] := by rw [hE1.2 b hbn]; exact hb
    refine call_code tab232 (by simp only [c232, go_sem, List.reduceReplicate, Nat.reduceAdd, Nat.reduceSub]; exact rfl) ?_
    simp only [c232]
    refine stp (And.intro @hH1 (And.intro @hp1 @hb1)) ?_
    refine ret1 trivial ?_
    exact (⟨rfl, hE1⟩)
  obtain ⟨w, H', h, rfl, hE⟩ := key
  exact ⟨H', h, hE⟩
@[reducible] def I280 (H0 : Heap) (f b : Nat) (v : SV) (G : List Gr) (nm : List Nat) (m : Nat) (ts : T) (D : DS) (H' : Heap) : Prop :=
  D = [] ∧ Ext H0 H' ∧ ∃ k : Nat, m = G.length - k ∧ k ≤ G.length ∧ (∀ i g, i < k → G[i]? = some g → g.1 ≠ nm) ∧ ∃ z : Nat → SV, ts = ((v) :: (.func f [] [.ptr b 0]) :: z 2 :: z 3 :: z 4 :: z 5 :: (v) :: (.int .i64 (G.length : Int)) :: (.int .i64 (k : Int)) :: z 9 :: z 10 :: z 11 :: z 12 :: z 13 :: z 14 :: z 15 :: z 16 :: z 17 :: z 18 :: [] : T) ∧ (True)
theorem index_ok {f b : Nat} {nm : List Nat} {v : SV} {G : List Gr} (hf : f = 281 ∨ f = 232) (hv : RSw H v 2 (G.map grC)) (hl : G.length < 1000) (hb : rowL (H.get b) 0 1 = some [.str nm]) (hbn : b < H.next) (hn : 2 ≤ n) (hlf : 1000 < lf) :
    ∃ r H', callS tabT lf n 280 [v, .func f [] [.ptr b 0]] H = some (.int .i64 r, H') ∧ Ext H H' ∧ (0 ≤ r ↔ ∃ g ∈ G, g.1 = nm) := by
  obtain ⟨n, rfl⟩ : ∃ m, n = m + 1 := ⟨n - 1, by omega⟩
  have key : ∃ w H', callS tabT lf (n + 1) 280 [v, .func f [] [.ptr b 0]] H = some (w, H') ∧ ∃ r, w = .int .i64 r ∧ Ext H H' ∧ (0 ≤ r ↔ ∃ g ∈ G, g.1 = nm) := by
    have hlen := hv.1
    rw [List.length_map] at hlen
    refine call_code tab280 (by simp only [c280, go_sem, List.reduceReplicate, Nat.reduceAdd, Nat.reduceSub]; exact rfl) ?_
    simp only [c280]
    refine stp @hlen ?_
    refine EC_loop (I := I280 H f b v G nm) ?_ G.length ?_ (by omega)
    · rintro m ts D H1 ⟨rfl, hE, k, rfl, hk, hno, ⟨z, rfl, -⟩⟩
      refine stp trivial ?_
      refine cst trivial (fun hc => ?_) (fun hc => ?_) <;> try simp only [decide_eq_true_eq, decide_eq_false_iff_not, not_true_eq_false, not_false_eq_true, Int.not_lt, Int.not_le, ge_iff_le, gt_iff_lt] at hc
      · have hkG : k < G.length := by omega
        have hx : (G.map grC)[k]? = some (grC G[k]) := by simp [hkG]
        have hgk : G[k]? = some G[k] := List.getElem?_eq_getElem hkG
        obtain ⟨bb, o, hi, hbb, hrow⟩ := (hv.keep hE).2 _ _ hx
        generalize G[k] = g at hrow hgk
        have hrow : rowL (H1.get bb) o 2 = some [.str g.1, g.2.1] := hrow
        have hb1 : rowL (H1.get b) 0 1 = some [.str nm] := by rw [hE.2 b hbn]; exact hb
        obtain ⟨H2, hc2, hE2⟩ : ∃ H2, callS tabT lf n f [.agg [.str g.1, g.2.1], .ptr b 0] H1 = some (.bool (decide (g.1 = nm)), H2) ∧ Ext H1 H2 := by
          rcases hf with rfl | rfl
          · exact ex1_ok hb1 (Nat.lt_of_lt_of_le hbn hE.1) (by omega)
          · exact dup1_ok hb1 (Nat.lt_of_lt_of_le hbn hE.1) (by omega)
        refine stp (And.intro @hi @hrow) ?_
        refine EO_calld (by exact sfc @trivial) (by exact sfc (And.intro @List.nil_append.{0} @List.cons_append.{0})) hc2 (by simp only [List.set_cons_zero, List.set_cons_succ]; with_reducible rfl) ?_
        refine stp trivial ?_
        by_cases h1 : g.1 = nm
        · have d1 : decide (g.1 = nm) = true := decide_eq_true h1
          refine cstT @d1 ?_
          refine stp trivial ?_
          refine ret1 trivial ?_
          exact (⟨_, rfl, hE.trans hE2, ⟨fun _ => ⟨g, List.mem_of_getElem? hgk, h1⟩, fun _ => by omega⟩⟩)
        · have d1 : decide (g.1 = nm) = false := decide_eq_false h1
          refine cstE @d1 ?_
          refine stp (succ_w (k := k) (by omega)) ?_
          refine loopR_normal (G.length - (k + 1)) (by omega) ⟨rfl, hE.trans hE2, k + 1, rfl, by omega, fun i y hi' hy => ?_, (frame_in (by rfl) (trivial))⟩
          rcases Nat.lt_succ_iff_lt_or_eq.1 hi' with h | rfl
          · exact hno i y h hy
          · rw [hgk] at hy
            cases hy
            exact h1
      · refine stp trivial ?_
        refine ret1 trivial ?_
        refine (⟨.negSucc 0, rfl, hE, ⟨fun h => absurd h (by decide), fun ⟨g, hg, hgn⟩ => ?_⟩⟩)
        obtain ⟨i, hi, rfl⟩ := List.mem_iff_getElem.1 hg
        exact absurd hgn (hno i _ (by omega) (List.getElem?_eq_getElem hi))
    · exact ⟨rfl, Ext.refl _, 0, by omega, by omega, (fun i g hi => absurd hi (Nat.not_lt_zero _)), (frame_in (by rfl) (trivial))⟩
  obtain ⟨w, H', h, r, rfl, hE, hr⟩ := key
  exact ⟨r, H', h, hE, hr⟩
theorem cont_ok {f b : Nat} {nm : List Nat} {v : SV} {G : List Gr} (hf : f = 281 ∨ f = 232) (hv : RSw H v 2 (G.map grC)) (hl : G.length < 1000) (hb : rowL (H.get b) 0 1 = some [.str nm]) (hbn : b < H.next) (hn : 3 ≤ n) (hlf : 1000 < lf) :
    ∃ r H', callS tabT lf n 231 [v, .func f [] [.ptr b 0]] H = some (.bool r, H') ∧ Ext H H' ∧ (r = true ↔ ∃ g ∈ G, g.1 = nm) := by
  obtain ⟨n, rfl⟩ : ∃ m, n = m + 1 := ⟨n - 1, by omega⟩
  have key : ∃ w H', callS tabT lf (n + 1) 231 [v, .func f [] [.ptr b 0]] H = some (w, H') ∧ ∃ r, w = .bool r ∧ Ext H H' ∧ (r = true ↔ ∃ g ∈ G, g.1 = nm) := by
    obtain ⟨r, H1, hc1, hE1, hr⟩ := index_ok (lf := lf) (n := n) hf hv hl hb hbn (by omega) hlf
    refine call_code tab231 (by simp only [c231, go_sem, List.reduceReplicate, Nat.reduceAdd, Nat.reduceSub]; exact rfl) ?_
    simp only [c231]
    refine stp trivial ?_
    refine kst trivial hc1 ?_
    refine stp trivial ?_
    refine ret1 trivial ?_
    exact (⟨_, rfl, hE1, by rw [decide_eq_true_eq]; exact hr⟩)
  obtain ⟨w, H', h, r, rfl, hE, hr⟩ := key
  exact ⟨r, H', h, hE, hr⟩
theorem built_ok {nm : List Nat} (h : nm ∈ knownL) (hn : 1 ≤ n) : callS tabT lf n 230 [.str nm] H = some (.bool (decide (nm = sAll ∨ nm = sUsers)), H) :=
  nat_fact tab230n rfl (said_all k_built h) hn H
theorem namN_known : ∀ n ∈ [0, 1, 2, 3], ∀ s ∈ namN n, s ∈ knownL := by decide +kernel
theorem le3 {k : Nat} (h : k ≤ 3) : k ∈ [0, 1, 2, 3] := by
  have : k = 0 ∨ k = 1 ∨ k = 2 ∨ k = 3 := by omega
  simpa using this
theorem exists_ok {k : Nat} {gv rv dv : SV} {G : List Gr} {R : List Rl} {E : List Gd} {nm : List Nat} (hp : PolR (RSl H) k gv rv dv G R E) (hnm : nm ∈ namN k) (hn : 4 ≤ n) (hlf : 1000 < lf) :
    ∃ H', callS tabT lf n 233 [.agg [gv, rv, dv], .str nm] H = some (.bool true, H') ∧ Ext H H' := by
  obtain ⟨n, rfl⟩ : ∃ m, n = m + 1 := ⟨n - 1, by omega⟩
  have key : ∃ w H', callS tabT lf (n + 1) 233 [.agg [gv, rv, dv], .str nm] H = some (w, H') ∧ w = .bool true ∧ Ext H H' := by
    obtain ⟨H1, hH1⟩ : ∃ H1, H.push (.row [gv, rv, dv] 30 true false 0) = H1 := ⟨_, rfl⟩
    obtain ⟨H2, hH2⟩ : ∃ H2, H1.push (.row [.str nm] 9 true false 0) = H2 := ⟨_, rfl⟩
    have hn1 : H1.next = H.next + 1 := by rw [← hH1]; rfl
    have hn2 : H2.next = H1.next + 1 := by rw [← hH2]; rfl
    have hE2 : Ext H H2 := by rw [← hH2, ← hH1]; exact ((Ext.refl H).push _).push _
    have hp1 : H2.get H.next = some (.row [gv, rv, dv] 30 true false 0) := by rw [← hH2, get_push_old (by omega), ← hH1]; exact get_push_self _
    have hp2 : H2.get (H.next + 1) = some (.row [.str nm] 9 true false 0) := by rw [← hn1, ← hH2]; exact get_push_self _
    have hkn := namN_known k (le3 hp.n3) nm hnm
    have hb := built_ok (lf := lf) (n := n) (H := H2) hkn (by omega)
    have hgl := hp.grs.len
    refine call_code tab233 (by simp only [c233, go_sem, List.reduceReplicate, Nat.reduceAdd, Nat.reduceSub]; exact rfl) ?_
    simp only [c233]
    refine stp (And.intro @hH1 (And.intro @hn1 (And.intro @hH2 @hp2))) ?_
    refine kst trivial hb ?_
    cases hd : decide (nm = sAll ∨ nm = sUsers) with
    | true =>
      refine stp @hd ?_
      refine ret1 trivial ?_
      exact (⟨rfl, hE2⟩)
    | false =>
      have hd' := of_decide_eq_false hd
      obtain ⟨r, H3, hc3, hE3, hr⟩ := cont_ok (lf := lf) (n := n) (nm := nm) (.inl rfl) (hp.gs.keep hE2).w (by omega) (show rowL (H2.get (H.next + 1)) 0 1 = some [.str nm] by rw [hp2]; rfl) (by omega) (by omega) hlf
      have hrt : r = true := hr.2 (by
        have : nm ∈ grpL.take k := by
          simp only [namN, List.mem_cons] at hnm
          rcases hnm with h | h | h
          · exact absurd (.inl h) hd'
          · exact absurd (.inr h) hd'
          · exact h
        rw [← hp.gnm] at this
        obtain ⟨g, hg, e⟩ := List.mem_map.1 this
        exact ⟨g, hg, e⟩)
      subst hrt
      refine stp (And.intro @hd @hp1) ?_
      refine kst trivial hc3 ?_
      refine stp trivial ?_
      refine ret1 trivial ?_
      exact (⟨rfl, hE2.trans hE3⟩)
  obtain ⟨w, H', h, rfl, hE⟩ := key
  exact ⟨H', h, hE⟩
end
end Go.Sh
end
section
namespace Go.Sh
set_option maxRecDepth 10000
set_option linter.all false
attribute [go_sem] Bool.not_true Bool.not_false
theorem tab152 : tabT 152 = some (.code c152) := by kernel_rfl
theorem tab151 : tabT 151 = some (.code c151) := by kernel_rfl
section
variable {lf n : Nat} {H : Heap}
theorem valid_ok {t : Tt} (h : t ∈ titL ++ pagL ++ [tQ]) (hn : 1 ≤ n) : callS tabT lf n 48 [tC t] H = some (.bool true, H) := nat_fact tab48n rfl (said_all k_valid h) hn H
theorem any_ok {s : List Nat} (h : s ∈ secL) (hn : 1 ≤ n) : callS tabT lf n 234 [.str s, .str [10, 124]] H = some (.bool false, H) := nat_fact tab234n rfl (said_all k_any h) hn H
theorem trim_ok {s : List Nat} (h : s ∈ secL) (hn : 1 ≤ n) : callS tabT lf n 182 [.str s, .str [32, 9]] H = some (.str s, H) := nat_fact tab182n rfl (said_all k_trim h) hn H
theorem secL_len : ∀ s ∈ secL, s.length ≤ 3 := by decide +kernel
theorem guard_ok {k : Nat} {gv rv dv : SV} {G : List Gr} {R : List Rl} {E : List Gd} {x : Gd} (hp : PolR (RSl H) k gv rv dv G R E) (hx : GdOK k x) (hn : 5 ≤ n) (hlf : 1000 < lf) :
    ∃ H', callS tabT lf n 152 [.agg [gv, rv, dv], .agg (gdC x)] H = some (.int .i64 ((0 : Nat) : Int), H') ∧ Ext H H' := by
  obtain ⟨n, rfl⟩ : ∃ m, n = m + 1 := ⟨n - 1, by omega⟩
  have key : ∃ w H', callS tabT lf (n + 1) 152 [.agg [gv, rv, dv], .agg (gdC x)] H = some (w, H') ∧ w = .int .i64 ((0 : Nat) : Int) ∧ Ext H H' := by
    obtain ⟨hg, ht, hs⟩ := hx
    obtain ⟨st, g, ⟨t1, t2⟩, s⟩ := x
    have hg : g ∈ namN k := hg
    have ht : (t1, t2) ∈ titL := ht
    have hs : s ∈ secL := hs
    obtain ⟨H1, hH1⟩ : ∃ H1, H.push (.row [gv, rv, dv] 30 true false 0) = H1 := ⟨_, rfl⟩
    obtain ⟨H2, hH2⟩ : ∃ H2, H1.push (.row [.bool st, .str g, .int .i64 (t1 : Int), .str t2, .str s] 114 true false 0) = H2 := ⟨_, rfl⟩
    have hn1 : H1.next = H.next + 1 := by rw [← hH1]; rfl
    have hn2 : H2.next = H1.next + 1 := by rw [← hH2]; rfl
    have hE2 : Ext H H2 := by rw [← hH2, ← hH1]; exact ((Ext.refl H).push _).push _
    have hp1 : H2.get H.next = some (.row [gv, rv, dv] 30 true false 0) := by rw [← hH2, get_push_old (by omega), ← hH1]; exact get_push_self _
    have hp2 : H2.get (H.next + 1) = some (.row [.bool st, .str g, .int .i64 (t1 : Int), .str t2, .str s] 114 true false 0) := by rw [← hn1, ← hH2]; exact get_push_self _
    obtain ⟨H3, hc3, hE3⟩ := exists_ok (lf := lf) (n := n) (hp.imp fun v z L h => h.keep hE2) hg (by omega) hlf
    have hp3 := (hE3.2 _ (by omega)).trans hp2
    have hgd : gdC ⟨st, g, (t1, t2), s⟩ = [.bool st, .str g, .int .i64 (t1 : Int), .str t2, .str s] := rfl
    have hv : callS tabT lf n 48 [.agg [.int .i64 (t1 : Int), .str t2]] H3 = some (.bool true, H3) := valid_ok (t := (t1, t2)) (List.mem_append_left _ (List.mem_append_left _ ht)) (by omega)
    have ha := any_ok (lf := lf) (n := n) (H := H3) hs (by omega)
    have htr := trim_ok (lf := lf) (n := n) (H := H3) hs (by omega)
    have hsl := secL_len s hs
    have tb : beqS (.agg [.int .i64 (t1 : Int), .str t2]) (.agg [.int .i64 (t1 : Int), .str t2]) = true := bq_tt (t1, t2)
    rw [hgd]
    refine call_code tab152 (by simp only [c152, go_sem, List.reduceReplicate, Nat.reduceAdd, Nat.reduceSub]; exact rfl) ?_
    simp only [c152]
    refine stp (And.intro @hH1 (And.intro @hn1 (And.intro @hH2 (And.intro @hp1 @hp2)))) ?_
    refine kst trivial hc3 ?_
    refine stp trivial ?_
    refine cstE trivial ?_
    refine EC_skip (seqR_normal (EC_seq ?_))
    refine EC_seq ?_
    refine EC_draw rfl ?_
    refine stp @hp3 ?_
    refine ED_call (by exact sfc trivial) hv (by (simp only [List.set_cons_zero, List.set_cons_succ]; with_reducible rfl)) ?_
    have d1 : decide ((s.length : Int) > ((100 : Nat) : Int)) = false := by rw [decide_eq_false_iff_not]; omega
    have d2 : decide (s ≠ s) = false := by simp
    refine stp (And.intro @hp3 @d1) ?_
    refine ED_call (by exact sfc trivial) ha (by (simp only [List.set_cons_zero, List.set_cons_succ]; with_reducible rfl)) ?_
    refine stp @hp3 ?_
    refine ED_call (by exact sfc trivial) htr (by (simp only [List.set_cons_zero, List.set_cons_succ]; with_reducible rfl)) ?_
    refine stp (And.intro @hp3 @d2) ?_
    refine ⟨?_, fun h => (by cases h), _, (by simp only [List.getLast?_cons_cons, List.getLast?_singleton]; first | done | with_reducible rfl), ?_⟩
    · exact rdp (And.intro @hp3 (And.intro @d1 (And.intro @d2 @tb)))
    · refine stp trivial ?_
      refine cstE trivial ?_
      refine stp trivial ?_
      refine ret1 trivial ?_
      exact (⟨rfl, hE2.trans hE3⟩)
  obtain ⟨w, H', h, rfl, hE⟩ := key
  exact ⟨H', h, hE⟩
theorem rule_ok {k : Nat} {gv rv dv : SV} {G : List Gr} {R : List Rl} {E : List Gd} {x : Rl} (hp : PolR (RSl H) k gv rv dv G R E) (hx : RlOK k x) (hn : 5 ≤ n) (hlf : 1000 < lf) :
    ∃ H', callS tabT lf n 151 [.agg [gv, rv, dv], .agg (rlC x)] H = some (.int .i64 ((0 : Nat) : Int), H') ∧ Ext H H' := by
  obtain ⟨n, rfl⟩ : ∃ m, n = m + 1 := ⟨n - 1, by omega⟩
  have key : ∃ w H', callS tabT lf (n + 1) 151 [.agg [gv, rv, dv], .agg (rlC x)] H = some (w, H') ∧ w = .int .i64 ((0 : Nat) : Int) ∧ Ext H H' := by
    obtain ⟨h1, h5, hg, hsc⟩ := hx
    obtain ⟨al, r, g, sk, ⟨t1, t2⟩⟩ := x
    have h1 : 1 ≤ r := h1
    have h5 : r ≤ 5 := h5
    have hg : g ∈ namN k := hg
    have hsc : (sk = 1 ∧ (t1, t2) = ((0, []) : Tt)) ∨ (sk = 2 ∧ t1 < 6 ∧ t2 = []) ∨ (sk = 3 ∧ (t1, t2) ∈ titL) := hsc
    obtain ⟨H1, hH1⟩ : ∃ H1, H.push (.row [gv, rv, dv] 30 true false 0) = H1 := ⟨_, rfl⟩
    obtain ⟨H2, hH2⟩ : ∃ H2, H1.push (.row [.bool al, .int .i64 (r : Int), .str g, .int .i64 (sk : Int), .int .i64 (t1 : Int), .str t2] 112 true false 0) = H2 := ⟨_, rfl⟩
    have hn1 : H1.next = H.next + 1 := by rw [← hH1]; rfl
    have hn2 : H2.next = H1.next + 1 := by rw [← hH2]; rfl
    have hE2 : Ext H H2 := by rw [← hH2, ← hH1]; exact ((Ext.refl H).push _).push _
    have hp1 : H2.get H.next = some (.row [gv, rv, dv] 30 true false 0) := by rw [← hH2, get_push_old (by omega), ← hH1]; exact get_push_self _
    have hp2 : H2.get (H.next + 1) = some (.row [.bool al, .int .i64 (r : Int), .str g, .int .i64 (sk : Int), .int .i64 (t1 : Int), .str t2] 112 true false 0) := by rw [← hn1, ← hH2]; exact get_push_self _
    obtain ⟨H3, hc3, hE3⟩ := exists_ok (lf := lf) (n := n) (hp.imp fun v z L h => h.keep hE2) hg (by omega) hlf
    have hp3 := (hE3.2 _ (by omega)).trans hp2
    have hgd : rlC ⟨al, r, g, sk, (t1, t2)⟩ = [.bool al, .int .i64 (r : Int), .str g, .int .i64 (sk : Int), .int .i64 (t1 : Int), .str t2] := rfl
    obtain ⟨H4, hH4⟩ : ∃ H4, (H3.push (.row [.int .i64 ((0 : Nat) : Int), .str []] 37 true false 0)).put H3.next (.row [.int .i64 (t1 : Int), .str t2] 37 true false 0) = H4 := ⟨_, rfl⟩
    have hE4 : Ext H3 H4 := by rw [← hH4]; exact ((Ext.refl H3).push _).put (Nat.le_refl _) _
    have hp5 : H4.get H3.next = some (.row [.int .i64 (t1 : Int), .str t2] 37 true false 0) := by rw [← hH4]; exact get_put_self _ _
    have hp4 := (hE4.2 _ (by have := hE3.1; omega)).trans hp3
    have d1 : decide ((r : Int) < ((1 : Nat) : Int)) = false := by rw [decide_eq_false_iff_not]; omega
    have d2 : decide ((r : Int) > ((5 : Nat) : Int)) = false := by rw [decide_eq_false_iff_not]; omega
    rw [hgd]
    refine call_code tab151 (by simp only [c151, go_sem, List.reduceReplicate, Nat.reduceAdd, Nat.reduceSub]; exact rfl) ?_
    simp only [c151]
    refine stp (And.intro @hH1 (And.intro @hn1 (And.intro @hH2 (And.intro @hp2 (And.intro @d1 @d2))))) ?_
    refine cstE trivial ?_
    refine stp (And.intro @hH1 (And.intro @hn1 (And.intro @hH2 (And.intro @hp1 @hp2)))) ?_
    refine kst trivial hc3 ?_
    refine stp trivial ?_
    refine cstE trivial ?_
    refine stp (And.intro @hp3 (And.intro @hH4 @hp4)) ?_
    have hrt : rowL (some (.row [.int .i64 (t1 : Int), .str t2] 37 true false 0)) 0 2 = some [.int .i64 (t1 : Int), .str t2] := rfl
    refine EC_cutR (fun ts H5 => H5 = H4 ∧ ∃ z : Nat → SV, ts = (z 0 :: z 1 :: z 2 :: z 3 :: (.int .i64 ((0 : Nat) : Int)) :: z 5 :: (.bool true) :: z 7 :: z 8 :: z 9 :: z 10 :: z 11 :: z 12 :: z 13 :: z 14 :: z 15 :: z 16 :: z 17 :: z 18 :: z 19 :: z 20 :: z 21 :: z 22 :: z 23 :: z 24 :: z 25 :: z 26 :: z 27 :: z 28 :: z 29 :: z 30 :: z 31 :: z 32 :: z 33 :: z 34 :: z 35 :: z 36 :: z 37 :: z 38 :: z 39 :: z 40 :: z 41 :: z 42 :: z 43 :: z 44 :: z 45 :: z 46 :: z 47 :: z 48 :: z 49 :: z 50 :: z 51 :: [] : T) ∧ (True)) ?_ ?_
    · rcases hsc with ⟨rfl, e⟩ | ⟨rfl, h6, rfl⟩ | ⟨rfl, ht⟩
      · cases e
        have heq := eqv_tt (0, []) (0, [])
        rw [decide_eq_true rfl] at heq
        have heq : eqVal true [(0, 1), (1, 2)] (.agg [.int .i64 ((0 : Nat) : Int), .str []]) (.agg [.int .i64 ((0 : Nat) : Int), .str []]) = some true := heq
        refine cstT trivial ?_
        refine stp (And.intro @hp5 @heq) ?_
        exact ⟨rfl, rfl, rfl, (frame_in (by rfl) (trivial))⟩
      · have c1 : decide (((2 : Nat) : Int) = ((1 : Nat) : Int)) = false := by decide
        have c3 : decide ((t1 : Int) ≥ ((0 : Nat) : Int)) = true := by rw [decide_eq_true_eq]; omega
        have c4 : decide ((t1 : Int) < ((6 : Nat) : Int)) = true := by rw [decide_eq_true_eq]; omega
        refine cstE @c1 ?_
        refine stp trivial ?_
        refine cstT trivial ?_
        refine stp (And.intro @hp5 (And.intro @c3 @c4)) ?_
        exact ⟨rfl, rfl, rfl, (frame_in (by rfl) (trivial))⟩
      · have c1 : decide (((3 : Nat) : Int) = ((1 : Nat) : Int)) = false := by decide
        have c2 : decide (((3 : Nat) : Int) = ((2 : Nat) : Int)) = false := by decide
        have hv : callS tabT lf n 48 [.agg [.int .i64 (t1 : Int), .str t2]] H4 = some (.bool true, H4) := valid_ok (t := (t1, t2)) (List.mem_append_left _ (List.mem_append_left _ ht)) (by omega)
        refine cstE @c1 ?_
        refine stp trivial ?_
        refine cstE @c2 ?_
        refine stp trivial ?_
        refine cstT trivial ?_
        refine stp @hp5 ?_
        refine kst trivial hv ?_
        refine stp trivial ?_
        exact ⟨rfl, rfl, rfl, (frame_in (by rfl) (trivial))⟩
    · rintro ts' H5 ⟨rfl, ⟨z, rfl, -⟩⟩
      refine stp trivial ?_
      refine cstE trivial ?_
      refine stp trivial ?_
      refine ret1 trivial ?_
      exact (⟨rfl, hE2.trans (hE3.trans hE4)⟩)
  obtain ⟨w, H', h, rfl, hE⟩ := key
  exact ⟨H', h, hE⟩
end
end Go.Sh
end
