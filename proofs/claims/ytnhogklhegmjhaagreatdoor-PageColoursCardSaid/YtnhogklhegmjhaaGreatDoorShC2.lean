/-
  The tape of the drawn values: its numbers, and what is chosen by them.
  Texts that are drawn piece by piece: code without loops that only chooses and joins texts is looked through once, by kinds of values.
-/
import Derived.Test.YtnhogklhegmjhaaGreatDoorShC0
import Derived.KernelRfl
set_option linter.all false
section
namespace Go.Sh
set_option maxRecDepth 10000
set_option linter.all false
theorem tab14 : tabT 14 = some (.code c14) := by kernel_rfl
theorem tab18 : tabT 18 = some (.code c18) := by kernel_rfl
section
variable {lf n : Nat} {H : Heap}
def TapeOK (M : Nat) (H : Heap) (kb : Nat) : Prop := kb < M ∧ M ≤ H.next ∧ ∃ (lv : SV) (at_ : Int), H.get kb = some (.row [lv, .int .i64 at_] 61 true false 0) ∧ 0 ≤ at_ ∧
  ((lv = .nils) ∨ ∃ (lb lo len : Nat) (cap : Option Nat) (cs : List SV) (e : TypeId) (ex ro : Bool) (frz : Nat), lv = .slice lb lo len cap 1 ∧ lb ≠ kb ∧ lb < M ∧ H.get lb = some (.row cs e ex ro frz) ∧ len < 140737488355328 ∧
    (∀ i, i < len → ∃ x : Int, cs[lo + i]? = some (.int .i64 x)))
def TapeStep (M : Nat) (H H' : Heap) (kb : Nat) : Prop := H'.next = H.next ∧ (∀ b, b ≠ kb → H'.get b = H.get b) ∧ TapeOK M H' kb
theorem and_small (x : Int) : ∃ r : Int, 0 ≤ r ∧ r < 16777216 ∧ IntKind.wrap .i64 ((BitVec.ofInt 64 x &&& BitVec.ofInt 64 ((16777215 : Nat) : Int)).toNat : Int) = r := by
  have h1 : (BitVec.ofInt 64 x &&& BitVec.ofInt 64 ((16777215 : Nat) : Int)).toNat ≤ 16777215 := by
    rw [BitVec.toNat_and]
    exact Nat.le_trans Nat.and_le_right (by decide)
  exact ⟨_, by omega, by omega, wrap_i64 (by omega) (by omega)⟩
theorem next_ok {M kb : Nat} (hT : TapeOK M H kb) {m : Int} (hm : 0 < m) (hm2 : m < 1000000) (hn : 1 ≤ n) :
    ∃ (r : Int) (H' : Heap), callS tabT lf n 14 [.ptr kb 0, .int .i64 m] H = some (.int .i64 r, H') ∧ 0 ≤ r ∧ r < m ∧ TapeStep M H H' kb := by
  obtain ⟨n, rfl⟩ : ∃ m, n = m + 1 := ⟨n - 1, by omega⟩
  have key : ∃ v H', callS tabT lf (n + 1) 14 [.ptr kb 0, .int .i64 m] H = some (v, H') ∧ ∃ r : Int, v = .int .i64 r ∧ 0 ≤ r ∧ r < m ∧ TapeStep M H H' kb := by
    obtain ⟨hkM, hMn, lv, at_, hk, hat, hl⟩ := hT
    refine call_code tab14 (by simp only [c14, go_sem, List.reduceReplicate, Nat.reduceAdd, Nat.reduceSub]; exact rfl) ?_
    simp only [c14]
    rcases hl with rfl | ⟨lb, lo, len, cap, cs, e, ex, ro, frz, rfl, hne, hbn, hlb, hlen, hcs⟩
    · refine stp @hk ?_
      refine cst trivial (fun hc => ?_) (fun hc => ?_) <;> try simp only [decide_eq_true_eq, decide_eq_false_iff_not, not_true_eq_false, not_false_eq_true, Int.not_lt, Int.not_le, ge_iff_le, gt_iff_lt] at hc
      · refine stp trivial ?_
        refine ret1 trivial ?_
        exact (⟨0, rfl, by omega, by omega, rfl, fun _ _ => rfl, hkM, hMn, .nils, at_, hk, hat, .inl rfl⟩)
      · omega
    · refine stp @hk ?_
      refine cst trivial (fun hc => ?_) (fun hc => ?_) <;> try simp only [decide_eq_true_eq, decide_eq_false_iff_not, not_true_eq_false, not_false_eq_true, Int.not_lt, Int.not_le, ge_iff_le, gt_iff_lt] at hc
      · refine stp trivial ?_
        refine ret1 trivial ?_
        exact (⟨0, rfl, by omega, by omega, rfl, fun _ _ => rfl, hkM, hMn, _, at_, hk, hat, .inr ⟨lb, lo, len, cap, cs, e, ex, ro, frz, rfl, hne, hbn, hlb, hlen, hcs⟩⟩)
      · obtain ⟨x, hx⟩ := hcs at_.toNat (by omega)
        have hx1 : rowL (some (.row cs e ex ro frz)) (lo + at_.toNat) 1 = some [.int .i64 x] := rowL_one hx
        obtain ⟨r, hr0, hr1, hr⟩ := and_small x
        refine stp (And.intro @hk (And.intro @hlb (And.intro @hx1 @hr))) ?_
        have hb1 : IntKind.bits .i64 = 64 := rfl
        refine ret1 (And.intro @hb1 @hr) ?_
        exact (⟨r.tmod m, congrArg (fun y => SV.int .i64 (Int.tmod y m)) hr, Int.tmod_nonneg _ hr0, Int.tmod_lt_of_pos _ hm, rfl, fun b hb => get_put_other hb, hkM, hMn, _, _, get_put_self _ _, (by omega : (0 : Int) ≤ at_ + 1), .inr ⟨lb, lo, len, cap, cs, e, ex, ro, frz, rfl, hne, hbn, by rw [get_put_other hne]; exact hlb, hlen, hcs⟩⟩)
  obtain ⟨v, H', h, r, rfl, h1, h2, h3⟩ := key
  exact ⟨r, H', h, h1, h2, h3⟩
theorem of_ok {M kb : Nat} (hT : TapeOK M H kb) {b : Nat} {L : List (List Nat)} {c : Option Nat} {e : TypeId} {ex ro : Bool} {frz : Nat} (hb : H.get b = some (.row (L.map SV.str) e ex ro frz)) (hbk : b ≠ kb) (h0 : 0 < L.length) (hL : L.length < 1000) (hn : 2 ≤ n) :
    ∃ (s : List Nat) (H' : Heap), callS tabT lf n 18 [.ptr kb 0, .slice b 0 L.length c 1] H = some (.str s, H') ∧ s ∈ L ∧ TapeStep M H H' kb := by
  obtain ⟨n, rfl⟩ : ∃ m, n = m + 1 := ⟨n - 1, by omega⟩
  have key : ∃ v H', callS tabT lf (n + 1) 18 [.ptr kb 0, .slice b 0 L.length c 1] H = some (v, H') ∧ ∃ s, v = .str s ∧ s ∈ L ∧ TapeStep M H H' kb := by
    refine call_code tab18 (by simp only [c18, go_sem, List.reduceReplicate, Nat.reduceAdd, Nat.reduceSub]; exact rfl) ?_
    simp only [c18]
    refine stp trivial ?_
    obtain ⟨r, H1, hcall, hr0, hr1, hst⟩ := next_ok (lf := lf) (n := n) hT (m := (L.length : Int)) (by omega) (by omega) (by omega)
    refine kst trivial hcall ?_
    have hlt : r.toNat < L.length := by omega
    have hget : (L.map SV.str)[r.toNat]? = some (.str L[r.toNat]) := by simp [hlt]
    have hb1 : H1.get b = some (.row (L.map SV.str) e ex ro frz) := by rw [hst.2.1 b hbk]; exact hb
    have hrow : rowL (some (.row (L.map SV.str) e ex ro frz)) r.toNat 1 = some [.str L[r.toNat]] := rowL_one hget
    refine stp (And.intro @hb1 @hrow) ?_
    refine ret1 trivial ?_
    exact (⟨_, rfl, List.getElem_mem hlt, hst⟩)
  obtain ⟨v, H', h, s, rfl, h1, h2⟩ := key
  exact ⟨s, H', h, h1, h2⟩
def GS (M kb : Nat) (H H' : Heap) : Prop := H.next ≤ H'.next ∧ (∀ b, b < H.next → b ≠ kb → H'.get b = H.get b) ∧ TapeOK M H' kb
theorem TapeOK.keep {M kb : Nat} {H H' : Heap} (h : TapeOK M H kb) (hn : H.next ≤ H'.next) (hk : ∀ b, b < M → H'.get b = H.get b) : TapeOK M H' kb := by
  obtain ⟨h1, h2, lv, at_, h3, h4, h5⟩ := h
  refine ⟨h1, Nat.le_trans h2 hn, lv, at_, (hk _ h1).trans h3, h4, ?_⟩
  rcases h5 with rfl | ⟨lb, lo, len, cap, cs, e, ex, ro, frz, rfl, hne, hl, hg, hr⟩
  · exact .inl rfl
  · exact .inr ⟨lb, lo, len, cap, cs, e, ex, ro, frz, rfl, hne, hl, (hk _ hl).trans hg, hr⟩
theorem TapeOK.push {M kb : Nat} {H : Heap} (h : TapeOK M H kb) (o : SObj) : TapeOK M (H.push o) kb :=
  h.keep (Nat.le_succ _) fun b hb => get_push_old (Nat.lt_of_lt_of_le hb h.2.1)
theorem TapeOK.put {M kb b : Nat} {H : Heap} (h : TapeOK M H kb) (hb : M ≤ b) (o : SObj) : TapeOK M (H.put b o) kb :=
  h.keep (Nat.le_refl _) fun c hc => get_put_other (by omega)
theorem GS.refl {M kb : Nat} {H : Heap} (h : TapeOK M H kb) : GS M kb H H := ⟨Nat.le_refl _, fun _ _ _ => rfl, h⟩
theorem GS.trans {M kb : Nat} {H1 H2 H3 : Heap} (h : GS M kb H1 H2) (k : GS M kb H2 H3) : GS M kb H1 H3 :=
  ⟨Nat.le_trans h.1 k.1, fun b hb hne => (k.2.1 b (Nat.lt_of_lt_of_le hb h.1) hne).trans (h.2.1 b hb hne), k.2.2⟩
theorem GS.push {M kb : Nat} {H1 H2 : Heap} (h : GS M kb H1 H2) (o : SObj) : GS M kb H1 (H2.push o) :=
  ⟨Nat.le_succ_of_le h.1, fun b hb hne => by rw [get_push_old (Nat.lt_of_lt_of_le hb h.1)]; exact h.2.1 b hb hne, h.2.2.push o⟩
theorem GS.put {M kb b : Nat} {H1 H2 : Heap} (h : GS M kb H1 H2) (hb : H1.next ≤ b) (hM : M ≤ H1.next) (o : SObj) : GS M kb H1 (H2.put b o) :=
  ⟨h.1, fun c hc hne => by rw [get_put_other (by omega)]; exact h.2.1 c hc hne, h.2.2.put (Nat.le_trans hM hb) o⟩
theorem TapeStep.gs {M kb : Nat} {H1 H2 H3 : Heap} (h : GS M kb H1 H2) (k : TapeStep M H2 H3 kb) : GS M kb H1 H3 :=
  h.trans ⟨Nat.le_of_eq k.1.symm, fun b _ hne => k.2.1 b hne, k.2.2⟩
theorem GS.old {M kb b : Nat} {H1 H2 : Heap} (h : GS M kb H1 H2) (hb : b < H1.next) (hne : b ≠ kb) {o : SObj} (hg : H1.get b = some o) : H2.get b = some o := (h.2.1 b hb hne).trans hg
def wordL : List (List Nat) := [[97], [120, 32, 121], [49, 50], [], [98], [48], [45, 51], [65, 98], [32], [122]]
def nameL : List (List Nat) := [[97, 110, 110], [98, 111, 98], [115, 116, 97, 102, 102], [109, 111, 100, 115], [122, 111, 101]]
def userL : List (List Nat) := [[97, 110, 110], [98, 111, 98], [], [122, 111, 101]]
def titleL : List (List Nat) := [[65], [66], [65, 47, 66], [67], [84], [85, 47, 120], [65, 47, 66, 47, 99], [76, 111, 110, 103, 32, 110, 97, 109, 101], [49], [88]]
def mainL : List (List Nat) := [[65], [66], [65, 47, 66], [67], [68]]
theorem tab149 : tabT 149 = some (.code c149) := by kernel_rfl
theorem tab41 : tabT 41 = some (.code c41) := by kernel_rfl
theorem tab16 : tabT 16 = some (.code c16) := by kernel_rfl
theorem tab6 : tabT 6 = some (.code c6) := by kernel_rfl
theorem tab17 : tabT 17 = some (.code c17) := by kernel_rfl
theorem of_lit {M kb : Nat} (hT : TapeOK M H kb) (N : Nat) {L : List (List Nat)} {cs : List SV} (hcs : cs = L.map SV.str) (hN : L.length = N) (h0 : 0 < N) (hL : N < 1000) (hn : 2 ≤ n) :
    ∃ (s : List Nat) (H' : Heap), callS tabT lf n 18 [.ptr kb 0, .slice H.next 0 N (some N) 1] (H.push (.row cs 9 true false 0)) = some (.str s, H') ∧ s ∈ L ∧ GS M kb H H' ∧ H'.next = H.next + 1 := by
  subst hcs hN
  have hne : H.next ≠ kb := by have := hT.1; have := hT.2.1; omega
  obtain ⟨s, H', h, hs, hst⟩ := of_ok (lf := lf) (hT.push (.row (L.map SV.str) 9 true false 0)) (c := some L.length) (get_push_self _) hne h0 hL hn
  exact ⟨s, H', h, hs, hst.gs ((GS.refl hT).push _), hst.1⟩
theorem word_ok {M kb : Nat} (hT : TapeOK M H kb) (hn : 3 ≤ n) : ∃ s H', callS tabT lf n 149 [.ptr kb 0] H = some (.str s, H') ∧ s ∈ wordL ∧ GS M kb H H' := by
  obtain ⟨n, rfl⟩ : ∃ m, n = m + 1 := ⟨n - 1, by omega⟩
  have key : ∃ v H', callS tabT lf (n + 1) 149 [.ptr kb 0] H = some (v, H') ∧ ∃ s, v = .str s ∧ s ∈ wordL ∧ GS M kb H H' := by
    obtain ⟨s, H1, hc, hs, hg, _⟩ := of_lit (lf := lf) (n := n) hT 10 (L := wordL) rfl rfl (by decide) (by decide) (by omega)
    refine call_code tab149 (by simp only [c149, go_sem, List.reduceReplicate, Nat.reduceAdd, Nat.reduceSub]; exact rfl) ?_
    simp only [c149]
    refine stp trivial ?_
    refine kst trivial hc ?_
    refine stp trivial ?_
    refine ret1 trivial ?_
    exact (⟨s, rfl, hs, hg⟩)
  obtain ⟨v, H', h, s, rfl, h1, h2⟩ := key
  exact ⟨s, H', h, h1, h2⟩
theorem name_ok {M kb : Nat} (hT : TapeOK M H kb) (hn : 3 ≤ n) : ∃ s H', callS tabT lf n 41 [.ptr kb 0] H = some (.str s, H') ∧ s ∈ nameL ∧ GS M kb H H' := by
  obtain ⟨n, rfl⟩ : ∃ m, n = m + 1 := ⟨n - 1, by omega⟩
  have key : ∃ v H', callS tabT lf (n + 1) 41 [.ptr kb 0] H = some (v, H') ∧ ∃ s, v = .str s ∧ s ∈ nameL ∧ GS M kb H H' := by
    obtain ⟨s, H1, hc, hs, hg, _⟩ := of_lit (lf := lf) (n := n) hT 5 (L := nameL) rfl rfl (by decide) (by decide) (by omega)
    refine call_code tab41 (by simp only [c41, go_sem, List.reduceReplicate, Nat.reduceAdd, Nat.reduceSub]; exact rfl) ?_
    simp only [c41]
    refine stp trivial ?_
    refine kst trivial hc ?_
    refine stp trivial ?_
    refine ret1 trivial ?_
    exact (⟨s, rfl, hs, hg⟩)
  obtain ⟨v, H', h, s, rfl, h1, h2⟩ := key
  exact ⟨s, H', h, h1, h2⟩
theorem user_ok {M kb : Nat} (hT : TapeOK M H kb) (hn : 3 ≤ n) : ∃ s H', callS tabT lf n 16 [.ptr kb 0] H = some (.str s, H') ∧ s ∈ userL ∧ GS M kb H H' := by
  obtain ⟨n, rfl⟩ : ∃ m, n = m + 1 := ⟨n - 1, by omega⟩
  have key : ∃ v H', callS tabT lf (n + 1) 16 [.ptr kb 0] H = some (v, H') ∧ ∃ s, v = .str s ∧ s ∈ userL ∧ GS M kb H H' := by
    obtain ⟨s, H1, hc, hs, hg, _⟩ := of_lit (lf := lf) (n := n) hT 4 (L := userL) rfl rfl (by decide) (by decide) (by omega)
    refine call_code tab16 (by simp only [c16, go_sem, List.reduceReplicate, Nat.reduceAdd, Nat.reduceSub]; exact rfl) ?_
    simp only [c16]
    refine stp trivial ?_
    refine kst trivial hc ?_
    refine stp trivial ?_
    refine ret1 trivial ?_
    exact (⟨s, rfl, hs, hg⟩)
  obtain ⟨v, H', h, s, rfl, h1, h2⟩ := key
  exact ⟨s, H', h, h1, h2⟩
def ttl (sp : Nat) (nm : List Nat) : SV := .agg [.int .i64 (sp : Int), .str nm]
theorem main_ok {M kb : Nat} (hT : TapeOK M H kb) (hn : 3 ≤ n) : ∃ s H', callS tabT lf n 17 [.ptr kb 0] H = some (ttl 0 s, H') ∧ s ∈ mainL ∧ GS M kb H H' := by
  obtain ⟨n, rfl⟩ : ∃ m, n = m + 1 := ⟨n - 1, by omega⟩
  have key : ∃ v H', callS tabT lf (n + 1) 17 [.ptr kb 0] H = some (v, H') ∧ ∃ s, v = ttl 0 s ∧ s ∈ mainL ∧ GS M kb H H' := by
    have hT1 := hT.push (.row [.int .i64 ((0 : Nat) : Int), .str []] 37 true false 0)
    obtain ⟨s, H1, hc, hs, hg, hnx⟩ := of_lit (lf := lf) (n := n) hT1 5 (L := mainL) rfl rfl (by decide) (by decide) (by omega)
    have hne : H.next ≠ kb := by have := hT.1; have := hT.2.1; omega
    have hr := hg.old (b := H.next) (Nat.lt_succ_self _) hne (get_push_self _)
    refine call_code tab17 (by simp only [c17, go_sem, List.reduceReplicate, Nat.reduceAdd, Nat.reduceSub]; exact rfl) ?_
    simp only [c17]
    refine stp trivial ?_
    refine kst trivial hc ?_
    refine stp @hr ?_
    refine ret1 trivial ?_
    exact (⟨s, rfl, hs, ((GS.refl hT).push _ |>.trans hg).put (Nat.le_refl _) hT.2.1 _⟩)
  obtain ⟨v, H', h, s, rfl, h1, h2⟩ := key
  exact ⟨s, H', h, h1, h2⟩
theorem title_ok {M kb : Nat} (hT : TapeOK M H kb) (hn : 3 ≤ n) : ∃ sp s H', callS tabT lf n 6 [.ptr kb 0] H = some (ttl sp s, H') ∧ sp < 6 ∧ s ∈ titleL ∧ GS M kb H H' := by
  obtain ⟨n, rfl⟩ : ∃ m, n = m + 1 := ⟨n - 1, by omega⟩
  have key : ∃ v H', callS tabT lf (n + 1) 6 [.ptr kb 0] H = some (v, H') ∧ ∃ sp s, v = ttl sp s ∧ sp < 6 ∧ s ∈ titleL ∧ GS M kb H H' := by
    have hT1 := hT.push (.row [.int .i64 ((0 : Nat) : Int), .str []] 37 true false 0)
    obtain ⟨r, H1, hc1, hr0, hr1, hst⟩ := next_ok (lf := lf) (n := n) hT1 (m := ((6 : Nat) : Int)) (by omega) (by omega) (by omega)
    obtain ⟨s, H2, hc, hs, hg, hnx⟩ := of_lit (lf := lf) (n := n) hst.2.2 10 (L := titleL) rfl rfl (by decide) (by decide) (by omega)
    have hne : H.next ≠ kb := by have := hT.1; have := hT.2.1; omega
    have hg1 := hst.gs ((GS.refl hT).push (.row [.int .i64 ((0 : Nat) : Int), .str []] 37 true false 0))
    have hr' := (hst.gs (GS.refl hT1) |>.trans hg).old (b := H.next) (Nat.lt_succ_self _) hne (get_push_self _)
    obtain ⟨k, rfl⟩ : ∃ k : Nat, r = (k : Int) := ⟨r.toNat, by omega⟩
    refine call_code tab6 (by simp only [c6, go_sem, List.reduceReplicate, Nat.reduceAdd, Nat.reduceSub]; exact rfl) ?_
    simp only [c6]
    refine stp trivial ?_
    refine kst trivial hc1 ?_
    refine stp trivial ?_
    refine kst trivial hc ?_
    refine stp @hr' ?_
    refine ret1 trivial ?_
    exact (⟨k, s, rfl, by omega, hs, (hg1.trans hg).put (Nat.le_refl _) hT.2.1 _⟩)
  obtain ⟨v, H', h, sp, s, rfl, h1, h2, h3⟩ := key
  exact ⟨sp, s, H', h, h1, h2, h3⟩
end
end Go.Sh
end
section
namespace Go.Sh
set_option maxRecDepth 10000
set_option linter.all false
inductive AT where
  | top
  | str (n : Nat)
  | num (k : Option Nat)
  | bol
  | tape
  | lit (n len : Nat)
def AT.ok (M kb : Nat) (H : Heap) : AT → SV → Prop
  | .top, _ => True
  | .str n, v => ∃ s, v = .str s ∧ s.length ≤ n
  | .num none, v => ∃ k : Int, v = .int .i64 k
  | .num (some k), v => v = .int .i64 (k : Int)
  | .bol, v => ∃ b, v = .bool b
  | .tape, v => v = .ptr kb 0
  | .lit n len, v => ∃ (b : Nat) (L : List (List Nat)), v = .slice b 0 n (some n) 1 ∧ L.length = n ∧ (∀ s ∈ L, s.length ≤ len) ∧ M ≤ b ∧ b < H.next ∧ ∃ e ex ro frz, H.get b = some (.row (L.map SV.str) e ex ro frz)
theorem AT.keep {M kb : Nat} {H H' : Heap} (hg : GS M kb H H') (hk : kb < M) {a : AT} {v : SV} (h : a.ok M kb H v) : a.ok M kb H' v := by
  cases a with
  | lit n len =>
    obtain ⟨b, L, h1, h2, h3, h4, h5, e, ex, ro, frz, h6⟩ := h
    exact ⟨b, L, h1, h2, h3, h4, Nat.lt_of_lt_of_le h5 hg.1, e, ex, ro, frz, hg.old h5 (by omega) h6⟩
  | num k => cases k <;> simpa only [AT.ok] using h
  | _ => simpa only [AT.ok] using h
abbrev AE := List AT
structure Fits (M kb : Nat) (H : Heap) (E : AE) (ts : T) : Prop where
  len : E.length = ts.length
  at_ : ∀ (i : Nat) (a : AT) (v : SV), E[i]? = some a → ts[i]? = some v → a.ok M kb H v
def cstA : SV → AT
  | .str s => .str s.length
  | .int .i64 (.ofNat k) => .num (some k)
  | .bool _ => .bol
  | _ => .top
def aX (E : AE) : X → AT
  | .t n => E.getD n .top
  | .c v => cstA v
def zerosA : List SV → Bool
  | [] => true
  | .str [] :: l => zerosA l
  | _ :: _ => false
def partsA (E : AE) (n : Nat) : List (Nat × Nat × X) → Option Nat
  | [] => some 0
  | (o, z, x) :: l => match aX E x with
    | .str m => match Nat.beq z 1 && Nat.ble (o + 1) n with
      | true => match partsA E n l with
        | some k => some (Nat.max m k)
        | none => none
      | false => none
    | _ => none
def aOp (E : AE) : SOp → Option AT
  | .mv x => some (aX E x)
  | .bin .add x y => match aX E x, aX E y with
    | .str a, .str b => match Nat.ble (a + b) 100000 with
      | true => some (.str (a + b))
      | false => none
    | _, _ => none
  | .bin .sub x y => match aX E x, aX E y with
    | .num (some a), .num (some b) => match Nat.ble b a && Nat.ble a 1000 with
      | true => some (.num (some (a - b)))
      | false => none
    | _, _ => none
  | .bin .eql x y => match aX E x, aX E y with
    | .num _, .num _ => some .bol
    | _, _ => none
  | .bin .leq x y => match aX E x, aX E y with
    | .num _, .num _ => some .bol
    | _, _ => none
  | .bslice _ 1 n zero parts => match zerosA zero && Nat.beq zero.length n && Nat.blt 0 n && Nat.blt n 1000 with
    | true => match partsA E n parts with
      | some k => some (.lit n k)
      | none => none
    | false => none
  | _ => none
def aCall (f : FuncId) (zs : List AT) : Option AT := match f, zs with
  | 18, [.tape, .lit n len] => match Nat.blt 0 n && Nat.blt n 1000 with
    | true => some (.str len)
    | false => none
  | 149, [.tape] => some (.str 3)
  | 14, [.tape, .num (some m)] => match Nat.blt 0 m && Nat.blt m 1000000 with
    | true => some (.num none)
    | false => none
  | 88, [.tape, .num (some 0)] => some (.str 3)
  | _, _ => none
def aOper (E : AE) : SOper → Option AE
  | ⟨some d, .op s, none⟩ => match aOp E s with
    | some a => some (E.set d a)
    | none => none
  | ⟨some d, .call f xs, none⟩ => match aCall f (xs.map (aX E)) with
    | some a => some (E.set d a)
    | none => none
  | _ => none
def aOps : List SOper → AE → Option AE
  | [], E => some E
  | o :: os, E => match aOper E o with
    | some E' => aOps os E'
    | none => none
def aCode (r lim : Nat) : SCode → AE → Option (Option AE)
  | .skip, E => some (some E)
  | .reg ops, E => match aOps ops E with
    | some E' => some (some E')
    | none => none
  | .seq a b, E => match aCode r lim a E with
    | some (some E') => aCode r lim b E'
    | x => x
  | .cond x a b, E => match aX E x with
    | .bol => match aCode r lim a E, aCode r lim b E with
      | some none, some q => some q
      | some q, some none => some q
      | _, _ => none
    | _ => none
  | .block _ b, E => aCode r lim b E
  | .ret, E => match E.getD r .top with
    | .str n => match Nat.ble n lim with
      | true => some none
      | false => none
    | _ => none
  | _, _ => none
section
variable {M kb : Nat} {H : Heap} {E : AE} {ts : T}
theorem aX_ok (h : Fits M kb H E ts) (x : X) : (aX E x).ok M kb H (x.ev ts) := by
  cases x with
  | t n =>
    show (E.getD n .top).ok M kb H (ts.getD n SV.undef)
    cases he : E[n]? with
    | none => simp [List.getD_eq_getElem?_getD, he, AT.ok]
    | some a =>
      have hl : n < ts.length := by rw [← h.len]; exact (List.getElem?_eq_some_iff.1 he).1
      have := h.at_ n a ts[n] he (List.getElem?_eq_getElem hl)
      simpa [List.getD_eq_getElem?_getD, he, hl] using this
  | c v =>
    show (cstA v).ok M kb H v
    unfold cstA
    split <;> simp only [AT.ok] <;> first | exact ⟨_, rfl, Nat.le_refl _⟩ | exact ⟨_, rfl⟩ | rfl | trivial
theorem Fits.set {a : AT} {v : SV} (h : Fits M kb H E ts) (ha : a.ok M kb H v) (d : Nat) : Fits M kb H (E.set d a) (ts.set d v) where
  len := by simp [h.len]
  at_ i b u hb hu := by
    rw [List.getElem?_set] at hb hu
    by_cases e : d = i
    · rw [if_pos e] at hb hu
      split at hb
      · split at hu
        · cases hb; cases hu; exact ha
        · cases hu
      · cases hb
    · rw [if_neg e] at hb hu
      exact h.at_ i b u hb hu
theorem Fits.keep {H' : Heap} (h : Fits M kb H E ts) (hg : GS M kb H H') (hk : kb < M) : Fits M kb H' E ts := ⟨h.len, fun i a v h1 h2 => AT.keep hg hk (h.at_ i a v h1 h2)⟩
theorem zerosA_eq : ∀ {cs : List SV}, zerosA cs = true → cs = (List.replicate cs.length []).map SV.str
  | [], _ => rfl
  | v :: cs, h => by
    cases v <;> try (cases h; done)
    rename_i s
    cases s with
    | cons a s => cases h
    | nil =>
      have := zerosA_eq (cs := cs) h
      rw [List.length_cons, List.replicate_succ, List.map_cons, ← this]
theorem fill_strs (h : Fits M kb H E ts) {n lim : Nat} : ∀ {parts : List (Nat × Nat × X)} {L : List (List Nat)} {k : Nat}, L.length = n → (∀ s ∈ L, s.length ≤ lim) → partsA E n parts = some k → k ≤ lim →
    ∃ L' : List (List Nat), fillS ts (L.map SV.str) parts = some (L'.map SV.str) ∧ L'.length = n ∧ ∀ s ∈ L', s.length ≤ lim
  | [], L, k, hl, hs, _, _ => ⟨L, rfl, hl, hs⟩
  | (o, z, x) :: parts, L, k, hl, hs, hp, hk => by
    simp only [partsA] at hp
    split at hp <;> try (cases hp; done)
    rename_i m hx
    split at hp <;> try (cases hp; done)
    rename_i hz
    split at hp <;> cases hp
    rename_i k hq
    simp only [Bool.and_eq_true] at hz
    have hz1 := Nat.eq_of_beq_eq_true hz.1
    have hz2 := Nat.le_of_ble_eq_true hz.2
    subst hz1
    have hv := aX_ok h x
    rw [hx] at hv
    simp only [AT.ok] at hv
    obtain ⟨s, hv, hsl⟩ := hv
    have hm : m ≤ lim := Nat.le_trans (Nat.le_max_left _ _) hk
    have hkk : k ≤ lim := Nat.le_trans (Nat.le_max_right _ _) hk
    obtain ⟨L', g1, g2, g3⟩ := fill_strs h (parts := parts) (L := L.set o s) (k := k) (by simp [hl]) (fun t ht => by
      rcases List.mem_or_eq_of_mem_set ht with h1 | rfl
      · exact hs t h1
      · omega) hq hkk
    refine ⟨L', ?_, g2, g3⟩
    rw [fillS, hv]
    have e1 : Nat.ble (o + 1) (L.map SV.str).length = true := by rw [List.length_map, hl]; exact ble_true hz2
    have e2 : splice (L.map SV.str) o [SV.str s] = (L.set o s).map SV.str := by
      have ho : o < L.length := by omega
      rw [List.map_set, splice, List.set_eq_take_append_cons_drop, if_pos (by simpa using ho)]
      rfl
    show (match Nat.beq 1 1 && Nat.ble (o + 1) (L.map SV.str).length with
      | true => fillS ts (splice (L.map SV.str) o [SV.str s]) parts
      | false => none) = _
    rw [e1, e2]
    exact g1
theorem aOp_ok (hT : TapeOK M H kb) (h : Fits M kb H E ts) {s : SOp} {a : AT} (ha : aOp E s = some a) : ∃ v H', evalOp s ts H = some (v, H') ∧ a.ok M kb H' v ∧ GS M kb H H' := by
  have hx := aX_ok h
  cases s with
  | mv x => cases ha; exact ⟨_, H, rfl, hx x, GS.refl hT⟩
  | bin op x y =>
    have h1 := hx x
    have h2 := hx y
    cases op <;> simp only [aOp] at ha <;> try (cases ha; done)
    · split at ha <;> try (cases ha; done)
      rename_i a b e1 e2
      split at ha <;> cases ha
      rename_i hle
      rw [e1] at h1; rw [e2] at h2
      obtain ⟨s, h1, l1⟩ := h1
      obtain ⟨t, h2, l2⟩ := h2
      have hle := Nat.le_of_ble_eq_true hle
      refine ⟨.str (s ++ t), H, ?_, ⟨_, rfl, by rw [List.length_append]; omega⟩, GS.refl hT⟩
      rw [op_bin, h1, h2, bin_sadd (by omega)]
      rfl
    · split at ha <;> try (cases ha; done)
      rename_i a b e1 e2
      split at ha <;> cases ha
      rename_i hle
      rw [Bool.and_eq_true] at hle
      have l1 := Nat.le_of_ble_eq_true hle.1
      have l2 := Nat.le_of_ble_eq_true hle.2
      rw [e1] at h1; rw [e2] at h2
      simp only [AT.ok] at h1 h2
      refine ⟨.int .i64 ((a - b : Nat) : Int), H, ?_, by simp only [AT.ok], GS.refl hT⟩
      rw [op_bin, h1, h2, bin_sub, wrap_i64 (by omega) (by omega), show ((a : Int) - (b : Int)) = ((a - b : Nat) : Int) by omega]
      rfl
    all_goals
      split at ha <;> try (cases ha; done)
      rename_i a b e1 e2
      cases ha
      rw [e1] at h1; rw [e2] at h2
      have g1 : ∃ i : Int, x.ev ts = .int .i64 i := by cases a with | none => simpa only [AT.ok] using h1 | some k => exact ⟨_, by simpa only [AT.ok] using h1⟩
      have g2 : ∃ i : Int, y.ev ts = .int .i64 i := by cases b with | none => simpa only [AT.ok] using h2 | some k => exact ⟨_, by simpa only [AT.ok] using h2⟩
      obtain ⟨i, g1⟩ := g1
      obtain ⟨j, g2⟩ := g2
      first
        | exact ⟨.bool (decide (i = j)), H, by rw [op_bin, g1, g2, bin_eql]; rfl, by simp only [AT.ok]; exact ⟨_, rfl⟩, GS.refl hT⟩
        | exact ⟨.bool (decide (i ≤ j)), H, by rw [op_bin, g1, g2, bin_leq]; rfl, by simp only [AT.ok]; exact ⟨_, rfl⟩, GS.refl hT⟩
  | bslice e z n zero parts =>
    match z, ha with
    | 1, ha =>
    simp only [aOp] at ha
    split at ha <;> try (cases ha; done)
    rename_i hc
    split at ha <;> cases ha
    rename_i k hp
    simp only [Bool.and_eq_true] at hc
    have hn := Nat.eq_of_beq_eq_true hc.1.1.2
    obtain ⟨L', g1, g2, g3⟩ := fill_strs h (L := List.replicate zero.length []) (lim := k) (by simp [hn]) (fun s hs => by rw [List.eq_of_mem_replicate hs]; exact Nat.zero_le _) hp (Nat.le_refl _)
    rw [← zerosA_eq hc.1.1.1] at g1
    refine ⟨.slice H.next 0 n (some n) 1, H.push (.row (L'.map SV.str) e true false 0), ?_, ⟨H.next, L', rfl, g2, g3, hT.2.1, Nat.lt_succ_self _, _, _, _, _, get_push_self _⟩, (GS.refl hT).push _⟩
    rw [op_bslice, g1]
    rfl
  | _ => cases ha
def CallsA (M kb : Nat) (call : CallS) : Prop := ∀ f zs a, aCall f zs = some a → ∀ (vs : List SV) (H : Heap), TapeOK M H kb → vs.length = zs.length → (∀ (i : Nat) (b : AT) (v : SV), zs[i]? = some b → vs[i]? = some v → b.ok M kb H v) →
  ∃ v H', call f vs H = some (v, H') ∧ a.ok M kb H' v ∧ GS M kb H H'
variable {call : CallS} {lf : Nat}
theorem evs_at (xs : List X) : ∀ (i : Nat) (v : SV), (evs ts xs)[i]? = some v → ∃ x, xs[i]? = some x ∧ v = x.ev ts := by
  induction xs with
  | nil => intro i v h; simp [evs] at h
  | cons x xs ih =>
    intro i v h
    cases i with
    | zero => simp [evs] at h; exact ⟨x, rfl, h.symm⟩
    | succ i => simp [evs] at h; obtain ⟨y, h1, h2⟩ := ih i v h; exact ⟨y, by simpa using h1, h2⟩
theorem evs_len (xs : List X) : (evs ts xs).length = xs.length := by induction xs with | nil => rfl | cons x xs ih => simp [evs, ih]
theorem aOps_ok (hcall : CallsA M kb call) : ∀ {os : List SOper} {E E' : AE} {ts : T} {H : Heap}, TapeOK M H kb → Fits M kb H E ts → aOps os E = some E' → EO call os ts H fun ts' H' => Fits M kb H' E' ts' ∧ GS M kb H H'
  | [], E, E', ts, H, hT, h, ha => by cases ha; exact EO_nil ⟨h, GS.refl hT⟩
  | o :: os, E, E', ts, H, hT, h, ha => by
    simp only [aOps] at ha
    split at ha <;> try (cases ha; done)
    rename_i E1 h1
    have step : ∃ d v H1 k, o = ⟨some d, k, none⟩ ∧ evalK call k ts H = some (v, H1) ∧ Fits M kb H1 E1 (ts.set d v) ∧ GS M kb H H1 := by
      unfold aOper at h1
      split at h1
      · rename_i d s
        split at h1 <;> cases h1
        rename_i a hs
        obtain ⟨v, H1, g1, g2, g3⟩ := aOp_ok hT h hs
        exact ⟨d, v, H1, .op s, rfl, g1, (h.keep g3 hT.1).set g2 d, g3⟩
      · rename_i d f xs
        split at h1 <;> cases h1
        rename_i a hs
        obtain ⟨v, H1, g1, g2, g3⟩ := hcall f _ a hs (evs ts xs) H hT (by simp [evs_len]) fun i b v hb hv => by
          obtain ⟨x, hx1, hx2⟩ := evs_at xs i v hv
          simp only [List.getElem?_map, hx1, Option.map_some, Option.some.injEq] at hb
          rw [← hb, hx2]
          exact aX_ok h x
        exact ⟨d, v, H1, .call f xs, rfl, g1, (h.keep g3 hT.1).set g2 d, g3⟩
      · cases h1
    obtain ⟨d, v, H1, k, rfl, g1, g2, g3⟩ := step
    have hk := aOps_ok hcall g3.2.2 g2 ha
    unfold EO at hk ⊢
    obtain ⟨ts', H', e1, e2, e3⟩ := hk
    exact ⟨ts', H', by simp only [evalOps, wantedS, g1, putT]; exact e1, e2, g3.trans e3⟩
def EndA (M kb : Nat) (H : Heap) (r lim : Nat) (q : Option AE) (x : SExit) (ts : T) (D : DS) (H' : Heap) : Prop := D = [] ∧ GS M kb H H' ∧ match x with
  | .normal => ∃ E, q = some E ∧ Fits M kb H' E ts
  | .ret => ∃ s, ts.getD r SV.undef = .str s ∧ s.length ≤ lim
  | .exit _ => False
theorem aCode_ok (hcall : CallsA M kb call) {r lim : Nat} : ∀ {c : SCode} {E : AE} {q : Option AE} {ts : T} {H : Heap}, TapeOK M H kb → Fits M kb H E ts → aCode r lim c E = some q → EC call lf c ts [] H (EndA M kb H r lim q)
  | .skip, E, q, ts, H, hT, h, ha => by cases ha; exact EC_skip ⟨rfl, GS.refl hT, E, rfl, h⟩
  | .reg ops, E, q, ts, H, hT, h, ha => by
    simp only [aCode] at ha
    split at ha <;> cases ha
    rename_i E' h1
    have hk := aOps_ok hcall hT h h1
    refine EC_reg ?_
    unfold EO at hk ⊢
    obtain ⟨ts', H', e1, e2, e3⟩ := hk
    exact ⟨ts', H', e1, rfl, e3, E', rfl, e2⟩
  | .seq a b, E, q, ts, H, hT, h, ha => by
    simp only [aCode] at ha
    split at ha
    · rename_i E' h1
      have hk := aCode_ok hcall hT h h1
      refine EC_seq ?_
      unfold EC at hk ⊢
      obtain ⟨x, ts', D', H', e1, rfl, e2, e3⟩ := hk
      refine ⟨x, ts', [], H', e1, ?_⟩
      cases x with
      | normal =>
        refine seqR_normal ?_
        obtain ⟨E2, hE, e4⟩ := e3
        cases hE
        have hk := aCode_ok hcall e2.2.2 e4 ha
        unfold EC at hk ⊢
        obtain ⟨x, t2, D2, H2, k1, k2, k3, k4⟩ := hk
        exact ⟨x, t2, D2, H2, k1, k2, e2.trans k3, k4⟩
      | ret => exact seqR_ret ⟨rfl, e2, e3⟩
      | exit id => exact e3.elim
    · rename_i hne
      have hk := aCode_ok hcall hT h ha
      refine EC_seq ?_
      unfold EC at hk ⊢
      obtain ⟨x, ts', D', H', e1, rfl, e2, e3⟩ := hk
      refine ⟨x, ts', [], H', e1, ?_⟩
      cases x with
      | normal =>
        obtain ⟨E2, hE, e4⟩ := e3
        exact absurd (ha.trans (congrArg some hE)) (hne E2)
      | ret => exact seqR_ret ⟨rfl, e2, e3⟩
      | exit id => exact e3.elim
  | .cond x a b, E, q, ts, H, hT, h, ha => by
    simp only [aCode] at ha
    split at ha <;> try (cases ha; done)
    rename_i hx
    have hb := aX_ok h x
    rw [hx] at hb
    obtain ⟨c, hc⟩ := hb
    have weak : ∀ {q' : Option AE} {y ts' D' H'}, (∀ E, q' = some E → q = some E) → EndA M kb H r lim q' y ts' D' H' → EndA M kb H r lim q y ts' D' H' := by
      rintro q' y ts' D' H' hq ⟨h1, h2, h3⟩
      refine ⟨h1, h2, ?_⟩
      cases y with
      | normal => obtain ⟨E, h4, h5⟩ := h3; exact ⟨E, hq E h4, h5⟩
      | _ => exact h3
    cases h1 : aCode r lim a E with
    | none => rw [h1] at ha; cases ha
    | some q1 =>
      cases h2 : aCode r lim b E with
      | none => rw [h1, h2] at ha; cases q1 <;> cases ha
      | some q2 =>
        rw [h1, h2] at ha
        have hq : (∀ E, q1 = some E → q = some E) ∧ ∀ E, q2 = some E → q = some E := by
          cases q1 with
          | none => cases ha; exact ⟨fun E e => (by cases e), fun E e => e⟩
          | some E1 =>
            cases q2 with
            | none => cases ha; exact ⟨fun E e => e, fun E e => (by cases e)⟩
            | some E2 => cases ha
        refine EC_cond hc (fun _ => ?_) (fun _ => ?_)
        · have hk := aCode_ok hcall hT h h1
          unfold EC at hk ⊢
          obtain ⟨y, ts', D', H', e1, e2⟩ := hk
          exact ⟨y, ts', D', H', e1, weak hq.1 e2⟩
        · have hk := aCode_ok hcall hT h h2
          unfold EC at hk ⊢
          obtain ⟨y, ts', D', H', e1, e2⟩ := hk
          exact ⟨y, ts', D', H', e1, weak hq.2 e2⟩
  | .block id b, E, q, ts, H, hT, h, ha => by
    have hk := aCode_ok hcall hT h (show aCode r lim b E = some q from ha)
    refine EC_block ?_
    unfold EC at hk ⊢
    obtain ⟨y, ts', D', H', e1, e2, e3, e4⟩ := hk
    refine ⟨y, ts', D', H', e1, ?_⟩
    cases y with
    | normal => exact blockR_normal ⟨e2, e3, e4⟩
    | ret => exact blockR_ret ⟨e2, e3, e4⟩
    | exit id => exact e4.elim
  | .ret, E, q, ts, H, hT, h, ha => by
    simp only [aCode] at ha
    split at ha <;> try (cases ha; done)
    rename_i n hn
    split at ha <;> cases ha
    rename_i hle
    have hb := aX_ok h (.t r)
    rw [show aX E (.t r) = .str n from hn] at hb
    obtain ⟨s, h1, h2⟩ := hb
    exact EC_ret ⟨rfl, GS.refl hT, s, h1, Nat.le_trans h2 (Nat.le_of_ble_eq_true hle)⟩
  | .dreg _ _, _, _, _, _, _, _, ha => (by cases ha)
  | .loop _, _, _, _, _, _, _, ha => (by cases ha)
  | .exit _, _, _, _, _, _, _, ha => (by cases ha)
  | .bad, _, _, _, _, _, _, ha => (by cases ha)
  | .regd _ _ _, _, _, _, _, _, _, ha => (by cases ha)
end
end Go.Sh
end
