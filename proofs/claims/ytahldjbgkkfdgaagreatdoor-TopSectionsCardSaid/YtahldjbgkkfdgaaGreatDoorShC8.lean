/-
  Symbolic reckoning: access.Change. (frame style z)
  Symbolic reckoning: trcgen.New, Lines. (frame style z)
  Symbolic reckoning: runes. (frame style z)
-/
import Derived.Test.YtahldjbgkkfdgaaGreatDoorShC7
set_option linter.all false
section
namespace Go.Sh
set_option maxRecDepth 10000
set_option linter.all false
@[reducible] def I10 (b p : Nat) (c0 : Option Nat) (s s' : List Nat) (H0 : Heap) (m : Nat) (ts : T) (D : DS) (H' : Heap) : Prop :=
  D = [] ∧ Ext H0 H' ∧ ∃ i : Nat, m = 1 - i ∧ i ≤ 1 ∧ ∃ z : Nat → SV, ts = (z 0 :: (.nils) :: z 2 :: (.str s) :: (.str s') :: z 5 :: z 6 :: (.ptr p 0) :: z 8 :: z 9 :: z 10 :: (.int .i64 1) :: z 12 :: z 13 :: z 14 :: (.slice b 0 1 c0 5) :: (.int .i64 1) :: (.int .i64 (i : Int)) :: z 18 :: z 19 :: z 20 :: z 21 :: z 22 :: z 23 :: z 24 :: z 25 :: z 26 :: z 27 :: z 28 :: z 29 :: z 30 :: z 31 :: z 32 :: z 33 :: z 34 :: z 35 :: z 36 :: z 37 :: z 38 :: z 39 :: z 40 :: z 41 :: [] : T) ∧ (True)
section
variable {lf n : Nat} {H : Heap}

theorem change_ok {s s' name g : List Nat} {b : Nat} {c0 : Option Nat} {e : TypeId} {ex ro : Bool} {frz : Nat} (h : NoSec s name) (h' : NoSec s' name) (hne : name ≠ []) (hbn : Bts name) (hln : name.length < 10000) (hb : b < H.next)
    (hrow : H.get b = some (.row [.bool true, .str g, .int .i64 0, .str [65], .str name] e ex ro frz)) (hn : 11 ≤ n) (hlf : 20000 < lf) :
    ∃ (H' : Heap), callS tabT lf n 10 [.agg [.nils, .nils, .slice b 0 1 c0 5], .nils, .agg [.int .i64 0, .str [65]], .str s, .str s'] H = some (.int .i64 1, H') ∧ Ext H H' := by
  obtain ⟨n, rfl⟩ : ∃ m, n = m + 1 := ⟨n - 1, by omega⟩
  have key : ∃ v H', callS tabT lf (n + 1) 10 [.agg [.nils, .nils, .slice b 0 1 c0 5], .nils, .agg [.int .i64 0, .str [65]], .str s, .str s'] H = some (v, H') ∧ v = .int .i64 1 ∧ Ext H H' := by
    obtain ⟨H0, hH0⟩ : ∃ H0, (H.push (.row [.nils, .nils, .slice b 0 1 c0 5] 44 true false 0)).push (.row [.int .i64 0, .str [65]] 37 true false 0) = H0 := ⟨_, rfl⟩
    have hE0 : Ext H H0 := by rw [← hH0]; exact ((Ext.refl _).push _).push _
    have hp : H0.get (H.next + 1) = some (.row [.int .i64 0, .str [65]] 37 true false 0) := by rw [← hH0]; exact get_push_self _
    have hq : H0.get H.next = some (.row [.nils, .nils, .slice b 0 1 c0 5] 44 true false 0) := by rw [← hH0, get_push_old (by rw [next_push]; omega)]; exact get_push_self _
    have hnx : H0.next = H.next + 2 := by rw [← hH0]; rfl
    refine call_code tab10 (by simp only [c10, go_sem, List.reduceReplicate, Nat.reduceAdd, Nat.reduceSub]; exact rfl) ?_
    simp only [c10]
    refine stp (And.intro @hH0 @hq) ?_
    refine EC_loop (I := I10 b (H.next + 1) c0 s s' H0) ?_ 1 ?_ (by omega)
    · rintro m ts D H1 ⟨rfl, hE, i, rfl, hi, ⟨z, rfl, -⟩⟩
      have hrow1 : H1.get b = some (.row [.bool true, .str g, .int .i64 0, .str [65], .str name] e ex ro frz) := by rw [(hE0.trans hE).2 b hb]; exact hrow
      have hp1 : H1.get (H.next + 1) = some (.row [.int .i64 0, .str [65]] 37 true false 0) := by rw [hE.2 _ (by omega)]; exact hp
      refine stp trivial ?_
      refine cst trivial (fun hc => ?_) (fun hc => ?_) <;> try simp only [decide_eq_true_eq, decide_eq_false_iff_not, not_true_eq_false, not_false_eq_true, Int.not_lt, Int.not_le, ge_iff_le, gt_iff_lt] at hc
      · have hi0 : i = 0 := by omega
        subst hi0
        obtain ⟨HP, hHP⟩ : ∃ HP, (H1.push (.row [.bool false, .str [], .int .i64 ((0 : Nat) : Int), .str [], .str []] 39 true false 0)).put H1.next (.row [.bool true, .str g, .int .i64 0, .str [65], .str name] 39 true false 0) = HP := ⟨_, rfl⟩
        have hEP : Ext H0 HP := by rw [← hHP]; exact (hE.push _).put hE.1 _
        have hEP1 : Ext H1 HP := by rw [← hHP]; exact ((Ext.refl _).push _).put (Nat.le_refl _) _
        have hpP : HP.get (H.next + 1) = some (.row [.int .i64 0, .str [65]] 37 true false 0) := by rw [hEP.2 _ (by omega)]; exact hp
        have hqP : HP.get H1.next = some (.row [.bool true, .str g, .int .i64 0, .str [65], .str name] 39 true false 0) := by rw [← hHP]; exact get_put_self _ _
        have e1 : eqVal true [(0, 1), (1, 2)] (.agg [.int .i64 0, .str [65]]) (.agg [.int .i64 0, .str [65]]) = some true := rfl
        have hcn := fun x => containsNil_ok (lf := lf) (n := n) (H := HP) (x := x) (by omega) (by omega)
        obtain ⟨H2, hcc, hE2⟩ := concerned_no (lf := lf) (n := n) (H := HP) (g := g) (k := 0) (a := [65]) (fb := true) h h' hne hbn hln (by omega) hlf
        refine stp (And.intro @hrow1 (And.intro @hHP (And.intro @hqP (And.intro @hpP (And.intro @e1 @Bool.not_true))))) ?_
        refine kst trivial (hcn _) ?_
        refine stp @hqP ?_
        refine kst trivial hcc ?_
        refine stp @Bool.not_false ?_
        refine cstT trivial ?_
        refine stp trivial ?_
        refine loopR_normal 0 (by omega) ⟨rfl, hEP.trans hE2, 1, rfl, by omega, ?_⟩
        exact (frame_in (by rfl) (trivial))
      · refine stp trivial ?_
        refine ret1 trivial ?_
        exact (⟨rfl, hE0.trans hE⟩)
    · refine ⟨rfl, Ext.refl _, 0, by omega, by omega, ?_⟩
      exact (frame_in (by rfl) (trivial))
  obtain ⟨v, H', h, rfl, hE⟩ := key
  exact ⟨H', h, hE⟩
end
end Go.Sh
end
section
namespace Go.Sh
set_option maxRecDepth 10000
set_option linter.all false

/-- The lines that a tape can lay. -/
def menu : List (List Nat) := [[97], [98], [99], [97], [], [61, 61, 32, 115, 32, 61, 61], [61, 61, 32, 116, 32, 61, 61], [61, 61, 61, 32, 115, 32, 61, 61, 61], [61, 61, 32, 115, 32, 61, 61]]

theorem textL_nil (ls : List (List Nat)) (l : List Nat) : textL ls [] ++ l ++ [10] = textL (ls ++ [l]) [] := by simp [textL]
theorem textL_end (ls : List (List Nat)) (l : List Nat) : textL ls [] ++ l = textL ls l := by simp [textL]

theorem TapeStep.ext {H0 H H' : Heap} {kb : Nat} (h : TapeStep H H' kb) (hE : Ext H0 H) (hk : H0.next ≤ kb) : Ext H0 H' :=
  ⟨by rw [h.1]; exact hE.1, fun b hb => by rw [h.2.1 b (by omega)]; exact hE.2 b hb⟩
theorem TapeOK.push {H : Heap} {kb : Nat} (h : TapeOK H kb) (hk : kb < H.next) (o : SObj) : TapeOK (H.push o) kb := by
  obtain ⟨lv, at_, h1, h2, h3⟩ := h
  refine ⟨lv, at_, by rw [get_push_old hk]; exact h1, h2, ?_⟩
  rcases h3 with h | ⟨lb, lo, len, cap, cs, e, ex, ro, frz, ha, hb, hbn, hc, hd⟩
  · exact .inl h
  · exact .inr ⟨lb, lo, len, cap, cs, e, ex, ro, frz, ha, hb, Nat.lt_succ_of_lt hbn, by rw [get_push_old hbn]; exact hc, hd⟩
theorem textL_len {k : Nat} : ∀ {ls : List (List Nat)} {last : List Nat}, (∀ l ∈ ls, l.length ≤ k) → (textL ls last).length ≤ (k + 1) * ls.length + last.length
  | [], last, _ => by simp [textL]
  | l :: ls, last, h => by
    have ih := textL_len (ls := ls) (last := last) fun x hx => h x (List.mem_cons_of_mem _ hx)
    have := h l (List.mem_cons_self ..)
    rw [textL_cons, List.length_append, List.length_cons, List.length_cons, Nat.mul_add]
    omega
theorem menu_len : ∀ l ∈ menu, l.length ≤ 9 := by decide
@[reducible] def I5 (kb : Nat) (H0 : Heap) (m : Nat) (ts : T) (D : DS) (H' : Heap) : Prop :=
  D = [] ∧ Ext H0 H' ∧ TapeOK H' kb ∧ kb < H'.next ∧ ∃ (i : Nat) (ls : List (List Nat)), m = 12 - i ∧ i ≤ 11 ∧ ls.length = i ∧ (∀ l ∈ ls, l ∈ menu) ∧
    ∃ z : Nat → SV, ts = ((.ptr kb 0) :: (.int .i64 12) :: z 2 :: z 3 :: z 4 :: (.str (textL ls [])) :: (.int .i64 (i : Int)) :: z 7 :: z 8 :: z 9 :: z 10 :: z 11 :: z 12 :: z 13 :: z 14 :: z 15 :: z 16 :: z 17 :: z 18 :: z 19 :: z 20 :: z 21 :: z 22 :: z 23 :: z 24 :: z 25 :: [] : T) ∧ (True)
section
variable {lf n : Nat} {H : Heap}

theorem lines_ok {kb : Nat} {H0 : Heap} (hE0 : Ext H0 H) (hk : H0.next ≤ kb) (hkn : kb < H.next) (hT : TapeOK H kb) (hn : 4 ≤ n) (hlf : 13 < lf) :
    ∃ (ls : List (List Nat)) (last : List Nat) (H' : Heap), callS tabT lf n 5 [.ptr kb 0, .int .i64 12] H = some (.str (textL ls last), H') ∧ Ext H0 H' ∧ ls.length ≤ 11 ∧ (∀ l ∈ ls, l ∈ menu) ∧ (last = [] ∨ last = [101, 110, 100]) := by
  obtain ⟨n, rfl⟩ : ∃ m, n = m + 1 := ⟨n - 1, by omega⟩
  have key : ∃ v H', callS tabT lf (n + 1) 5 [.ptr kb 0, .int .i64 12] H = some (v, H') ∧ ∃ ls last, v = .str (textL ls last) ∧ Ext H0 H' ∧ ls.length ≤ 11 ∧ (∀ l ∈ ls, l ∈ menu) ∧ (last = [] ∨ last = [101, 110, 100]) := by
    refine call_code tab5 (by simp only [c5, go_sem, List.reduceReplicate, Nat.reduceAdd, Nat.reduceSub]; exact rfl) ?_
    simp only [c5]
    refine stp trivial ?_
    refine EC_loop (I := I5 kb H0) ?_ 12 ?_ (by omega)
    · rintro m ts D H1 ⟨rfl, hE, hT1, hk1, i, ls, rfl, hi, hls, hmem, ⟨z, rfl, -⟩⟩
      have htl := textL_len (last := []) fun l hl => menu_len l (hmem l hl)
      rw [List.length_nil] at htl
      obtain ⟨r, H2, hc, hr0, hr1, hst⟩ := next_ok (lf := lf) (n := n) hT1 (m := 12) (by omega) (by omega) (by omega)
      have hE2 := hst.ext hE hk
      have hk2 : kb < H2.next := by rw [hst.1]; exact hk1
      refine stp trivial ?_
      refine kst trivial hc ?_
      refine stp trivial ?_
      refine cst trivial (fun hc => ?_) (fun hc => ?_) <;> try simp only [decide_eq_true_eq, decide_eq_false_iff_not, not_true_eq_false, not_false_eq_true, Int.not_lt, Int.not_le, ge_iff_le, gt_iff_lt] at hc
      · have hmap : (menu.map SV.str) = [.str [97], .str [98], .str [99], .str [97], .str [], .str [61, 61, 32, 115, 32, 61, 61], .str [61, 61, 32, 116, 32, 61, 61], .str [61, 61, 61, 32, 115, 32, 61, 61, 61], .str [61, 61, 32, 115, 32, 61, 61]] := rfl
        obtain ⟨H3, hH3⟩ : ∃ H3, H2.push (.row (menu.map SV.str) 9 true false 0) = H3 := ⟨_, rfl⟩
        have hT3 : TapeOK H3 kb := by rw [← hH3]; exact hst.2.2.push hk2 _
        have hE3 : Ext H0 H3 := by rw [← hH3]; exact hE2.push _
        have hg3 : H3.get H2.next = some (.row (menu.map SV.str) 9 true false 0) := by rw [← hH3]; exact get_push_self _
        have hn3 : H3.next = H2.next + 1 := by rw [← hH3]; rfl
        obtain ⟨l, H4, hc4, hl, hst4⟩ := of_ok (lf := lf) (n := n) hT3 (c := some 9) hg3 (by omega) (by simp [menu]) (by simp [menu]) (by omega)
        rw [hmap] at hH3
        have hml : menu.length = 9 := rfl
        rw [hml] at hc4
        have hll := menu_len l hl
        refine stp @hH3 ?_
        refine kst trivial hc4 ?_
        refine stp @textL_nil ?_
        refine loopR_normal (12 - (i + 1)) (by omega) ⟨rfl, hst4.ext hE3 hk, hst4.2.2, by rw [hst4.1]; omega, i + 1, ls ++ [l], rfl, by omega, by simp [hls], ?_, ?_⟩
        · intro x hx
          rcases List.mem_append.1 hx with h | h
          · exact hmem x h
          · simp at h
            subst h
            exact hl
        · exact (frame_in (by rfl) (trivial))
      · refine stp trivial ?_
        obtain ⟨r2, H3, hc3, hr2, hr3, hst3⟩ := next_ok (lf := lf) (n := n) hst.2.2 (m := ((4 : Nat) : Int)) (by omega) (by omega) (by omega)
        refine kst trivial hc3 ?_
        refine stp trivial ?_
        refine cst trivial (fun hc => ?_) (fun hc => ?_) <;> try simp only [decide_eq_true_eq, decide_eq_false_iff_not, not_true_eq_false, not_false_eq_true, Int.not_lt, Int.not_le, ge_iff_le, gt_iff_lt] at hc
        · refine stp @textL_end ?_
          refine ret1 @textL_end ?_
          exact (⟨ls, [101, 110, 100], rfl, hst3.ext hE2 hk, by omega, hmem, .inr rfl⟩)
        · refine stp trivial ?_
          refine ret1 trivial ?_
          exact (⟨ls, [], rfl, hst3.ext hE2 hk, by omega, hmem, .inl rfl⟩)
    · refine ⟨rfl, hE0, hT, hkn, 0, [], rfl, by omega, rfl, by simp, ?_⟩
      exact (frame_in (by rfl) (trivial))
  obtain ⟨v, H', h, ls, last, rfl, hr⟩ := key
  exact ⟨ls, last, H', h, hr⟩
end
end Go.Sh
end
section
namespace Go.Sh
set_option maxRecDepth 10000
set_option linter.all false

theorem enc_hi (r : Int) (h : 128 ≤ r) : ∃ u c, encS r = u ++ [c] ∧ 128 ≤ c ∧ c < 256 ∧ 1 ≤ u.length ∧ u.length ≤ 3 := by
  unfold encS Utf8.encode
  have h1 : 128 ≤ (if Utf8.valid r then r.toNat else Utf8.runeError) := by
    split
    · omega
    · decide
  generalize (if Utf8.valid r then r.toNat else Utf8.runeError) = c at h1
  have hl : 128 ≤ (128 + c % 64) % 256 ∧ (128 + c % 64) % 256 < 256 := by omega
  simp only
  rw [if_neg (by omega)]
  split
  · exact ⟨[_], _, rfl, by simpa [UInt8.toNat_ofNat] using hl.1, by simpa [UInt8.toNat_ofNat] using hl.2, by simp, by simp⟩
  · split
    · exact ⟨[_, _], _, rfl, by simpa [UInt8.toNat_ofNat] using hl.1, by simpa [UInt8.toNat_ofNat] using hl.2, by simp, by simp⟩
    · exact ⟨[_, _, _], _, rfl, by simpa [UInt8.toNat_ofNat] using hl.1, by simpa [UInt8.toNat_ofNat] using hl.2, by simp, by simp⟩

theorem dec_lo {s : List Nat} {i b : Nat} (h : s[i]? = some b) (hb : b < 128) : decS s i = (b, 1) := by
  unfold decS
  simp only [Nat.add_zero, List.getD_eq_getElem?_getD, h, Option.getD_some]
  rw [if_pos hb]

theorem dec_hi {s : List Nat} {i b : Nat} (h : s[i]? = some b) (hb : 128 ≤ b) (hb2 : b < 256) : ∃ r w, decS s i = (r, w) ∧ 128 ≤ r ∧ r < 1114112 ∧ 1 ≤ w ∧ i + w ≤ s.length ∧ ∀ k, i ≤ k → k < i + w → 128 ≤ s.getD k 0 := by
  have hi : i < s.length := (List.getElem?_eq_some_iff.1 h).1
  have h0 : s.getD i 0 = b := by rw [List.getD_eq_getElem?_getD, h]; rfl
  have one : ∃ r w, ((Utf8.runeError, 1) : Nat × Nat) = (r, w) ∧ 128 ≤ r ∧ r < 1114112 ∧ 1 ≤ w ∧ i + w ≤ s.length ∧ ∀ k, i ≤ k → k < i + w → 128 ≤ s.getD k 0 := by
    refine ⟨_, _, rfl, by decide, by decide, by omega, by omega, fun k h1 h2 => ?_⟩
    rw [show k = i by omega, h0]; exact hb
  unfold decS
  simp only [Nat.add_zero, h0]
  rw [if_neg (by omega)]
  split
  · rename_i hc
    simp only [Bool.and_eq_true, beq_iff_eq, decide_eq_true_eq] at hc
    split
    · refine ⟨_, _, rfl, by omega, by omega, by omega, by omega, fun k h1 h2 => ?_⟩
      by_cases e : k = i
      · rw [e, h0]; exact hb
      · rw [show k = i + 1 by omega]; omega
    · exact one
  · split
    · rename_i hc
      simp only [Bool.and_eq_true, beq_iff_eq, decide_eq_true_eq] at hc
      split
      · refine ⟨_, _, rfl, by rename_i hd; simp only [Bool.and_eq_true, decide_eq_true_eq] at hd; omega, by omega, by omega, by omega, fun k h1 h2 => ?_⟩
        by_cases e : k = i
        · rw [e, h0]; exact hb
        · by_cases e1 : k = i + 1
          · rw [e1]; omega
          · rw [show k = i + 2 by omega]; omega
      · exact one
    · split
      · rename_i hc
        simp only [Bool.and_eq_true, beq_iff_eq, decide_eq_true_eq] at hc
        split
        · rename_i hd
          simp only [Bool.and_eq_true, decide_eq_true_eq, Utf8.valid, Bool.or_eq_true] at hd
          refine ⟨_, _, rfl, by omega, by omega, by omega, by omega, fun k h1 h2 => ?_⟩
          by_cases e : k = i
          · rw [e, h0]; exact hb
          · by_cases e1 : k = i + 1
            · rw [e1]; omega
            · by_cases e2 : k = i + 2
              · rw [e2]; omega
              · rw [show k = i + 3 by omega]; omega
        · exact one
      · exact one

def needles : List Nat := [61, 123, 125, 91, 93, 60, 10]
theorem ixb_out : ∀ {l : List Nat} {c i : Nat}, c ∉ l → ixb l c i = -1
  | [], _, _, _ => rfl
  | x :: l, c, i, h => by
    have hx : Nat.beq x c = false := beq_false (by intro e; subst e; exact h (List.mem_cons_self ..))
    rw [ixb, hx]
    exact ixb_out fun hm => h (List.mem_cons_of_mem _ hm)
theorem ixb_neg : ∀ {l : List Nat} {c i : Nat}, ixb l c i < 0 → c ∉ l
  | [], _, _, _ => by simp
  | x :: l, c, i, h => by
    rw [ixb] at h
    cases hx : Nat.beq x c with
    | true =>
      rw [hx] at h
      have h2 : Int.ofNat i < 0 := h
      exact absurd h2 (by simp)
    | false =>
      rw [hx] at h
      have ih := ixb_neg (l := l) (c := c) h
      intro hm
      rcases List.mem_cons.1 hm with e | e
      · subst e
        rw [show Nat.beq c c = true from by simp] at hx
        exact (by cases hx)
      · exact ih e

section
variable {ts : T} {H : Heap}
def rngS (v : SV) (H : Heap) : Option (SV × Heap) := match v with
  | .str s => some (.ptr H.next 0, H.push (.siter s 0))
  | _ => none
@[go_sem] theorem op_rng (x : X) : evalOp (.rng x) ts H = rngS (x.ev ts) H := rfl
@[go_sem] theorem rng_str (s : List Nat) : rngS (.str s) H = some (.ptr H.next 0, H.push (.siter s 0)) := rfl
def nxtS (v : SV) (H : Heap) : Option (SV × Heap) := match v with
  | .ptr b 0 => match H.get b with
    | some (.siter s pos) => match Nat.blt pos s.length with
      | true => some (.tup [.bool true, sint pos, .int .i32 (Int.ofNat (decS s pos).1)], H.put b (.siter s (pos + (decS s pos).2)))
      | false => some (.tup [.bool false], H)
    | _ => none
  | _ => none
@[go_sem] theorem op_nxt (x : X) : evalOp (.nxt x) ts H = nxtS (x.ev ts) H := by
  unfold nxtS
  rfl
theorem nxt_more {b p r w : Nat} {s : List Nat} (h : H.get b = some (.siter s p)) (hp : p < s.length) (hd : decS s p = (r, w)) : nxtS (.ptr b 0) H = some (.tup [.bool true, .int .i64 (p : Int), .int .i32 (r : Int)], H.put b (.siter s (p + w))) := by
  simp only [nxtS, h, hd]
  rw [show Nat.blt p s.length = true from by simpa [Nat.blt_eq] using hp]
  rfl
theorem nxt_done {b p : Nat} {s : List Nat} (h : H.get b = some (.siter s p)) (hp : s.length ≤ p) : nxtS (.ptr b 0) H = some (.tup [.bool false], H) := by
  simp only [nxtS, h]
  rw [show Nat.blt p s.length = false from by
    cases e : Nat.blt p s.length with
    | false => rfl
    | true => rw [Nat.blt_eq] at e; omega]
end
end Go.Sh
end
