/-
  Differences: Apply. (frame style z)
  Differences: Apply. (frame style z)
-/
import Derived.Test.YtpcpmplkblbpbaaGreatDoorShD6
import Derived.Test.YtpcpmplkblbpbaaGreatDoorShD7
set_option linter.all false
section
namespace Go.Sh
set_option maxRecDepth 10000
set_option linter.all false
theorem Lr.lenl {lo hi : Nat} {H : Heap} {v : SV} {L : List (List Nat)} (h : Lr lo hi H v L) : lenlS v = some (.int .i64 (L.length : Int)) := by
  obtain ⟨b, o, cap, cs, ex, ro, frz, rfl, _⟩ := h
  rfl
theorem Lr.pre {lo hi : Nat} {H : Heap} {v : SV} {L : List (List Nat)} (h : Lr lo hi H v L) {n : Nat} (hn : n ≤ L.length) :
    ∃ v', slvS 1 none (some (.int .i64 (n : Int))) v = some v' ∧ Lr lo hi H v' (L.take n) := by
  obtain ⟨b, o, cap, cs, ex, ro, frz, rfl, h1, h2, h3, h4, h5, h6⟩ := h
  have hl : n ≤ limS cap L.length := by
    cases cap with
    | none => exact hn
    | some c => exact Nat.le_trans hn (h4 c rfl).2
  have htl : (L.take n).length = n := by rw [List.length_take]; omega
  rw [slv_hi (by omega) (by omega)]
  have key : resl b o 1 0 n cap = .slice b o n (if cap = some 0 then some 0 else cap) 1 := by
    cases cap with
    | none => rfl
    | some c =>
      cases c with
      | zero => rfl
      | succ c => rfl
  rw [Int.toNat_natCast, key]
  refine ⟨_, rfl, b, o, _, cs, ex, ro, frz, by rw [htl], h1, h2, h3, fun c hc => ?_, by omega, fun j x hx => h6 j x ?_⟩
  · by_cases h0 : cap = some 0
    · rw [if_pos h0] at hc
      cases hc
      have := (h4 0 h0).2
      exact ⟨by omega, by omega⟩
    · rw [if_neg h0] at hc
      have := h4 c hc
      exact ⟨this.1, by omega⟩
  · rw [List.getElem?_take] at hx
    split at hx
    · exact hx
    · cases hx
theorem Lr.suf {lo hi : Nat} {H : Heap} {v : SV} {L : List (List Nat)} (h : Lr lo hi H v L) {n : Nat} (hn : n ≤ L.length) :
    ∃ v', slvS 1 (some (.int .i64 (n : Int))) none v = some v' ∧ Lr lo hi H v' (L.drop n) := by
  obtain ⟨b, o, cap, cs, ex, ro, frz, rfl, h1, h2, h3, h4, h5, h6⟩ := h
  rw [slv_lo (by omega) (by omega), Int.toNat_natCast]
  have hdl : (L.drop n).length = L.length - n := List.length_drop ..
  have hget : ∀ j x, (L.drop n)[j]? = some x → cs[o + n + j]? = some (.str x) := fun j x hx => by
    rw [List.getElem?_drop] at hx
    rw [Nat.add_assoc]
    exact h6 _ _ hx
  cases cap with
  | none => exact ⟨_, rfl, b, o + n * 1, none, cs, ex, ro, frz, by rw [hdl]; rfl, h1, h2, h3, (fun c hc => by cases hc), by omega, by rw [Nat.mul_one]; exact hget⟩
  | some c =>
    obtain ⟨q1, q2⟩ := h4 c rfl
    by_cases hcn : c = n
    · subst hcn
      have hl0 : L.length - c = 0 := by omega
      refine ⟨_, rfl, b, o, some 0, cs, ex, ro, frz, ?_, h1, h2, h3, fun c' hc => by cases hc; exact ⟨by omega, by omega⟩, by omega, fun j x hx => ?_⟩
      · simp only [resl, Nat.beq_refl, hdl]
      · have := (List.getElem?_eq_some_iff.1 hx).1
        omega
    · refine ⟨_, rfl, b, o + n * 1, some (c - n), cs, ex, ro, frz, ?_, h1, h2, h3, fun c' hc => by cases hc; exact ⟨by omega, by omega⟩, by omega, by rw [Nat.mul_one]; exact hget⟩
      have : Nat.beq c n = false := by
        cases hb : Nat.beq c n with
        | false => rfl
        | true => exact absurd (Nat.eq_of_beq_eq_true hb) hcn
      simp only [resl, this, hdl]
theorem tab20 : tabT 20 = some (.code c20) := by kernel_rfl
theorem tab7 : tabT 7 = some (.code c7) := by kernel_rfl
@[reducible] def I20 (v w : SV) (N : Nat) (H0 : Heap) (m : Nat) (ts : T) (D : DS) (H' : Heap) : Prop :=
  D = [] ∧ H' = H0 ∧ ∃ i : Nat, m = N - i ∧ i ≤ N ∧ ∃ z : Nat → SV, ts = ((v) :: (w) :: z 2 :: z 3 :: z 4 :: z 5 :: z 6 :: z 7 :: z 8 :: z 9 :: z 10 :: z 11 :: (.int .i64 (N : Int)) :: (.int .i64 (i : Int)) :: z 14 :: z 15 :: z 16 :: z 17 :: z 18 :: z 19 :: z 20 :: z 21 :: z 22 :: z 23 :: z 24 :: z 25 :: [] : T) ∧ (True)
section
variable {lf n : Nat} {H : Heap}
theorem equalL_ok {lo hi lo' hi' : Nat} {v w : SV} {L : List (List Nat)} (hv : Lr lo hi H v L) (hw : Lr lo' hi' H w L) (hl : L.length < 100000) (hn : 1 ≤ n) (hlf : L.length < lf) :
    callS tabT lf n 20 [v, w] H = some (.bool true, H) := by
  obtain ⟨n, rfl⟩ : ∃ m, n = m + 1 := ⟨n - 1, by omega⟩
  obtain ⟨xb, xo, xc, xs, xe, xr, xf, rfl, _, _, hxrow, hxc, hxl, hxat⟩ := hv
  obtain ⟨yb, yo, yc, ys, ye, yr, yf, rfl, _, _, hyrow, hyc, hyl, hyat⟩ := hw
  have key : ∃ r H', callS tabT lf (n + 1) 20 [.slice xb xo L.length xc 1, .slice yb yo L.length yc 1] H = some (r, H') ∧ r = .bool true ∧ H' = H := by
    have d0 : decide ((L.length : Int) ≠ (L.length : Int)) = false := by simp
    refine call_code tab20 (by simp only [c20, go_sem, List.reduceReplicate, Nat.reduceAdd, Nat.reduceSub]; exact rfl) ?_
    simp only [c20]
    refine stp @d0 ?_
    refine cstE @d0 ?_
    refine stp trivial ?_
    refine EC_loop (I := I20 (.slice xb xo L.length xc 1) (.slice yb yo L.length yc 1) L.length H) ?_ L.length ?_ hlf
    · rintro m ts D H1 ⟨rfl, rfl, i, rfl, hi, ⟨z, rfl, -⟩⟩
      refine stp trivial ?_
      refine cst trivial (fun hc => ?_) (fun hc => ?_) <;> try simp only [decide_eq_true_eq, decide_eq_false_iff_not, not_true_eq_false, not_false_eq_true, Int.not_lt, Int.not_le, ge_iff_le, gt_iff_lt] at hc
      · obtain ⟨x, hx⟩ : ∃ x, L[i]? = some x := ⟨_, List.getElem?_eq_getElem (by omega)⟩
        have rx : rowL (some (.row xs 9 xe xr xf)) (xo + i) 1 = some [.str x] := rowL_one (hxat i x hx)
        have ry : rowL (some (.row ys 9 ye yr yf)) (yo + i) 1 = some [.str x] := rowL_one (hyat i x hx)
        have dx : decide (x ≠ x) = false := by simp
        refine stp (And.intro @hxrow (And.intro @hyrow (And.intro @rx (And.intro @ry @dx)))) ?_
        refine cstE @dx ?_
        refine stp trivial ?_
        refine loopR_normal (L.length - (i + 1)) (by omega) ⟨rfl, rfl, i + 1, rfl, by omega, ?_⟩
        exact (frame_in (by rfl) (trivial))
      · refine stp trivial ?_
        refine ret1 trivial ?_
        exact (⟨rfl, rfl⟩)
    · exact ⟨rfl, rfl, 0, by omega, by omega, (frame_in (by rfl) (trivial))⟩
  obtain ⟨r, H', h, rfl, rfl⟩ := key
  exact h
end
end Go.Sh
end
section
namespace Go.Sh
set_option maxRecDepth 10000
set_option linter.all false
theorem readsD_readg {hs : List Heap} {d lo hi : Nat} {s : SOp} {g : Option (Nat × Bool)} {os : List (SOper × DK)} {t : T} {tss : List T} {v : SV} {vs : List SV} (hr : allFrom (fun H => match quietOp (.op s) t H with | some u => beqS u v | none => false) hs lo hi = true) (h : readsD hs os tss vs = true) : readsD hs ((⟨some d, .op s, g⟩, .read lo hi) :: os) (t :: tss) (v :: vs) = true := by
  simp only [readsD, h, Bool.and_true]
  cases wantedS t g with
  | false => rfl
  | true => exact hr
theorem srcE_cons (e : Edt) (E : List Edt) : srcE (e :: E) = (if e.1 = 3 then [] else e.2.2) ++ srcE E := by simp [srcE]
theorem dstE_snoc (e : Edt) (E : List Edt) : dstE (E ++ [e]) = dstE E ++ (if e.1 = 2 then [] else e.2.2) := by simp [dstE]
theorem Lr.keep {lo hi : Nat} {H H' : Heap} {v : SV} {L : List (List Nat)} (h : Lr lo hi H v L) (hk : ∀ c, c < hi → H'.get c = H.get c) : Lr lo hi H' v L := by
  obtain ⟨b, o, cap, cs, ex, ro, frz, h1, h2, h3, h4, h5⟩ := h
  exact ⟨b, o, cap, cs, ex, ro, frz, h1, h2, h3, by rw [hk b h3]; exact h4, h5⟩
theorem Lr.one {lo hi : Nat} {H : Heap} {v : SV} {L : List (List Nat)} (h : Lr lo hi H v L) : SV.one v = true := by
  obtain ⟨b, o, cap, cs, ex, ro, frz, rfl, _⟩ := h
  rfl
theorem Lr.bq {lo hi : Nat} {H : Heap} {v : SV} {L : List (List Nat)} (h : Lr lo hi H v L) : beqS v v = true := by
  obtain ⟨b, o, cap, cs, ex, ro, frz, rfl, _⟩ := h
  simp [beqS, beqOne]
theorem flatten_le {L M : List (List Nat)} (h : ∃ R, M = L ++ R) : L.flatten.length ≤ M.flatten.length := by
  obtain ⟨R, rfl⟩ := h
  simp
@[reducible] def IA7 (v : SV) (E : List Edt) (bb : Nat) (H0 : Heap) (m : Nat) (ts : T) (D : DS) (H' : Heap) : Prop :=
  D = [] ∧ H0.next ≤ H'.next ∧ (∀ k, k < bb → H'.get k = H0.get k) ∧ ∃ (i : Nat) (w : SV), m = E.length - i ∧ i ≤ E.length ∧ Lr 0 bb H' w (srcE (E.drop i)) ∧ Bd (bb + 1) H' bb (dstE (E.take i)).flatten ∧
    ∃ z : Nat → SV, ts = (z 0 :: z 1 :: z 2 :: z 3 :: z 4 :: z 5 :: (w) :: (.ptr bb 0) :: z 8 :: z 9 :: z 10 :: z 11 :: z 12 :: z 13 :: z 14 :: (v) :: (.int .i64 (E.length : Int)) :: (.int .i64 (i : Int)) :: z 18 :: z 19 :: z 20 :: z 21 :: z 22 :: z 23 :: z 24 :: z 25 :: z 26 :: z 27 :: z 28 :: z 29 :: z 30 :: z 31 :: z 32 :: z 33 :: z 34 :: z 35 :: z 36 :: z 37 :: z 38 :: z 39 :: z 40 :: z 41 :: z 42 :: z 43 :: z 44 :: z 45 :: z 46 :: z 47 :: z 48 :: z 49 :: z 50 :: z 51 :: z 52 :: z 53 :: z 54 :: z 55 :: z 56 :: z 57 :: z 58 :: z 59 :: z 60 :: z 61 :: z 62 :: z 63 :: z 64 :: z 65 :: z 66 :: z 67 :: z 68 :: [] : T) ∧ (True)
@[reducible] def IA7b (v w lw : SV) (L : List (List Nat)) (acc : List Nat) (i N bb : Nat) (H0 : Heap) (m : Nat) (ts : T) (D : DS) (H' : Heap) : Prop :=
  D = [] ∧ H0.next ≤ H'.next ∧ (∀ k, k < bb → H'.get k = H0.get k) ∧ ∃ j : Nat, m = L.length - j ∧ j ≤ L.length ∧ Bd (bb + 1) H' bb (acc ++ (L.take j).flatten) ∧
    ∃ z : Nat → SV, ts = (z 0 :: z 1 :: z 2 :: z 3 :: z 4 :: z 5 :: (w) :: (.ptr bb 0) :: z 8 :: z 9 :: z 10 :: z 11 :: z 12 :: z 13 :: z 14 :: (v) :: (.int .i64 (N : Int)) :: (.int .i64 (i : Int)) :: z 18 :: z 19 :: z 20 :: z 21 :: z 22 :: z 23 :: z 24 :: z 25 :: z 26 :: z 27 :: z 28 :: z 29 :: z 30 :: z 31 :: z 32 :: z 33 :: z 34 :: z 35 :: z 36 :: z 37 :: z 38 :: z 39 :: z 40 :: z 41 :: z 42 :: z 43 :: z 44 :: z 45 :: z 46 :: z 47 :: z 48 :: z 49 :: z 50 :: z 51 :: z 52 :: z 53 :: z 54 :: (lw) :: (.int .i64 (L.length : Int)) :: (.int .i64 (j : Int)) :: z 58 :: z 59 :: z 60 :: z 61 :: z 62 :: z 63 :: z 64 :: z 65 :: z 66 :: z 67 :: z 68 :: [] : T) ∧ (True)
section
variable {lf n : Nat} {H : Heap}
theorem apply_ok {B0 : Nat} {s : List Nat} {ls : List (List Nat)} {last : List Nat} {v : SV} {E : List Edt} (hs : LinesOK s ls last) (hE : EdR B0 H v E) (hsrc : srcE E = linF ls last) (hsl : s.length < 1000000) (hdl : (dstE E).flatten.length < 1000000) (hb : Bts (dstE E).flatten)
    (hd1 : ∀ e ∈ E, e.2.2.length < 10000) (hEl : E.length < 10000) (hn : 5 ≤ n) (hlf : 10000 < lf) (hlfs : s.length < lf) :
    ∃ H', callS tabT lf n 7 [.str s, v] H = some (.tup [.str (dstE E).flatten, .int .i64 0], H') ∧ Ext H H' := by
  obtain ⟨n, rfl⟩ : ∃ m, n = m + 1 := ⟨n - 1, by omega⟩
  have key : ∃ r H', callS tabT lf (n + 1) 7 [.str s, v] H = some (r, H') ∧ r = .tup [.str (dstE E).flatten, .int .i64 0] ∧ Ext H H' := by
    obtain ⟨vx, H1, hcx, hE1, hLx⟩ := lines19_ok (lf := lf) (n := n) (H := H) hs hsl (by omega) hlfs
    have hlv : lenlS v = some (.int .i64 (E.length : Int)) := by rw [hE.sl.lenl, List.length_map]
    obtain ⟨H2, hH2⟩ : ∃ H2, H1.push (.row [.nilp, .nils] 64 true false 0) = H2 := ⟨_, rfl⟩
    have hg2 : H2.get H1.next = some (.row [.nilp, .nils] 64 true false 0) := by rw [← hH2]; exact get_push_self _
    have hE2 : Ext H1 H2 := by rw [← hH2]; exact (Ext.refl _).push _
    have hn2 : H2.next = H1.next + 1 := by rw [← hH2]; rfl
    have hn1 := hE1.1
    refine call_code tab7 (by simp only [c7, go_sem, List.reduceReplicate, Nat.reduceAdd, Nat.reduceSub]; exact rfl) ?_
    simp only [c7]
    refine stp trivial ?_
    refine kst trivial hcx ?_
    refine stp (And.intro @hH2 @hlv) ?_
    refine EC_loop (I := IA7 v E H1.next H2) ?_ E.length ?_ (by omega)
    · rintro m ts D H3 ⟨rfl, hn3, hk3, i, w, rfl, hi, hLw, hBd, ⟨z, rfl, -⟩⟩
      refine stp trivial ?_
      refine cst trivial (fun hc => ?_) (fun hc => ?_) <;> try simp only [decide_eq_true_eq, decide_eq_false_iff_not, not_true_eq_false, not_false_eq_true, Int.not_lt, Int.not_le, ge_iff_le, gt_iff_lt] at hc
      · obtain ⟨e, he⟩ : ∃ e, E[i]? = some e := ⟨_, List.getElem?_eq_getElem (by omega)⟩
        have hem := List.mem_of_getElem? he
        obtain ⟨he0, heL⟩ := hE.el e hem
        have hks := hE.ks e hem
        have hed := hd1 e hem
        obtain ⟨eb, heb0, heb1, hve, hrow⟩ : ∃ eb, B0 ≤ eb ∧ eb < H.next ∧ v = .slice eb 0 E.length none 2 ∧ H.get eb = some (.row (E.map edC).flatten 66 false false 0) := by
          rcases hE.sl with ⟨h, _⟩ | ⟨_, b, q1, q2, q3, q4⟩
          · have : E = [] := by simpa using h
            subst this
            simp at he
          · exact ⟨b, q1, q2, by rw [q3, List.length_map], q4⟩
        subst hve
        have q := rowL_at (z := 2) (i := i) (e := 66) (ex := false) (ro := false) (frz := 0) (edC_all E) (by rw [List.getElem?_map, he]; rfl : (E.map edC)[i]? = some (edC e))
        have hfl : (E.map edC).flatten.length = E.length * 2 := by rw [flatten_len (edC_all _), List.length_map]
        have hrow3 : H3.get eb = some (.row (E.map edC).flatten 66 false false 0) := by rw [hk3 eb (by omega), hE2.2 eb (by omega), hE1.2 eb heb1]; exact hrow
        obtain ⟨cs, hcs⟩ : ∃ cs, (E.map edC).flatten = cs := ⟨_, rfl⟩
        rw [hcs] at hrow3 q hfl
        obtain ⟨ek, ew, eL⟩ := e
        dsimp only at he0 heL hks hed
        have how := heL.one
        have hle := heL.lenl
        have cw : ew.cells = [ew] := by cases ew <;> first | rfl | cases how
        simp only [edC] at q
        obtain ⟨H4, hH4⟩ : ∃ H4, (H3.push (.row [.int .i64 ((0 : Nat) : Int), .nils] 66 true false 0)).put H3.next (.row [.int .i64 (ek : Int), ew] 66 true false 0) = H4 := ⟨_, rfl⟩
        have hp : H4.get H3.next = some (.row [.int .i64 (ek : Int), ew] 66 true false 0) := by rw [← hH4]; exact get_put_self _ _
        have hE4 : Ext H3 H4 := by rw [← hH4]; exact ((Ext.refl _).push _).put (Nat.le_refl _) _
        have hn4 : H4.next = H3.next + 1 := by rw [← hH4]; rfl
        have hst4 : storeS 2 (.ptr H3.next 0) [.int .i64 (ek : Int), ew] (H3.push (.row [.int .i64 ((0 : Nat) : Int), .nils] 66 true false 0)) = some H4 := by
          rw [store_ptr (n := 2) (cs := [.int .i64 (ek : Int), ew]) rfl, storeC_eq, get_push_self, sto_row (by simp) (by omega) (by show (true && (SV.one ew && true)) = true; rw [how]; rfl)]
          exact congrArg some hH4
        have hk4 : ∀ k, k < H1.next → H4.get k = H2.get k := fun k hk => by rw [hE4.2 k (by omega)]; exact hk3 k hk
        have hL4 : Lr B0 H.next H4 ew eL := heL.keep fun c hc => by rw [hk4 c (by omega), hE2.2 c (by omega), hE1.2 c hc]
        have hLw4 : Lr 0 H1.next H4 w (srcE (E.drop i)) := hLw.keep fun c hc => hE4.2 c (by omega)
        have hBd4 : Bd (H1.next + 1) H4 H1.next (dstE (E.take i)).flatten := hBd.ext hE4 (by omega)
        have hdr : E.drop i = (ek, ew, eL) :: E.drop (i + 1) := by
          obtain ⟨hlt, hh⟩ := List.getElem?_eq_some_iff.1 he
          rw [List.drop_eq_getElem_cons hlt, hh]
        rw [hdr, srcE_cons] at hLw4
        have htk : E.take (i + 1) = E.take i ++ [(ek, ew, eL)] := take_snoc he
        have hds := dstE_snoc (ek, ew, eL) (E.take i)
        rw [← htk] at hds
        have dpre : ∃ R, dstE E = dstE (E.take (i + 1)) ++ R := ⟨dstE (E.drop (i + 1)), by unfold dstE; rw [← List.flatMap_append, List.take_append_drop]⟩
        have hacc := flatten_le dpre
        have k1 : decide ((ek : Int) < ((1 : Nat) : Int)) = false := by simp only [decide_eq_false_iff_not]; omega
        have k2 : decide ((ek : Int) > ((3 : Nat) : Int)) = false := by simp only [decide_eq_false_iff_not]; omega
        have nt : (!true) = false := rfl
        by_cases h3 : ek = 3
        case' pos =>
          have k3 : decide ((ek : Int) ≠ ((3 : Nat) : Int)) = false := by simp only [decide_eq_false_iff_not]; omega
          have k4 : decide ((ek : Int) ≠ ((2 : Nat) : Int)) = true := by simp only [decide_eq_true_eq]; omega
          obtain ⟨w2, hw2⟩ : ∃ w2, w2 = w := ⟨w, rfl⟩
          have hLw2 : Lr 0 H1.next H4 w2 (srcE (E.drop (i + 1))) := by
            rw [if_pos h3, List.nil_append] at hLw4
            rw [hw2]
            exact hLw4
          refine stp (And.intro @hrow3 (And.intro @q (And.intro @hst4 (And.intro @hp (And.intro @cw (And.intro @k1 @k2)))))) ?_
          refine cstE (And.intro @k1 @k2) ?_
          refine stp (And.intro @hp @k3) ?_
          refine cstE @k3 ?_
          rw [← hw2]
        case' neg =>
          have k3 : decide ((ek : Int) ≠ ((3 : Nat) : Int)) = true := by simp only [decide_eq_true_eq]; omega
          rw [if_neg h3] at hLw4
          dsimp only at hLw4
          have hlw := hLw4.lenl
          rw [List.length_append] at hlw
          obtain ⟨wp, hwp, hLp⟩ := hLw4.pre (n := eL.length) (by rw [List.length_append]; omega)
          obtain ⟨w2, hws, hLw2⟩ := hLw4.suf (n := eL.length) (by rw [List.length_append]; omega)
          rw [List.take_append_of_le_length (Nat.le_refl _), List.take_length] at hLp
          rw [List.drop_left] at hLw2
          have k5 : decide ((eL.length : Int) > ((eL.length + (srcE (E.drop (i + 1))).length : Nat) : Int)) = false := by simp only [decide_eq_false_iff_not]; omega
          have heq := equalL_ok (lf := lf) (n := n) hLp hL4 (by omega) (by omega) (by omega)
          refine stp (And.intro @hrow3 (And.intro @q (And.intro @hst4 (And.intro @hp (And.intro @cw (And.intro @k1 @k2)))))) ?_
          refine cstE (And.intro @k1 @k2) ?_
          refine stp (And.intro @hp @k3) ?_
          refine cstT @k3 ?_
          refine stp (And.intro @hp @hle) ?_
          refine EC_draw rfl ?_
          refine stp (And.intro @hlw (And.intro @k5 (And.intro @hwp @hp))) ?_
          refine ED_call (by exact sfc @trivial) heq (by simp only [List.set_cons_zero, List.set_cons_succ]; with_reducible rfl) ?_
          refine stp @nt ?_
          refine ⟨(by repeat (first | exact readsD_nil _ _ _ | refine readsD_pure ?_ | refine readsD_eff ?_ | refine readsD_readg (by simp only [allFrom, Bool.and_eq_true, and_true]; exact quiet_ok (H' := H4) (by exact sfc @hp) hL4.bq) ?_)), fun h => (by cases h), _, (by simp only [List.getLast?_cons_cons, List.getLast?_singleton]; first | done | with_reducible rfl), ?_⟩
          refine stp @nt ?_
          refine cstE @nt ?_
          refine stp @hws ?_
        all_goals
          have hLw5 : Lr 0 H1.next H4 w2 (srcE (E.drop (i + 1))) := hLw2
          by_cases h2 : ek = 2
          · have k4 : decide ((ek : Int) ≠ ((2 : Nat) : Int)) = false := by simp only [decide_eq_false_iff_not]; omega
            dsimp only at hds
            rw [if_pos h2, List.append_nil] at hds
            refine stp (And.intro @hp @k4) ?_
            refine cstE @k4 ?_
            refine stp trivial ?_
            refine loopR_normal (E.length - (i + 1)) (by omega) ⟨rfl, by omega, hk4, i + 1, w2, rfl, by omega, hLw5, ?_, ?_⟩
            · rw [hds]; exact hBd4
            · exact (frame_in (by rfl) (trivial))
          · have k4 : decide ((ek : Int) ≠ ((2 : Nat) : Int)) = true := by simp only [decide_eq_true_eq]; omega
            dsimp only at hds
            rw [if_neg h2] at hds
            obtain ⟨acc, hacc0⟩ : ∃ acc, (dstE (E.take i)).flatten = acc := ⟨_, rfl⟩
            rw [hds, List.flatten_append, hacc0] at hacc
            rw [hacc0] at hBd4
            obtain ⟨lb, lo, lc, lcs, le, lr, lf', hew, hlb0, hlb1, hlrow, hlc, hll, hlat⟩ := hL4
            refine stp (And.intro @hp @k4) ?_
            refine cstT @k4 ?_
            refine stp (And.intro @hp @hle) ?_
            refine EC_loop (I := IA7b (.slice eb 0 E.length none 2) w2 ew eL acc i E.length H1.next H4) ?_ eL.length ?_ (by omega)
            · rintro m ts D H5 ⟨rfl, hn5, hk5, j, rfl, hj, hBd5, ⟨z, rfl, -⟩⟩
              refine stp trivial ?_
              refine cst trivial (fun hc => ?_) (fun hc => ?_) <;> try simp only [decide_eq_true_eq, decide_eq_false_iff_not, not_true_eq_false, not_false_eq_true, Int.not_lt, Int.not_le, ge_iff_le, gt_iff_lt] at hc
              · obtain ⟨x, hx⟩ : ∃ x, eL[j]? = some x := ⟨_, List.getElem?_eq_getElem (by omega)⟩
                have rx : rowL (some (.row lcs 9 le lr lf')) (lo + j) 1 = some [.str x] := rowL_one (hlat j x hx)
                have hlrow5 : H5.get lb = some (.row lcs 9 le lr lf') := by rw [hk5 lb (by omega)]; exact hlrow
                have hts := take_snoc hx
                have hfl2 : (eL.take (j + 1)).flatten = (eL.take j).flatten ++ x := by rw [hts, List.flatten_append]; simp
                have hle2 := flatten_le (L := eL.take (j + 1)) (M := eL) ⟨eL.drop (j + 1), (List.take_append_drop _ _).symm⟩
                rw [hfl2] at hle2
                simp only [List.length_append] at hle2 hacc
                obtain ⟨r, H6, hws6, hBd6, hn6, hF6⟩ := ws_ok (lf := lf) (n := n) (s := x) hBd5 (by omega) (by omega) (by simp only [List.length_append]; omega) (by omega)
                rw [hew]
                refine stp (And.intro @hlrow5 @rx) ?_
                refine kst trivial hws6 ?_
                refine stp trivial ?_
                refine loopR_normal (eL.length - (j + 1)) (by omega) ⟨rfl, by omega, fun k hk => ?_, j + 1, rfl, by omega, ?_, ?_⟩
                · rw [hF6 k (by omega) (by omega) (.inl (by omega))]
                  exact hk5 k hk
                · rw [hfl2, ← List.append_assoc]; exact hBd6
                · rw [← hew]
                  exact (frame_in (by rfl) (trivial))
              · have hje : j = eL.length := by omega
                subst hje
                rw [List.take_length] at hBd5
                refine stp trivial ?_
                refine loopR_normal (E.length - (i + 1)) (by omega) ⟨rfl, by omega, fun k hk => by rw [hk5 k hk]; exact hk4 k hk, i + 1, w2, rfl, by omega, hLw5.keep fun c hc => hk5 c hc, ?_, ?_⟩
                · rw [hds, List.flatten_append, hacc0]; exact hBd5
                · exact (frame_in (by rfl) (trivial))
            · refine ⟨rfl, Nat.le_refl _, fun k _ => rfl, 0, by omega, by omega, ?_, ?_⟩
              · rw [List.take_zero]; simpa using hBd4
              · exact (frame_in (by rfl) (trivial))
      · have hie : i = E.length := by omega
        subst hie
        rw [List.drop_length] at hLw
        rw [List.take_length] at hBd
        have hlw := hLw.lenl
        have k6 : decide (((0 : Nat) : Int) > ((0 : Nat) : Int)) = false := by decide
        have hlw' : lenlS w = some (.int .i64 ((0 : Nat) : Int)) := hlw
        obtain ⟨H4, hst, hn4, hk4⟩ := str_ok (lf := lf) (n := n) hBd hb (by omega) hdl (by omega)
        refine stp (And.intro @hlw' @k6) ?_
        refine cstE @k6 ?_
        refine stp trivial ?_
        refine kst trivial hst ?_
        refine stp trivial ?_
        refine ret2 trivial ?_
        exact (⟨rfl, by omega, fun k hk => by rw [hk4 k (by omega), hk3 k (by omega), hE2.2 k (by omega), hE1.2 k hk]⟩)
    · refine ⟨rfl, Nat.le_refl _, fun k _ => rfl, 0, vx, by omega, by omega, ?_, .inl ⟨rfl, .inl hg2⟩, ?_⟩
      · rw [List.drop_zero, hsrc]
        exact (hLx.lr.mono (by omega) (Nat.le_refl _)).keep fun c hc => hE2.2 c hc
      · exact (frame_in (by rfl) (trivial))
  obtain ⟨r, H', h, rfl, hr⟩ := key
  exact ⟨H', h, hr⟩
end
end Go.Sh
end
