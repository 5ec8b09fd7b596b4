/-
  Differences: the table. (frame style z)
  Differences: the collector of edits. (frame style z)
-/
import Derived.Test.YtpcpmplkblbpbaaGreatDoorShD4
set_option linter.all false
section
namespace Go.Sh
set_option maxRecDepth 10000
set_option linter.all false
attribute [go_sem] op_mks
def idm (i : Nat) : Int := (i : Int) - ((1 : Nat) : Int)
theorem idm_succ (k : Nat) : idm (k + 1) = (k : Int) := by unfold idm; omega
theorem idm_zero : idm 0 = -1 := rfl
def RowI (m : Nat) (H : Heap) (b : Nat) : Prop := ∃ ks : List Int, ks.length = m + 1 ∧ H.get b = some (.row (ks.map (SV.int .i32)) 21 true false 0)
theorem RowI.ext {m b : Nat} {H H' : Heap} (h : RowI m H b) (e : H'.get b = H.get b) : RowI m H' b := by
  obtain ⟨ks, h1, h2⟩ := h
  exact ⟨ks, h1, e.trans h2⟩
theorem one_i32 (ks : List Int) : (ks.map (SV.int .i32)).all SV.one = true := by
  rw [List.all_eq_true]
  intro x hx
  obtain ⟨c, _, rfl⟩ := List.mem_map.1 hx
  rfl
theorem i32_set {ks : List Int} {j : Nat} {v : Int} (h : j < ks.length) : (ks.map (SV.int .i32)).take j ++ ([SV.int .i32 v] ++ (ks.map (SV.int .i32)).drop (j + 1)) = (ks.set j v).map (SV.int .i32) := by
  rw [List.map_set, List.set_eq_take_append_cons_drop, if_pos (by simpa using h)]
  rfl
def TabI (n m i : Nat) (H : Heap) (tb : Nat) : Prop :=
  ∃ cs : List SV, H.get tb = some (.row cs 79 true false 0) ∧ cs.length = n + 1 ∧ cs.all SV.one = true ∧ ∀ k, i ≤ k → k ≤ n → ∃ b, cs[k]? = some (.slice b 0 (m + 1) (some (m + 1)) 1) ∧ tb < b ∧ b < H.next ∧ RowI m H b
theorem tab24 : tabT 24 = some (.code c24) := by kernel_rfl
theorem mnx_i32 (a b : Int) : mnxV true [.int .i32 a, .int .i32 b] = some (.int .i32 (if b > a then b else a)) := by
  simp only [mnxV, minmax, if_true]
theorem add_i32 (a b : Int) : binS .add (.int .i32 a) (.int .i32 b) = some (.int .i32 (IntKind.wrap .i32 (a + b))) := rfl
@[reducible] def J24 (vx vy : SV) (m k tb rb bb n1 : Nat) (H1 : Heap) (me : Nat) (ts : T) (D : DS) (H' : Heap) : Prop :=
  D = [] ∧ H'.next = H1.next ∧ (∀ c, c ≠ rb → H'.get c = H1.get c) ∧ RowI m H' rb ∧ ∃ (j : Nat), me = j ∧ j ≤ m ∧
    ∃ z : Nat → SV, ts = ((vx) :: (vy) :: z 2 :: z 3 :: z 4 :: (.slice tb 0 n1 (some n1) 1) :: (.int .i64 (k : Int)) :: (.slice rb 0 (m + 1) (some (m + 1)) 1) :: (.slice bb 0 (m + 1) (some (m + 1)) 1) :: (.int .i64 (idm j)) :: z 10 :: z 11 :: z 12 :: z 13 :: z 14 :: z 15 :: z 16 :: z 17 :: z 18 :: z 19 :: z 20 :: z 21 :: z 22 :: z 23 :: z 24 :: z 25 :: z 26 :: z 27 :: z 28 :: z 29 :: z 30 :: z 31 :: z 32 :: z 33 :: z 34 :: z 35 :: z 36 :: z 37 :: z 38 :: z 39 :: z 40 :: z 41 :: z 42 :: z 43 :: z 44 :: z 45 :: z 46 :: z 47 :: z 48 :: z 49 :: z 50 :: z 51 :: z 52 :: z 53 :: z 54 :: z 55 :: z 56 :: z 57 :: z 58 :: z 59 :: z 60 :: z 61 :: z 62 :: z 63 :: z 64 :: z 65 :: z 66 :: z 67 :: z 68 :: z 69 :: z 70 :: z 71 :: z 72 :: z 73 :: z 74 :: z 75 :: z 76 :: z 77 :: z 78 :: z 79 :: z 80 :: [] : T) ∧ (True)
@[reducible] def K24 (vx vy : SV) (N m : Nat) (H0 : Heap) (me : Nat) (ts : T) (D : DS) (H' : Heap) : Prop :=
  D = [] ∧ Ext H0 H' ∧ H0.next < H'.next ∧ ∃ i : Nat, me = i ∧ i ≤ N ∧ TabI N m i H' H0.next ∧
    ∃ z : Nat → SV, ts = ((vx) :: (vy) :: z 2 :: z 3 :: z 4 :: (.slice H0.next 0 (N + 1) (some (N + 1)) 1) :: (.int .i64 (idm i)) :: z 7 :: z 8 :: z 9 :: z 10 :: z 11 :: z 12 :: z 13 :: z 14 :: z 15 :: z 16 :: z 17 :: z 18 :: z 19 :: z 20 :: z 21 :: z 22 :: z 23 :: z 24 :: z 25 :: z 26 :: z 27 :: z 28 :: z 29 :: z 30 :: z 31 :: z 32 :: z 33 :: z 34 :: z 35 :: z 36 :: z 37 :: z 38 :: z 39 :: z 40 :: z 41 :: z 42 :: z 43 :: z 44 :: z 45 :: z 46 :: z 47 :: z 48 :: z 49 :: z 50 :: z 51 :: z 52 :: z 53 :: z 54 :: z 55 :: z 56 :: z 57 :: z 58 :: z 59 :: z 60 :: z 61 :: z 62 :: z 63 :: z 64 :: z 65 :: z 66 :: z 67 :: z 68 :: z 69 :: z 70 :: z 71 :: z 72 :: z 73 :: z 74 :: z 75 :: z 76 :: z 77 :: z 78 :: z 79 :: z 80 :: [] : T) ∧ (True)
theorem sto_one {cs : List SV} {j : Nat} {v : SV} (h : j < cs.length) (hc : cs.all SV.one = true) (hv : SV.one v = true) : (cs.take j ++ (v :: cs.drop (j + 1))).all SV.one = true := by
  rw [← List.take_append_drop j cs, List.all_append, Bool.and_eq_true] at hc
  have h2 := hc.2
  rw [List.drop_eq_getElem_cons h, List.all_cons, Bool.and_eq_true] at h2
  simp only [List.all_append, List.all_cons, Bool.and_eq_true]
  exact ⟨hc.1, hv, h2.2⟩
theorem sto_self {cs : List SV} {j : Nat} {v : SV} (h : j < cs.length) : (cs.take j ++ (v :: cs.drop (j + 1)))[j]? = some v := by
  rw [List.getElem?_append_right (by simp; omega), List.length_take, Nat.min_eq_left (by omega), Nat.sub_self]
  rfl
theorem sto_other {cs : List SV} {i j : Nat} {v : SV} (h : j < cs.length) (hij : i ≠ j) : (cs.take j ++ (v :: cs.drop (j + 1)))[i]? = cs[i]? := by
  have := List.set_eq_take_append_cons_drop (l := cs) (i := j) (a := v)
  rw [if_pos h] at this
  rw [← this, List.getElem?_set_ne (Ne.symm hij)]
section
variable {lf n : Nat} {H : Heap}
theorem common_ok {B0 : Nat} {vx vy : SV} {X Y : List (List Nat)} (hX : Ls B0 H vx X) (hY : Ls B0 H vy Y) (lX : X.length ≤ 1000) (lY : Y.length ≤ 1000) (hn : 1 ≤ n) (hlf : 1001 < lf) :
    ∃ tb H', callS tabT lf n 24 [vx, vy] H = some (.slice tb 0 (X.length + 1) (some (X.length + 1)) 1, H') ∧ Ext H H' ∧ H.next ≤ tb ∧ tb < H'.next ∧ TabI X.length Y.length 0 H' tb := by
  obtain ⟨n, rfl⟩ : ∃ m, n = m + 1 := ⟨n - 1, by omega⟩
  obtain ⟨xb, xo, xc, xs, xe, xr, xf, rfl, hxb0, hxb, hxrow, hxc, hxl, hxat⟩ := hX
  obtain ⟨yb, yo, yc, ys, ye, yr, yf, rfl, hyb0, hyb, hyrow, hyc, hyl, hyat⟩ := hY
  have key : ∃ v H', callS tabT lf (n + 1) 24 [.slice xb xo X.length xc 1, .slice yb yo Y.length yc 1] H = some (v, H') ∧ ∃ tb, v = .slice tb 0 (X.length + 1) (some (X.length + 1)) 1 ∧ Ext H H' ∧ H.next ≤ tb ∧ tb < H'.next ∧ TabI X.length Y.length 0 H' tb := by
    have hx1 : (X.length : Int) + ((1 : Nat) : Int) = ((X.length + 1 : Nat) : Int) := by omega
    have hy1 : (Y.length : Int) + ((1 : Nat) : Int) = ((Y.length + 1 : Nat) : Int) := by omega
    have mk1 : ∀ H, mksV 79 1 24 [.nils] (.int .i64 ((X.length + 1 : Nat) : Int)) (.int .i64 ((X.length + 1 : Nat) : Int)) H = some (.slice H.next 0 (X.length + 1) (some (X.length + 1)) 1, H.push (.row (List.replicate (X.length + 1) .nils) 79 true false 0)) := fun H => by
      rw [mks_int (Nat.le_refl _) (by omega) (by omega), rep1]
    have mk2 : ∀ H, mksV 21 1 4 [.int .i32 ((0 : Nat) : Int)] (.int .i64 ((Y.length + 1 : Nat) : Int)) (.int .i64 ((Y.length + 1 : Nat) : Int)) H = some (.slice H.next 0 (Y.length + 1) (some (Y.length + 1)) 1, H.push (.row (List.replicate (Y.length + 1) (.int .i32 ((0 : Nat) : Int))) 21 true false 0)) := fun H => by
      rw [mks_int (Nat.le_refl _) (by omega) (by omega), rep1]
    obtain ⟨H1, hH1⟩ : ∃ H1, (H.push (.row (List.replicate (X.length + 1) .nils) 79 true false 0)) = H1 := ⟨_, rfl⟩
    have hg1 : H1.get H.next = some (.row (List.replicate (X.length + 1) .nils) 79 true false 0) := by rw [← hH1]; exact get_push_self _
    have hn1 : H1.next = H.next + 1 := by rw [← hH1]; rfl
    have hE1 : Ext H H1 := by rw [← hH1]; exact (Ext.refl _).push _
    obtain ⟨H2, hH2⟩ : ∃ H2, (H1.push (.row (List.replicate (Y.length + 1) (.int .i32 ((0 : Nat) : Int))) 21 true false 0)) = H2 := ⟨_, rfl⟩
    have hg2 : H2.get H.next = some (.row (List.replicate (X.length + 1) .nils) 79 true false 0) := by rw [← hH2, get_push_old (by omega)]; exact hg1
    have hn2 : H2.next = H1.next + 1 := by rw [← hH2]; rfl
    obtain ⟨cs0, hcs0⟩ : ∃ cs0, List.replicate (X.length + 1) SV.nils = cs0 := ⟨_, rfl⟩
    rw [hcs0] at hg2
    have hl0 : cs0.length = X.length + 1 := by rw [← hcs0]; simp
    have hsubx : (X.length : Int) - ((1 : Nat) : Int) = idm X.length := rfl
    refine call_code tab24 (by simp only [c24, go_sem, List.reduceReplicate, Nat.reduceAdd, Nat.reduceSub]; exact rfl) ?_
    simp only [c24]
    refine stp @hx1 ?_
    refine stp (And.intro @mk1 (And.intro @hH1 @hy1)) ?_
    refine stp (And.intro @mk2 (And.intro @hH2 (And.intro @hg2 @hl0))) ?_
    refine stp @hsubx ?_
    have zeq : ((0 : Nat) : Int) = 0 := rfl
    refine EC_loop (I := K24 (.slice xb xo X.length xc 1) (.slice yb yo Y.length yc 1) X.length Y.length H) ?_ X.length ?_ (by omega)
    · rintro m ts D H3 ⟨rfl, hE3, hn3, i, rfl, hi, hT, ⟨z, rfl, -⟩⟩
      cases m with
      | zero =>
        have d0 : decide (idm 0 ≥ ((0 : Nat) : Int)) = false := by decide
        refine stp @d0 ?_
        refine cstE @d0 ?_
        refine stp trivial ?_
        refine ret1 trivial ?_
        exact (⟨H.next, rfl, hE3, Nat.le_refl _, hn3, hT⟩)
      | succ k =>
        rw [idm_succ k]
        have d0 : decide ((k : Int) ≥ ((0 : Nat) : Int)) = true := by simp only [decide_eq_true_eq]; omega
        obtain ⟨cs, hcs, hcl, hco, hrows⟩ := hT
        obtain ⟨bb, hbb, hbb1, hbb2, hbbr⟩ := hrows (k + 1) (Nat.le_refl _) hi
        have hk1 : (k : Int) + ((1 : Nat) : Int) = ((k + 1 : Nat) : Int) := by omega
        obtain ⟨H4, hH4⟩ : ∃ H4, (H3.push (.row (List.replicate (Y.length + 1) (.int .i32 ((0 : Nat) : Int))) 21 true false 0)) = H4 := ⟨_, rfl⟩
        have hn4 : H4.next = H3.next + 1 := by rw [← hH4]; rfl
        have hold : ∀ c, c < H3.next → H4.get c = H3.get c := fun c hc => by rw [← hH4]; exact get_push_old hc
        have hcs4 : H4.get H.next = some (.row cs 79 true false 0) := by rw [hold _ hn3]; exact hcs
        have hcell : rowL (some (.row cs 79 true false 0)) (k + 1) 1 = some [.slice bb 0 (Y.length + 1) (some (Y.length + 1)) 1] := rowL_one hbb
        have hr4 : RowI Y.length H4 H3.next := ⟨List.replicate (Y.length + 1) ((0 : Nat) : Int), by simp, by rw [← hH4, get_push_self]; simp⟩
        have hsuby : (Y.length : Int) - ((1 : Nat) : Int) = idm Y.length := rfl
        refine stp @d0 ?_
        refine cstT @d0 ?_
        refine stp trivial ?_
        refine EC_draw rfl ?_
        refine stp (And.intro @hy1 (And.intro @mk2 (And.intro @hH4 (And.intro @hk1 (And.intro @hcs4 @hcell))))) ?_
        refine ⟨?_, fun h => (by cases h), _, (by simp only [List.getLast?_cons_cons, List.getLast?_singleton]; first | done | with_reducible rfl), ?_⟩
        · repeat (first | exact readsD_nil _ _ _ | refine readsD_pure ?_ | refine readsD_eff ?_ | refine readsD_read (by simp only [allFrom, Bool.and_eq_true, and_true]; exact ⟨quiet_ok (H' := H3) (by exact sfc (And.intro @hcs @hcell)) (by simp only [go_sem]), quiet_ok (H' := H4) (by exact sfc (And.intro @hcs4 @hcell)) (by simp only [go_sem])⟩) ?_)
        · refine stp @hsuby ?_
          have hxk : k < X.length := by omega
          obtain ⟨x, hx⟩ : ∃ x, X[k]? = some x := ⟨_, List.getElem?_eq_getElem hxk⟩
          have rx : rowL (some (.row xs 9 xe xr xf)) (xo + k) 1 = some [.str x] := rowL_one (hxat k x hx)
          have hN : H.next ≤ H3.next := hE3.1
          refine EC_loop (I := J24 (.slice xb xo X.length xc 1) (.slice yb yo Y.length yc 1) Y.length k H.next H3.next bb (X.length + 1) H4) ?_ Y.length ?_ (by omega)
          · rintro m ts D H5 ⟨rfl, hn5, hk5, ⟨ks, hks, hrow5⟩, j, rfl, hj, ⟨z, rfl, -⟩⟩
            cases m with
            | zero =>
              have d1 : decide (idm 0 ≥ ((0 : Nat) : Int)) = false := by decide
              have hcs5 : H5.get H.next = some (.row cs 79 true false 0) := by rw [hk5 _ (by omega)]; exact hcs4
              have hck : k < cs.length := by omega
              have hsub : (k : Int) - ((1 : Nat) : Int) = idm k := rfl
              refine stp @d1 ?_
              refine cstE @d1 ?_
              refine stp (And.intro @hcs5 (And.intro @hcl (And.intro @hco @hsub))) ?_
              refine loopR_normal k (by omega) ⟨rfl, ⟨by rw [next_put]; omega, fun c hc => ?_⟩, by rw [next_put]; omega, k, rfl, by omega, ⟨_, get_put_self _ _, ?_, ?_, fun i hi1 hi2 => ?_⟩, ?_⟩
              · rw [get_put_other (by omega), hk5 c (by omega), hold c (by omega)]
                exact hE3.2 c hc
              · simp
                omega
              · exact sto_one (by omega) hco rfl
              · by_cases hik : i = k
                · subst hik
                  refine ⟨H3.next, sto_self (by omega), hn3, by rw [next_put]; omega, ⟨ks, hks, ?_⟩⟩
                  rw [get_put_other (by omega)]
                  exact hrow5
                · obtain ⟨b, hb1, hb2, hb3, hb4⟩ := hrows i (by omega) hi2
                  refine ⟨b, (sto_other (by omega) hik).trans hb1, hb2, by rw [next_put]; omega, hb4.ext ?_⟩
                  rw [get_put_other (by omega), hk5 b (by omega), hold b hb3]
              · exact (frame_in (by rfl) (trivial))
            | succ j =>
              rw [idm_succ j]
              have d1 : decide ((j : Int) ≥ ((0 : Nat) : Int)) = true := by simp only [decide_eq_true_eq]; omega
              have hyj : j < Y.length := by omega
              obtain ⟨y, hy⟩ : ∃ y, Y[j]? = some y := ⟨_, List.getElem?_eq_getElem hyj⟩
              have ry : rowL (some (.row ys 9 ye yr yf)) (yo + j) 1 = some [.str y] := rowL_one (hyat j y hy)
              have hxrow5 : H5.get xb = some (.row xs 9 xe xr xf) := by rw [hk5 xb (by omega), hold xb (by omega), hE3.2 xb hxb]; exact hxrow
              have hyrow5 : H5.get yb = some (.row ys 9 ye yr yf) := by rw [hk5 yb (by omega), hold yb (by omega), hE3.2 yb hyb]; exact hyrow
              obtain ⟨kb, hkb, hbrow⟩ := hbbr
              have hbrow5 : H5.get bb = some (.row (kb.map (SV.int .i32)) 21 true false 0) := by rw [hk5 bb (by omega), hold bb (by omega)]; exact hbrow
              have hj1 : (j : Int) + ((1 : Nat) : Int) = ((j + 1 : Nat) : Int) := by omega
              have hsub : (j : Int) - ((1 : Nat) : Int) = idm j := rfl
              have rb1 : rowL (some (.row (kb.map (SV.int .i32)) 21 true false 0)) (j + 1) 1 = some [.int .i32 (kb.getD (j + 1) 0)] := rowL_one (by
                rw [List.getElem?_map, List.getD_eq_getElem?_getD, List.getElem?_eq_getElem (by omega)]; rfl)
              have rb0 : rowL (some (.row (kb.map (SV.int .i32)) 21 true false 0)) j 1 = some [.int .i32 (kb.getD j 0)] := rowL_one (by
                rw [List.getElem?_map, List.getD_eq_getElem?_getD, List.getElem?_eq_getElem (by omega)]; rfl)
              have rr1 : rowL (some (.row (ks.map (SV.int .i32)) 21 true false 0)) (j + 1) 1 = some [.int .i32 (ks.getD (j + 1) 0)] := rowL_one (by
                rw [List.getElem?_map, List.getD_eq_getElem?_getD, List.getElem?_eq_getElem (by omega)]; rfl)
              have hset := fun v => i32_set (ks := ks) (j := j) (v := v) (by omega)
              have hone := one_i32 ks
              have hlen : (ks.map (SV.int .i32)).length = Y.length + 1 := by rw [List.length_map]; exact hks
              obtain ⟨kbs, hkbs⟩ : ∃ kbs, kb.map (SV.int .i32) = kbs := ⟨_, rfl⟩
              obtain ⟨kss, hkss⟩ : ∃ kss, ks.map (SV.int .i32) = kss := ⟨_, rfl⟩
              rw [hkbs] at hbrow5 rb1 rb0
              rw [hkss] at hrow5 rr1 hset hone hlen
              refine stp @d1 ?_
              refine cstT @d1 ?_
              refine stp (And.intro @hxrow5 (And.intro @hyrow5 (And.intro @rx @ry))) ?_
              by_cases hxy : x = y
              · have dxy : decide (x = y) = true := decide_eq_true hxy
                refine cstT @dxy ?_
                refine stp (And.intro @hbrow5 (And.intro @rb1 (And.intro @hj1 (And.intro @hrow5 (And.intro @hone @hlen))))) ?_
                refine stp @hsub ?_
                refine loopR_normal j (by omega) ⟨rfl, by rw [next_put]; exact hn5, fun c hc => by rw [get_put_other hc]; exact hk5 c hc, ⟨ks.set j (IntKind.i32.wrap (kb.getD (j + 1) 0 + ((1 : Nat) : Int))), ?_, ?_⟩, j, rfl, by omega, ?_⟩
                · rw [List.length_set]; exact hks
                · rw [get_put_self, ← hset]; rfl
                · exact (frame_in (by rfl) (trivial))
              · have dxy : decide (x = y) = false := decide_eq_false hxy
                have hmx := mnx_i32 (kb.getD j 0) (ks.getD (j + 1) 0)
                refine cstE @dxy ?_
                refine EC_draw rfl ?_
                refine stp (And.intro @hbrow5 (And.intro @rb0 (And.intro @hj1 (And.intro @hrow5 (And.intro @rr1 (And.intro @hmx (And.intro @hone @hlen))))))) ?_
                refine ⟨?_, fun h => (by cases h), _, (by simp only [List.getLast?_cons_cons, List.getLast?_singleton]; first | done | with_reducible rfl), ?_⟩
                · repeat (first | exact readsD_nil _ _ _ | refine readsD_pure ?_ | refine readsD_eff ?_ | refine readsD_read (by simp only [allFrom, Bool.and_eq_true, and_true]; exact quiet_ok (H' := H5) (by exact sfc (And.intro @hbrow5 (And.intro @rb0 (And.intro @hrow5 @rr1)))) (by simp only [go_sem])) ?_)
                · refine stp @hsub ?_
                  refine loopR_normal j (by omega) ⟨rfl, by rw [next_put]; exact hn5, fun c hc => by rw [get_put_other hc]; exact hk5 c hc, ⟨ks.set j (if ks.getD (j + 1) 0 > kb.getD j 0 then ks.getD (j + 1) 0 else kb.getD j 0), ?_, ?_⟩, j, rfl, by omega, ?_⟩
                  · rw [List.length_set]; exact hks
                  · rw [get_put_self, ← hset]; rfl
                  · exact (frame_in (by rfl) (trivial))
          · refine ⟨rfl, rfl, fun c _ => rfl, hr4, Y.length, rfl, Nat.le_refl _, ?_⟩
            exact (frame_in (by rfl) (trivial))
    · have hE2 : Ext H1 H2 := by rw [← hH2]; exact (Ext.refl _).push _
      refine ⟨rfl, ⟨by rw [next_put]; omega, fun c hc => by rw [get_put_other (by omega), hE2.2 c (by omega), hE1.2 c hc]⟩, by rw [next_put]; omega, X.length, rfl, Nat.le_refl _, ⟨_, get_put_self _ _, ?_, ?_, fun i hi1 hi2 => ?_⟩, ?_⟩
      · simp
        omega
      · refine sto_one (by omega) ?_ rfl
        rw [← hcs0, List.all_eq_true]
        intro x hx
        obtain ⟨_, rfl⟩ := List.mem_replicate.1 hx
        rfl
      · obtain rfl : i = X.length := by omega
        refine ⟨H1.next, sto_self (by omega), by omega, by rw [next_put]; omega, ⟨List.replicate (Y.length + 1) ((0 : Nat) : Int), by simp, ?_⟩⟩
        rw [get_put_other (by omega), ← hH2, get_push_self]
        simp
      · exact (frame_in (by rfl) (trivial))
  obtain ⟨v, H', h, tb, rfl, hr⟩ := key
  exact ⟨tb, H', h, hr⟩
end
end Go.Sh
end
section
namespace Go.Sh
set_option maxRecDepth 10000
set_option linter.all false
theorem app_own {H : Heap} {B0 e z bytes : Nat} {v : SV} {L : List (List SV)} {x : List SV} {b' : Nat} {e' : TypeId} {ex ro : Bool} {frz : Nat} {c : Option Nat}
    (hS : Sl B0 e z H v L) (hL : AllL z L) (hx : x.length = z) (hone : x.all SV.one = true) (hb' : H.get b' = some (.row x e' ex ro frz)) (hB : B0 ≤ H.next)
    (h1 : (L.length + 1) * bytes ≤ 35184372088832) (h2 : L.length + 1 ≤ 35184372088832) :
    ∃ H', appS H false e z bytes v (.slice b' 0 1 c z) = some (.slice H.next 0 (L.length + 1) none z, H') ∧ H'.get H.next = some (.row (L ++ [x]).flatten e false false 0) ∧ H'.next = H.next + 1 ∧
      ∀ k, k < H.next → (∀ n, v ≠ .slice k 0 n none z) → H'.get k = H.get k := by
  have hsrc := srcS_one (c := c) hx hb'
  rcases hS with ⟨rfl, rfl⟩ | ⟨hne, b, hb0, hbn, rfl, hrow⟩
  · refine ⟨H.push (.row x e false false 0), ?_, ?_, rfl, fun k hk _ => get_push_old hk⟩
    · simp only [appS, hsrc, roomS]
      rw [ble_true (by simpa using h1), ble_true (by omega)]
      rfl
    · rw [get_push_self]; simp
  · have hlen := flatten_len hL
    have hload : loadC H b 0 (L.length * z) = some L.flatten := by
      rw [loadC_eq, hrow, rowL_row (by omega), List.drop_zero, ← hlen, List.take_length]
    refine ⟨(H.put b .dead).push (.row (L.flatten ++ x) e false false 0), ?_, ?_, rfl, fun k hk hv => ?_⟩
    · simp only [appS, hsrc, roomS, beq_self, ble_true h1, ble_true h2, hload, hrow, hone, Bool.and_self]
      rw [ble_true (Nat.zero_le _)]
      rfl
    · have : (H.put b .dead).next = H.next := rfl
      rw [← this, get_push_self]
      simp
    · rw [get_push_old (by rw [next_put]; omega), get_put_other (fun h => hv L.length (by rw [h]))]
abbrev Edt := Nat × SV × List (List Nat)
def edC (e : Edt) : List SV := [.int .i64 (e.1 : Int), e.2.1]
theorem edC_all (E : List Edt) : AllL 2 (E.map edC) := fun x hx => by
  obtain ⟨t, _, rfl⟩ := List.mem_map.1 hx
  rfl
def addE (E : List Edt) (k : Nat) (w : SV) (L : List (List Nat)) : List Edt := if L = [] then E else E ++ [(k, w, L)]
def N66 (H : Heap) (c : Nat) : Prop := ∀ cs, H.get c ≠ some (.row cs 66 false false 0)
def FrS (B0 sp : Nat) (H H' : Heap) : Prop := H.next ≤ H'.next ∧ ∀ c, c < H.next → c ≠ sp → (c < B0 ∨ N66 H c) → H'.get c = H.get c
theorem FrS.refl (B0 sp : Nat) (H : Heap) : FrS B0 sp H H := ⟨Nat.le_refl _, fun _ _ _ _ => rfl⟩
theorem FrS.trans {B0 sp : Nat} {H H1 H2 : Heap} (h : FrS B0 sp H H1) (k : FrS B0 sp H1 H2) : FrS B0 sp H H2 :=
  ⟨Nat.le_trans h.1 k.1, fun c hc hs hn => by
    have e := h.2 c hc hs hn
    rw [k.2 c (Nat.lt_of_lt_of_le hc h.1) hs (hn.elim .inl fun hn => .inr fun cs => by rw [e]; exact hn cs), e]⟩
theorem tab23 : tabT 23 = some (.code c23) := by kernel_rfl
theorem tab25 : tabT 25 = some (.code c25) := by kernel_rfl
theorem tab26 : tabT 26 = some (.code c26) := by kernel_rfl
section
variable {lf n : Nat} {H : Heap}
theorem add_ok {B0 sp k : Nat} {we wd wi wk w : SV} {E : List Edt} {L : List (List Nat)} (hsp : H.get sp = some (.row [we, wd, wi, wk] 75 true false 0)) (hspn : sp < H.next) (hE : Sl B0 66 2 H we (E.map edC)) (hB : B0 ≤ H.next)
    (hw : lenlS w = some (.int .i64 (L.length : Int))) (ho : SV.one w = true) (hl : E.length < 10000) (hwl : L.length < 100000) (hn : 1 ≤ n) :
    ∃ we' H', callS tabT lf n 23 [.ptr sp 0, .int .i64 (k : Int), w] H = some (.tup [], H') ∧ FrS B0 sp H H' ∧ H'.get sp = some (.row [we', wd, wi, wk] 75 true false 0) ∧ Sl B0 66 2 H' we' ((addE E k w L).map edC) := by
  obtain ⟨n, rfl⟩ : ∃ m, n = m + 1 := ⟨n - 1, by omega⟩
  have key : ∃ v H', callS tabT lf (n + 1) 23 [.ptr sp 0, .int .i64 (k : Int), w] H = some (v, H') ∧ ∃ we', v = .tup [] ∧ FrS B0 sp H H' ∧ H'.get sp = some (.row [we', wd, wi, wk] 75 true false 0) ∧ Sl B0 66 2 H' we' ((addE E k w L).map edC) := by
    have cw : w.cells = [w] := by cases w <;> first | rfl | cases ho
    refine call_code tab23 (by simp only [c23, go_sem, List.reduceReplicate, Nat.reduceAdd, Nat.reduceSub]; exact rfl) ?_
    simp only [c23]
    by_cases h0 : L = []
    · subst h0
      have d0 : decide (((0 : Nat) : Int) > ((0 : Nat) : Int)) = false := by decide
      refine stp (And.intro @hw @d0) ?_
      refine cstE @d0 ?_
      refine stp trivial ?_
      refine funR_normal res_nil ?_
      exact (⟨we, rfl, FrS.refl _ _ _, hsp, by rw [addE, if_pos rfl]; exact hE⟩)
    · have hp : 0 < L.length := List.length_pos_iff.2 h0
      have d0 : decide ((L.length : Int) > ((0 : Nat) : Int)) = true := by simp only [decide_eq_true_eq]; omega
      obtain ⟨H1, hH1⟩ : ∃ H1, H.push (.row [.int .i64 (k : Int), w] 66 true false 0) = H1 := ⟨_, rfl⟩
      have hg1 : H1.get H.next = some (.row [.int .i64 (k : Int), w] 66 true false 0) := by rw [← hH1]; exact get_push_self _
      have hE1 : Ext H H1 := by rw [← hH1]; exact (Ext.refl _).push _
      have hn1 : H1.next = H.next + 1 := by rw [← hH1]; rfl
      have hlm : (E.map edC).length = E.length := List.length_map ..
      obtain ⟨H2, ha, hg2, hn2, hf2⟩ := app_own (bytes := 32) (c := some 1) (hE.keep hE1) (edC_all E) (x := [.int .i64 (k : Int), w]) rfl (by show (true && (SV.one w && true)) = true; rw [ho]; rfl) hg1 (by omega) (by omega) (by omega)
      rw [hlm] at ha
      have hsp1 : H1.get sp = some (.row [we, wd, wi, wk] 75 true false 0) := by rw [hE1.2 sp hspn]; exact hsp
      have hne : ∀ m, we ≠ .slice sp 0 m none 2 := fun m e => by
        rcases hE with ⟨_, h⟩ | ⟨_, b, _, _, h, hr⟩
        · rw [h] at e; cases e
        · rw [h] at e
          injection e with e1
          rw [e1, hsp] at hr
          injection hr with h2
          injection h2 with _ h3
          exact absurd h3 (by decide)
      have hsp2 : H2.get sp = some (.row [we, wd, wi, wk] 75 true false 0) := by rw [hf2 sp (by omega) hne]; exact hsp1
      have hst : storeS 1 (.ptr sp 0) [.slice H1.next 0 (E.length + 1) none 2] H2 = some (H2.put sp (.row [.slice H1.next 0 (E.length + 1) none 2, wd, wi, wk] 75 true false 0)) := by
        rw [store_ptr (n := 1) (cs := [.slice H1.next 0 (E.length + 1) none 2]) rfl, storeC_eq, hsp2, sto_row (by simp) (by omega) (by simp [SV.one])]
        rfl
      have ha' : appV H1 false 66 2 32 we (.slice H.next 0 1 (some 1) 2) = some (.slice H1.next 0 (E.length + 1) none 2, H2) := ha
      refine stp (And.intro @hw @d0) ?_
      refine cstT @d0 ?_
      refine stp (And.intro @hsp (And.intro @cw (And.intro @hH1 (And.intro @ha' @hst)))) ?_
      refine funR_normal res_nil ?_
      refine (⟨_, rfl, ⟨by rw [next_put]; omega, fun c hc hcs hcn => ?_⟩, get_put_self _ _, ?_⟩)
      · rw [get_put_other hcs, hf2 c (by omega) (fun m e => ?_), hE1.2 c hc]
        rcases hE with ⟨_, h⟩ | ⟨_, b, hb0, _, h, hr⟩
        · rw [h] at e; cases e
        · rw [h] at e
          injection e with e1
          rw [e1] at hr hb0
          rcases hcn with hcn | hcn
          · omega
          · exact hcn _ hr
      · rw [addE, if_neg h0]
        refine .inr ⟨by simp, H1.next, by omega, by rw [next_put]; omega, by simp, ?_⟩
        rw [get_put_other (by omega), hg2, List.map_append]
        rfl
  obtain ⟨v, H', h, we', rfl, hr⟩ := key
  exact ⟨we', H', h, hr⟩
end
end Go.Sh
end
