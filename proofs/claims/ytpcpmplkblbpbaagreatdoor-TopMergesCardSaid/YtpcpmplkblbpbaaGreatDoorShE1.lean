/-
  Merges: Merge. (frame style z)
-/
import Derived.Test.YtpcpmplkblbpbaaGreatDoorShE0
import Derived.Test.YtpcpmplkblbpbaaGreatDoorShD3
set_option linter.all false
section
namespace Go.Sh
set_option maxRecDepth 10000
set_option linter.all false
/-! ### Loops of a known number of rounds -/
section
variable {call : CallS} {lf : Nat} {b : SCode} {ts : T} {D : DS} {H : Heap} {R : SExit → T → DS → Heap → Prop}
def EL (call : CallS) (lf : Nat) (b : SCode) (k : Nat) (ts : T) (D : DS) (H : Heap) (R : SExit → T → DS → Heap → Prop) : Prop := ∃ x ts' D' H', loopN (evalC call lf b) k ts D H = some (x, ts', D', H') ∧ R x ts' D' H'
def loopKR (call : CallS) (lf : Nat) (b : SCode) (k : Nat) (R : SExit → T → DS → Heap → Prop) (x : SExit) (ts : T) (D : DS) (H : Heap) : Prop := match x with
  | .normal => EL call lf b k ts D H R
  | x => R x ts D H
theorem EC_loopK {k : Nat} (hk : lf = k) (h : EL call lf b k ts D H R) : EC call lf (.loop b) ts D H R := by
  obtain ⟨x, t, d, h', h1, h2⟩ := h
  unfold EC
  refine ⟨x, t, d, h', ?_, h2⟩
  simp only [evalC]
  rw [← h1]
  exact congrFun (congrFun (congrFun (congrArg (loopN (evalC call lf b)) hk) ts) D) H
theorem EL_step {k : Nat} (h : EC call lf b ts D H (loopKR call lf b k R)) : EL call lf b (k + 1) ts D H R := by
  unfold EC at h
  obtain ⟨x, t, d, h', h1, h2⟩ := h
  cases x with
  | normal =>
    obtain ⟨x', t', d', h'', h3, h4⟩ := h2
    exact ⟨x', t', d', h'', by simp only [loopN, h1]; exact h3, h4⟩
  | exit id => exact ⟨_, _, _, _, by simp only [loopN, h1], h2⟩
  | ret => exact ⟨_, _, _, _, by simp only [loopN, h1], h2⟩
theorem loopKR_normal {k : Nat} (h : EL call lf b k ts D H R) : loopKR call lf b k R .normal ts D H := h
theorem loopKR_exit {k id : Nat} (h : R (.exit id) ts D H) : loopKR call lf b k R (.exit id) ts D H := h
theorem loopKR_ret {k : Nat} (h : R .ret ts D H) : loopKR call lf b k R .ret ts D H := h
end
attribute [irreducible] EL loopKR
theorem Su.keep {B0 : Nat} {H H' : Heap} {v : SV} {L : List Un} (h : Su B0 H v L) (hk : ∀ c, B0 ≤ c → c < H.next → H'.get c = H.get c) (hn : H.next ≤ H'.next) : Su B0 H' v L := by
  obtain ⟨hne, b, c, ex, h1, h2, h3, h4, h5⟩ := h
  exact ⟨hne, b, c, ex, h1, Nat.lt_of_lt_of_le h2 hn, h3, h4, by rw [hk b h1 h2]; exact h5⟩
theorem Su.one {B0 : Nat} {H : Heap} {v : SV} {L : List Un} (h : Su B0 H v L) : SV.one v = true := by
  obtain ⟨hne, b, c, ex, h1, h2, rfl, h4, h5⟩ := h
  rfl
theorem Su.cells {B0 : Nat} {H : Heap} {v : SV} {L : List Un} (h : Su B0 H v L) : v.cells = [v] := by
  obtain ⟨hne, b, c, ex, h1, h2, rfl, h4, h5⟩ := h
  rfl
theorem Su.bq {B0 : Nat} {H : Heap} {v : SV} {L : List Un} (h : Su B0 H v L) : beqS v v = true := by
  obtain ⟨hne, b, c, ex, h1, h2, rfl, h4, h5⟩ := h
  rcases h4 with rfl | rfl <;> simp [beqS, beqOne]
theorem Su.su0 {B0 B1 : Nat} {H : Heap} {v : SV} {L : List Un} (h : Su B0 H v L) (hb : B1 ≤ B0) : Su B1 H v L := by
  obtain ⟨hne, b, c, ex, h1, h2, h3, h4, h5⟩ := h
  exact ⟨hne, b, c, ex, Nat.le_trans hb h1, h2, h3, h4, h5⟩
def UOK (s : List Nat) (U : List Un) : Prop := ∀ (lf n : Nat) (H : Heap), 11 ≤ n → 20000 < lf → ∃ v H', callS tabT lf n 13 [.str s] H = some (.tup [v, .int .i64 0], H') ∧ Ext H H' ∧ Su H.next H' v U
def mergedStep (B O Th : List Un) (u : Un) : Option Un := (chooseF (textsF B (nmU u)) (textsF O (nmU u)) (textsF Th (nmU u))).1.map fun x => ⟨u.title, u.nth, x⟩
def mergedU (B O Th : List Un) : List Un := (ordF O Th).filterMap (mergedStep B O Th)
def mergeF (sb so st : List Nat) (B O Th : List Un) : List Nat := if so = sb ∨ so = st then st else if st = sb then so else joinU (mergedU B O Th)
theorem Sl.move {mark e z : Nat} {H H' : Heap} {w : SV} {L : List (List SV)} (h : Sl mark e z H w L) (hn : H.next ≤ H'.next) (hk : ∀ c cs, mark ≤ c → c < H.next → H.get c = some (.row cs e false false 0) → H'.get c = H.get c) : Sl mark e z H' w L := by
  rcases h with h | ⟨hne, b, h1, h2, h3, h4⟩
  · exact .inl h
  · exact .inr ⟨hne, b, h1, Nat.lt_of_lt_of_le h2 hn, h3, by rw [hk b _ h1 h2 h4]; exact h4⟩
theorem Sl.cells {mark e z : Nat} {H : Heap} {w : SV} {L : List (List SV)} (h : Sl mark e z H w L) : w.cells = [w] := by
  rcases h with ⟨_, rfl⟩ | ⟨_, b, _, _, rfl, _⟩ <;> rfl
theorem bq_opC (o : Option (List Nat)) : beqS (opC o) (opC o) = true := by
  cases o <;> simp [opC, beqS, beqList, beqOne, eqS_dec]
theorem opC_cells (o : Option (List Nat)) : (opC o).cells = opRow o := by rw [opC_row]; rfl
theorem strL_all1 (L : List (List Nat)) : AllL 1 (strL L) := strL_all L
@[reducible] def I6M (sb so st : List Nat) (B O Th W : List Un) (bW p6 p16 mB mO mT : Nat) (H0 : Heap) (m : Nat) (ts : T) (D : DS) (H' : Heap) : Prop :=
  D = [] ∧ H0.next ≤ H'.next ∧ (∀ k, k < H0.next → k ≠ p16 → H'.get k = H0.get k) ∧ ∃ (i : Nat) (wc wu : SV) (C : List (List Nat)), m = W.length - i ∧ i ≤ W.length ∧ C.length ≤ i ∧ Sl H0.next 9 1 H' wc (strL C) ∧
    Sl H0.next 51 3 H' wu (((W.take i).filterMap (mergedStep B O Th)).map unC) ∧ H'.get p16 = some (.row [.str [], wc] 28 true false 0) ∧
    ∃ z : Nat → SV, ts = (z 0 :: z 1 :: z 2 :: z 3 :: z 4 :: z 5 :: (.ptr p6 0) :: z 7 :: z 8 :: z 9 :: z 10 :: z 11 :: z 12 :: (.map mB) :: (.map mO) :: (.map mT) :: (.ptr p16 0) :: (wu) :: z 18 :: z 19 :: z 20 :: z 21 :: z 22 :: z 23 :: z 24 :: z 25 :: z 26 :: z 27 :: z 28 :: z 29 :: z 30 :: z 31 :: z 32 :: z 33 :: z 34 :: z 35 :: z 36 :: z 37 :: z 38 :: z 39 :: z 40 :: z 41 :: z 42 :: z 43 :: z 44 :: z 45 :: z 46 :: z 47 :: z 48 :: z 49 :: z 50 :: z 51 :: z 52 :: z 53 :: z 54 :: z 55 :: z 56 :: z 57 :: z 58 :: z 59 :: z 60 :: z 61 :: z 62 :: z 63 :: z 64 :: z 65 :: z 66 :: z 67 :: z 68 :: z 69 :: z 70 :: z 71 :: z 72 :: z 73 :: (.slice bW 0 W.length none 3) :: (.int .i64 (W.length : Int)) :: (.int .i64 (i : Int)) :: z 77 :: z 78 :: z 79 :: z 80 :: z 81 :: z 82 :: z 83 :: z 84 :: z 85 :: z 86 :: z 87 :: z 88 :: z 89 :: z 90 :: z 91 :: z 92 :: z 93 :: z 94 :: z 95 :: z 96 :: z 97 :: z 98 :: z 99 :: z 100 :: z 101 :: z 102 :: z 103 :: z 104 :: z 105 :: z 106 :: z 107 :: z 108 :: z 109 :: z 110 :: z 111 :: z 112 :: z 113 :: z 114 :: z 115 :: z 116 :: z 117 :: z 118 :: z 119 :: z 120 :: z 121 :: [] : T) ∧ (True)
theorem tab6 : tabT 6 = some (.code c6) := by kernel_rfl
section
variable {lf n : Nat} {H : Heap}
set_option maxHeartbeats 4000000 in
theorem merge_ok {sb so st : List Nat} {B O Th : List Un} (hB : UOK sb B) (hO : UOK so O) (hT : UOK st Th) (hBl : B.length < 40) (hOl : O.length < 40) (hTl : Th.length < 40)
    (h0 : ∀ u, Th[0]? = some u → ∃ y ∈ O, nmU y = nmU u) (hM : mergedU B O Th ≠ []) (htx : ∀ u ∈ mergedU B O Th, u.text.length ≤ 8192 ∧ Bts u.text) (hjl : (joinU (mergedU B O Th)).length ≤ 8192) (hn : 12 ≤ n) (hlf : 20000 < lf) :
    ∃ w k H', callS tabT lf n 6 [.str sb, .str so, .str st] H = some (.tup [.agg [.str (mergeF sb so st B O Th), w], .int .i64 0], H') ∧ lenlS w = some (.int .i64 ((k : Nat) : Int)) ∧ SV.one w = true ∧ w.cells = [w] ∧ Ext H H' := by
  obtain ⟨n, rfl⟩ : ∃ m, n = m + 1 := ⟨n - 1, by omega⟩
  have key : ∃ r H', callS tabT lf (n + 1) 6 [.str sb, .str so, .str st] H = some (r, H') ∧ ∃ w k, r = .tup [.agg [.str (mergeF sb so st B O Th), w], .int .i64 0] ∧ lenlS w = some (.int .i64 ((k : Nat) : Int)) ∧ SV.one w = true ∧ w.cells = [w] ∧ Ext H H' := by
    have hlfk : lf = (lf - 4) + 1 + 1 + 1 + 1 := by omega
    obtain ⟨H1, hH1⟩ : ∃ H1, ((H.push (.row [.str [], .nils] 28 true false 0)).push (.row [.nils, .nils, .nils] 44 true false 0)).push (.row [.str sb, .str so, .str st] 9 true false 0) = H1 := ⟨_, rfl⟩
    have hn1 : H1.next = H.next + 3 := by rw [← hH1]; rfl
    have hE1 : Ext H H1 := by rw [← hH1]; exact (((Ext.refl _).push _).push _).push _
    have g6 : H1.get H.next = some (.row [.str [], .nils] 28 true false 0) := by rw [← hH1, get_push_old (by simp only [next_push]; omega), get_push_old (by simp only [next_push]; omega)]; exact get_push_self _
    have g8 : H1.get (H.next + 1) = some (.row [.nils, .nils, .nils] 44 true false 0) := by rw [← hH1, get_push_old (by simp only [next_push]; omega)]; exact get_push_self _
    have g26 : H1.get (H.next + 1 + 1) = some (.row [.str sb, .str so, .str st] 9 true false 0) := by rw [← hH1]; exact get_push_self _
    obtain ⟨vB, H2, hcB, hE2, hSB⟩ := hB lf n H1 (by omega) hlf
    have hn2 := hE2.1
    have oB := hSB.one
    have cB := hSB.cells
    obtain ⟨H2', hH2'⟩ : ∃ H2', H2.put (H.next + 1) (.row [vB, .nils, .nils] 44 true false 0) = H2' := ⟨_, rfl⟩
    have g8' : H2'.get (H.next + 1) = some (.row [vB, .nils, .nils] 44 true false 0) := by rw [← hH2']; exact get_put_self _ _
    have k2 : ∀ c, c < H1.next → c ≠ H.next + 1 → H2'.get c = H1.get c := fun c h1 h2 => by rw [← hH2', get_put_other h2, hE2.2 c h1]
    have n2' : H2'.next = H2.next := by rw [← hH2']; rfl
    have st2 : storeS 1 (.ptr (H.next + 1) 0) [vB] H2 = some H2' := by
      rw [store_ptr (n := 1) rfl, storeC_eq, hE2.2 _ (by omega), g8, sto_row (by simp) (by omega) (by simp [oB])]
      exact congrArg some hH2'
    obtain ⟨vO, H3, hcO, hE3, hSO⟩ := hO lf n H2' (by omega) hlf
    have hn3 := hE3.1
    have oO := hSO.one
    have cO := hSO.cells
    obtain ⟨H3', hH3'⟩ : ∃ H3', H3.put (H.next + 1) (.row [vB, vO, .nils] 44 true false 0) = H3' := ⟨_, rfl⟩
    have g8'' : H3'.get (H.next + 1) = some (.row [vB, vO, .nils] 44 true false 0) := by rw [← hH3']; exact get_put_self _ _
    have k3 : ∀ c, c < H2'.next → c ≠ H.next + 1 → H3'.get c = H2'.get c := fun c h1 h2 => by rw [← hH3', get_put_other h2, hE3.2 c h1]
    have n3' : H3'.next = H3.next := by rw [← hH3']; rfl
    have st3 : storeS 1 (.ptr (H.next + 1) 1) [vO] H3 = some H3' := by
      rw [store_ptr (n := 1) rfl, storeC_eq, hE3.2 _ (by omega), g8', sto_row (by simp) (by omega) (by simp [oO])]
      exact congrArg some hH3'
    obtain ⟨vT, H4, hcT, hE4, hST⟩ := hT lf n H3' (by omega) hlf
    have hn4 := hE4.1
    have oT := hST.one
    have cT := hST.cells
    obtain ⟨H5, hH5⟩ : ∃ H5, H4.put (H.next + 1) (.row [vB, vO, vT] 44 true false 0) = H5 := ⟨_, rfl⟩
    have g8f : H5.get (H.next + 1) = some (.row [vB, vO, vT] 44 true false 0) := by rw [← hH5]; exact get_put_self _ _
    have k4 : ∀ c, c < H3'.next → c ≠ H.next + 1 → H5.get c = H3'.get c := fun c h1 h2 => by rw [← hH5, get_put_other h2, hE4.2 c h1]
    have n5 : H5.next = H4.next := by rw [← hH5]; rfl
    have st4 : storeS 1 (.ptr (H.next + 1) 2) [vT] H4 = some H5 := by
      rw [store_ptr (n := 1) rfl, storeC_eq, hE4.2 _ (by omega), g8'', sto_row (by simp) (by omega) (by simp [oT])]
      exact congrArg some hH5
    have e6 : H5.get H.next = some (.row [.str [], .nils] 28 true false 0) := by rw [k4 _ (by omega) (by omega), k3 _ (by omega) (by omega), k2 _ (by omega) (by omega)]; exact g6
    have hE5 : Ext H H5 := ⟨by omega, fun c hc => by rw [k4 _ (by omega) (by omega), k3 _ (by omega) (by omega), k2 _ (by omega) (by omega)]; exact hE1.2 c hc⟩
    have g26b : H2'.get (H.next + 1 + 1) = some (.row [.str sb, .str so, .str st] 9 true false 0) := by rw [k2 _ (by omega) (by omega)]; exact g26
    have g26c : H3'.get (H.next + 1 + 1) = some (.row [.str sb, .str so, .str st] 9 true false 0) := by rw [k3 _ (by omega) (by omega)]; exact g26b
    have r0 : rowL (some (.row [.str sb, .str so, .str st] 9 true false 0)) 0 1 = some [.str sb] := rfl
    have r1 : rowL (some (.row [.str sb, .str so, .str st] 9 true false 0)) 1 1 = some [.str so] := rfl
    have r2 : rowL (some (.row [.str sb, .str so, .str st] 9 true false 0)) 2 1 = some [.str st] := rfl
    have l0 : decide (((0 : Nat) : Int) < ((3 : Nat) : Int)) = true := by decide
    have l1 : decide (((1 : Nat) : Int) < ((3 : Nat) : Int)) = true := by decide
    have l2 : decide (((2 : Nat) : Int) < ((3 : Nat) : Int)) = true := by decide
    have l3 : decide (((3 : Nat) : Int) < ((3 : Nat) : Int)) = false := by decide
    have i01 : ((0 : Nat) : Int) + ((1 : Nat) : Int) = ((1 : Nat) : Int) := by decide
    have i12 : ((1 : Nat) : Int) + ((1 : Nat) : Int) = ((2 : Nat) : Int) := by decide
    have i23 : ((2 : Nat) : Int) + ((1 : Nat) : Int) = ((3 : Nat) : Int) := by decide
    have d0 : decide ((0 : Int) ≠ ((0 : Nat) : Int)) = false := by decide
    refine call_code tab6 (by simp only [c6, go_sem, List.reduceReplicate, Nat.reduceAdd, Nat.reduceSub]; exact rfl) ?_
    simp only [c6]
    refine stp @hH1 ?_
    refine EC_loopK hlfk ?_
    refine EL_step ?_
    refine stp @l0 ?_
    refine cstT @l0 ?_
    refine stp (And.intro @g26 @r0) ?_
    refine kst trivial hcB ?_
    refine stp @d0 ?_
    refine cstE @d0 ?_
    refine stp (And.intro @cB (And.intro @st2 @i01)) ?_
    refine loopKR_normal (EL_step ?_)
    refine stp @l1 ?_
    refine cstT @l1 ?_
    refine stp (And.intro @g26b @r1) ?_
    refine kst trivial hcO ?_
    refine stp @d0 ?_
    refine cstE @d0 ?_
    refine stp (And.intro @cO (And.intro @st3 @i12)) ?_
    refine loopKR_normal (EL_step ?_)
    refine stp @l2 ?_
    refine cstT @l2 ?_
    refine stp (And.intro @g26c @r2) ?_
    refine kst trivial hcT ?_
    refine stp @d0 ?_
    refine cstE @d0 ?_
    refine stp (And.intro @cT (And.intro @st4 @i23)) ?_
    refine loopKR_normal (EL_step ?_)
    refine stp @l3 ?_
    refine cstE @l3 ?_
    refine stp trivial ?_
    refine loopKR_exit ?_
    refine stp trivial ?_
    have fin : ∀ (s : List Nat) (G : Heap), (∃ cs, G.get H.next = some (.row cs 28 true false 0) ∧ cs.length = 2) → H5.next ≤ G.next → storeS 2 (.ptr H.next 0) [.str s, .nils] G = some (G.put H.next (.row [.str s, .nils] 28 true false 0)) := by
      rintro s G ⟨cs, hg, hl⟩ _
      rw [store_ptr (n := 2) rfl, storeC_eq, hg, sto_row (by simp [hl]) (by omega) rfl]
      simp [hl, List.drop_of_length_le]
    have fr : ∀ (s : List Nat), rowL (some (.row [.str s, .nils] 28 true false 0)) 0 2 = some [.str s, .nils] := fun s => rfl
    have fE : ∀ o, Ext H (H5.put H.next o) := fun o => ⟨by rw [next_put]; omega, fun c hc => by rw [get_put_other (by omega)]; exact hE5.2 c hc⟩
    have f5 := fun s => fin s H5 ⟨_, e6, rfl⟩ (Nat.le_refl _)
    by_cases h1 : so = sb
    · have d1 : decide (so = sb) = true := decide_eq_true h1
      have hf : mergeF sb so st B O Th = st := by rw [mergeF, if_pos (.inl h1)]
      refine stp @d1 ?_
      refine cstT @d1 ?_
      refine stp @f5 ?_
      refine ret2 @fr ?_
      exact (⟨.nils, 0, by rw [hf]; rfl, rfl, rfl, rfl, fE _⟩)
    have d1 : decide (so = sb) = false := decide_eq_false h1
    by_cases h2 : so = st
    · have d2 : decide (so = st) = true := decide_eq_true h2
      have hf : mergeF sb so st B O Th = st := by rw [mergeF, if_pos (.inr h2)]
      refine stp (And.intro @d1 @d2) ?_
      refine cstT (And.intro @d1 @d2) ?_
      refine stp @f5 ?_
      refine ret2 @fr ?_
      exact (⟨.nils, 0, by rw [hf]; rfl, rfl, rfl, rfl, fE _⟩)
    have d2 : decide (so = st) = false := decide_eq_false h2
    refine stp (And.intro @d1 @d2) ?_
    refine cstE (And.intro @d1 @d2) ?_
    by_cases h3 : st = sb
    · have d3 : decide (st = sb) = true := decide_eq_true h3
      have hf : mergeF sb so st B O Th = so := by rw [mergeF, if_neg (by simp [h1, h2]), if_pos h3]
      refine stp @d3 ?_
      refine cstT @d3 ?_
      refine stp @f5 ?_
      refine ret2 @fr ?_
      exact (⟨.nils, 0, by rw [hf]; rfl, rfl, rfl, rfl, fE _⟩)
    have d3 : decide (st = sb) = false := decide_eq_false h3
    have hf : mergeF sb so st B O Th = joinU (mergedU B O Th) := by rw [mergeF, if_neg (by simp [h1, h2]), if_neg h3]
    refine stp @d3 ?_
    refine cstE @d3 ?_
    have SB5 : Su H1.next H5 vB B := hSB.keep (fun c q1 q2 => by rw [k4 _ (by omega) (by omega), k3 _ (by omega) (by omega), ← hH2', get_put_other (by omega)]) (by omega)
    have SO5 : Su H2'.next H5 vO O := hSO.keep (fun c q1 q2 => by rw [k4 _ (by omega) (by omega), ← hH3', get_put_other (by omega)]) (by omega)
    have ST5 : Su H3'.next H5 vT Th := hST.keep (fun c q1 q2 => by rw [← hH5, get_put_other (by omega)]) (by omega)
    obtain ⟨mB, H6, htB, hE6, mb1, mb2, MB⟩ := texts_ok (lf := lf) (n := n) SB5 (by omega) (by omega) (by omega)
    have n6 := hE6.1
    obtain ⟨mO, H7, htO, hE7, mo1, mo2, MO⟩ := texts_ok (lf := lf) (n := n) (SO5.keep (fun c _ q => hE6.2 c q) n6) (by omega) (by omega) (by omega)
    have n7 := hE7.1
    obtain ⟨mT, H8, htT, hE8, mt1, mt2, MT⟩ := texts_ok (lf := lf) (n := n) (ST5.keep (fun c _ q => (hE6.trans hE7).2 c q) (hE6.trans hE7).1) (by omega) (by omega) (by omega)
    have n8 := hE8.1
    have hE58 := (hE6.trans hE7).trans hE8
    have a0 : rowL (some (.row [vB, vO, vT] 44 true false 0)) 0 1 = some [vB] := rfl
    have a1 : rowL (some (.row [vB, vO, vT] 44 true false 0)) 1 1 = some [vO] := rfl
    have a2 : rowL (some (.row [vB, vO, vT] 44 true false 0)) 2 1 = some [vT] := rfl
    have g8_6 : H6.get (H.next + 1) = some (.row [vB, vO, vT] 44 true false 0) := by rw [hE6.2 _ (by omega)]; exact g8f
    have g8_7 : H7.get (H.next + 1) = some (.row [vB, vO, vT] 44 true false 0) := by rw [hE7.2 _ (by omega)]; exact g8_6
    have g8_8 : H8.get (H.next + 1) = some (.row [vB, vO, vT] 44 true false 0) := by rw [hE8.2 _ (by omega)]; exact g8_7
    obtain ⟨H9, hH9⟩ : ∃ H9, H8.push (.row [.str [], .nils] 28 true false 0) = H9 := ⟨_, rfl⟩
    have n9 : H9.next = H8.next + 1 := by rw [← hH9]; rfl
    have hE9 : Ext H8 H9 := by rw [← hH9]; exact (Ext.refl _).push _
    have g16 : H9.get H8.next = some (.row [.str [], .nils] 28 true false 0) := by rw [← hH9]; exact get_push_self _
    have g8_9 : H9.get (H.next + 1) = some (.row [vB, vO, vT] 44 true false 0) := by rw [hE9.2 _ (by omega)]; exact g8_8
    have hE59 := hE58.trans hE9
    obtain ⟨bW, H10, hor, hE10, bW1, bW2, gW⟩ := order_ok (lf := lf) (n := n) (SO5.keep (fun c _ q => hE59.2 c q) hE59.1) (ST5.keep (fun c _ q => hE59.2 c q) hE59.1) h0 (by omega) (by omega) (by omega) (by omega)
    have n10 := hE10.1
    have hWl := (ordI_len O Th Th.length).2
    have hmU : mergedU B O Th = (ordF O Th).filterMap (mergedStep B O Th) := rfl
    rw [hmU] at hf hM htx hjl
    have hW' : ordI O Th Th.length = ordF O Th := rfl
    rw [hW'] at hWl
    obtain ⟨W, hW⟩ : ∃ W, ordF O Th = W := ⟨_, rfl⟩
    rw [hW] at hor gW hWl hf hM htx hjl
    have qB := SB5.bq
    have qO := SO5.bq
    have qT := ST5.bq
    refine stp trivial ?_
    refine EC_draw rfl ?_
    refine stp (And.intro @g8f @a0) ?_
    refine ED_call (by exact sfc @trivial) htB (by simp only [List.set_cons_zero, List.set_cons_succ]; with_reducible rfl) ?_
    refine stp (And.intro @g8_6 @a1) ?_
    refine ED_call (by exact sfc @trivial) htO (by simp only [List.set_cons_zero, List.set_cons_succ]; with_reducible rfl) ?_
    refine stp (And.intro @g8_7 @a2) ?_
    refine ED_call (by exact sfc @trivial) htT (by simp only [List.set_cons_zero, List.set_cons_succ]; with_reducible rfl) ?_
    refine stp trivial ?_
    refine ⟨?_, fun h => (by cases h), _, (by simp only [List.getLast?_cons_cons, List.getLast?_singleton]; first | done | with_reducible rfl), ?_⟩
    · apply readsD_pure; apply readsD_read
      · simp only [allFrom, Bool.and_eq_true, and_true]
        exact quiet_ok (H' := H5) (by exact sfc (And.intro @g8f @a0)) qB
      · apply readsD_eff; apply readsD_pure; apply readsD_read
        · simp only [allFrom, Bool.and_eq_true, and_true]
          exact ⟨quiet_ok (H' := H5) (by exact sfc (And.intro @g8f @a1)) qO, quiet_ok (H' := H6) (by exact sfc (And.intro @g8_6 @a1)) qO⟩
        · apply readsD_eff; apply readsD_pure; apply readsD_read
          · simp only [allFrom, Bool.and_eq_true, and_true]
            exact ⟨quiet_ok (H' := H5) (by exact sfc (And.intro @g8f @a2)) qT, quiet_ok (H' := H6) (by exact sfc (And.intro @g8_6 @a2)) qT, quiet_ok (H' := H7) (by exact sfc (And.intro @g8_7 @a2)) qT⟩
          · repeat (first | exact readsD_nil _ _ _ | apply readsD_pure | apply readsD_eff)
    refine stp (And.intro @hH9 (And.intro @g8_9 (And.intro @a1 @a2))) ?_
    refine kst trivial hor ?_
    refine stp trivial ?_
    have e6_10 : H10.get H.next = some (.row [.str [], .nils] 28 true false 0) := by rw [hE10.2 _ (by omega), hE59.2 _ (by omega)]; exact e6
    have g16_10 : H10.get H8.next = some (.row [.str [], .nils] 28 true false 0) := by rw [hE10.2 _ (by omega)]; exact g16
    have MB10 : Mp nmC txC H10 mB (textsF B) := MB.ext (by rw [hE10.2 _ (by omega), hE9.2 _ (by omega), hE8.2 _ (by omega), hE7.2 _ (by omega)])
    have MO10 : Mp nmC txC H10 mO (textsF O) := MO.ext (by rw [hE10.2 _ (by omega), hE9.2 _ (by omega), hE8.2 _ (by omega)])
    have MT10 : Mp nmC txC H10 mT (textsF Th) := MT.ext (by rw [hE10.2 _ (by omega), hE9.2 _ (by omega)])
    refine EC_loop (I := I6M sb so st B O Th W bW H.next H8.next mB mO mT H10) ?_ W.length ?_ (by omega)
    · rintro m ts D H11 ⟨rfl, n11, k11, i, wc, wu, C, rfl, hi, hC, hwc, hwu, g16_11, ⟨z, rfl, -⟩⟩
      refine stp trivial ?_
      refine cst trivial (fun hc => ?_) (fun hc => ?_) <;> try simp only [decide_eq_true_eq, decide_eq_false_iff_not, not_true_eq_false, not_false_eq_true, Int.not_lt, Int.not_le, ge_iff_le, gt_iff_lt] at hc
      · obtain ⟨y, hy⟩ : ∃ y, W[i]? = some y := ⟨_, List.getElem?_eq_getElem (by omega)⟩
        have hat := rowL_at (z := 3) (i := i) (e := 51) (ex := false) (ro := false) (frz := 0) (unC_all W) (by rw [List.getElem?_map, hy]; rfl : (W.map unC)[i]? = some (unC y))
        have hfl : (W.map unC).flatten.length = W.length * 3 := by rw [flatten_len (unC_all _), List.length_map]
        have gW11 : H11.get bW = some (.row (W.map unC).flatten 51 false false 0) := by rw [k11 _ bW2 (by omega)]; exact gW
        obtain ⟨cs, hcs⟩ : ∃ cs, (W.map unC).flatten = cs := ⟨_, rfl⟩
        rw [hcs] at hat hfl gW11
        have htk : (W.take (i + 1)).filterMap (mergedStep B O Th) = (W.take i).filterMap (mergedStep B O Th) ++ (mergedStep B O Th y).toList := by
          rw [List.take_succ, hy, List.filterMap_append]
          cases h : mergedStep B O Th y <;> simp [h]
        have hUl : ((W.take i).filterMap (mergedStep B O Th)).length ≤ i := Nat.le_trans (List.length_filterMap_le _ _) (by rw [List.length_take]; omega)
        obtain ⟨U, hU⟩ : ∃ U, (W.take i).filterMap (mergedStep B O Th) = U := ⟨_, rfl⟩
        rw [hU] at hwu htk hUl
        obtain ⟨H12, hH12⟩ : ∃ H12, (H11.push (.row [.str [], .int .i64 ((0 : Nat) : Int), .str []] 51 true false 0)).put H11.next (.row (unC y) 51 true false 0) = H12 := ⟨_, rfl⟩
        have hp12 : H12.get H11.next = some (.row (unC y) 51 true false 0) := by rw [← hH12]; exact get_put_self _ _
        have hE12 : Ext H11 H12 := by rw [← hH12]; exact ((Ext.refl _).push _).put (Nat.le_refl _) _
        have n12 : H12.next = H11.next + 1 := by rw [← hH12]; rfl
        obtain ⟨H13, hnm, hE13⟩ := named_ok (lf := lf) (n := n) (H := H12) (u := y) (by omega)
        have n13 := hE13.1
        obtain ⟨H14, hH14⟩ : ∃ H14, (H13.push (.row [.str [], .int .i64 ((0 : Nat) : Int)] 53 true false 0)).put H13.next (.row [.str y.title, .int .i64 (y.nth : Int)] 53 true false 0) = H14 := ⟨_, rfl⟩
        have hp14 : H14.get H13.next = some (.row [.str y.title, .int .i64 (y.nth : Int)] 53 true false 0) := by rw [← hH14]; exact get_put_self _ _
        have hE14 : Ext H13 H14 := by rw [← hH14]; exact ((Ext.refl _).push _).put (Nat.le_refl _) _
        have n14 : H14.next = H13.next + 1 := by rw [← hH14]; rfl
        have hst14 : storeS 2 (.ptr H13.next 0) [.str y.title, .int .i64 (y.nth : Int)] (H13.push (.row [.str [], .int .i64 ((0 : Nat) : Int)] 53 true false 0)) = some H14 := by
          rw [store_ptr (n := 2) rfl, storeC_eq, get_push_self, sto_row (by simp) (by omega) rfl]
          exact congrArg some hH14
        obtain ⟨H15, hH15⟩ : ∃ H15, H14.push (.row [.bool false, .str []] 56 true false 0) = H15 := ⟨_, rfl⟩
        have hz15 : H15.get H14.next = some (.row [.bool false, .str []] 56 true false 0) := by rw [← hH15]; exact get_push_self _
        have hE15 : Ext H14 H15 := by rw [← hH15]; exact (Ext.refl _).push _
        have n15 : H15.next = H14.next + 1 := by rw [← hH15]; rfl
        have hE1115 := ((hE12.trans hE13).trans hE14).trans hE15
        have hp15 : H15.get H13.next = some (.row [.str y.title, .int .i64 (y.nth : Int)] 53 true false 0) := by rw [hE15.2 _ (by omega)]; exact hp14
        have lB : lkuS true [(0, 2), (1, 1)] (.agg [.bool false, .str []]) false (entS H15 (.map mB)) (.agg [.str y.title, .int .i64 (y.nth : Int)]) = some (opC (textsF B (nmU y))) := by
          have h := (MB10.ext (H' := H15) (by rw [hE1115.2 _ (by omega), k11 _ (by omega) (by omega)])).lku nm_key (.agg [.bool false, .str []]) (nmU y)
          rw [op_tx] at h
          exact h
        have lO : lkuS true [(0, 2), (1, 1)] (.agg [.bool false, .str []]) false (entS H15 (.map mO)) (.agg [.str y.title, .int .i64 (y.nth : Int)]) = some (opC (textsF O (nmU y))) := by
          have h := (MO10.ext (H' := H15) (by rw [hE1115.2 _ (by omega), k11 _ (by omega) (by omega)])).lku nm_key (.agg [.bool false, .str []]) (nmU y)
          rw [op_tx] at h
          exact h
        have lT : lkuS true [(0, 2), (1, 1)] (.agg [.bool false, .str []]) false (entS H15 (.map mT)) (.agg [.str y.title, .int .i64 (y.nth : Int)]) = some (opC (textsF Th (nmU y))) := by
          have h := (MT10.ext (H' := H15) (by rw [hE1115.2 _ (by omega), k11 _ (by omega) (by omega)])).lku nm_key (.agg [.bool false, .str []]) (nmU y)
          rw [op_tx] at h
          exact h
        obtain ⟨H16, hch, hE16⟩ := choose_ok (lf := lf) (n := n) (H := H15) (b := textsF B (nmU y)) (o := textsF O (nmU y)) (t := textsF Th (nmU y)) (by omega)
        have n16 := hE16.1
        have hms : mergedStep B O Th y = (chooseF (textsF B (nmU y)) (textsF O (nmU y)) (textsF Th (nmU y))).1.map fun x => ⟨y.title, y.nth, x⟩ := rfl
        obtain ⟨r, hr⟩ : ∃ r, (chooseF (textsF B (nmU y)) (textsF O (nmU y)) (textsF Th (nmU y))).1 = r := ⟨_, rfl⟩
        obtain ⟨cf, hcf⟩ : ∃ cf, (chooseF (textsF B (nmU y)) (textsF O (nmU y)) (textsF Th (nmU y))).2 = cf := ⟨_, rfl⟩
        rw [hr, hcf] at hch
        rw [hr] at hms
        rw [hms] at htk
        obtain ⟨oB', hoB⟩ : ∃ o, opC (textsF B (nmU y)) = o := ⟨_, rfl⟩
        have bqB : beqS oB' oB' = true := by rw [← hoB]; exact bq_opC _
        obtain ⟨oO', hoO⟩ : ∃ o, opC (textsF O (nmU y)) = o := ⟨_, rfl⟩
        have bqO : beqS oO' oO' = true := by rw [← hoO]; exact bq_opC _
        obtain ⟨oT', hoT⟩ : ∃ o, opC (textsF Th (nmU y)) = o := ⟨_, rfl⟩
        have bqT : beqS oT' oT' = true := by rw [← hoT]; exact bq_opC _
        rw [hoB, hoO, hoT] at hch
        rw [hoB] at lB
        rw [hoO] at lO
        rw [hoT] at lT
        have ocr := opC_cells r
        obtain ⟨H17, hH17⟩ : ∃ H17, H16.put H14.next (.row (opRow r) 56 true false 0) = H17 := ⟨_, rfl⟩
        have hst17 : storeS 2 (.ptr H14.next 0) (opRow r) H16 = some H17 := by
          rw [store_ptr (n := 2) (opRow_len r), storeC_eq, hE16.2 _ (by omega), hz15, sto_row (by rw [opRow_len]; simp) (by omega) (opRow_one r), ← hH17, opRow_len]
          simp
        have n17 : H17.next = H16.next := by rw [← hH17]; rfl
        have k17 : ∀ c, c < H14.next → H17.get c = H14.get c := fun c hc => by rw [← hH17, get_put_other (by omega), hE16.2 _ (by omega), hE15.2 _ hc]
        have k1117 : ∀ c, c < H11.next → H17.get c = H11.get c := fun c hc => by rw [k17 c (by omega)]; exact ((hE12.trans hE13).trans hE14).2 c hc
        have p19_17 : H17.get H11.next = some (.row (unC y) 51 true false 0) := by rw [k17 _ (by omega), (hE13.trans hE14).2 _ (by omega)]; exact hp12
        have p21_17 : H17.get H14.next = some (.row (opRow r) 56 true false 0) := by rw [← hH17]; exact get_put_self _ _
        have l20 : rowL (some (.row [.str y.title, .int .i64 (y.nth : Int)] 53 true false 0)) 0 2 = some [.str y.title, .int .i64 (y.nth : Int)] := rfl
        simp only [unC] at hat hp12 hH12 hnm p19_17
        refine stp (And.intro @gW11 (And.intro @hat (And.intro @hH12 @hp12))) ?_
        refine kst trivial hnm ?_
        refine stp @hst14 ?_
        refine EC_drawH ?_
        iterate 13 (refine HD_skip (by intro _ _ h; cases h) ?_)
        refine HD_hoist (v := .ptr H14.next 0) (H' := H15) (by rw [op_alloc, hH15]) ?_
        refine HD_none rfl ?_
        simp only [unh, List.map_cons, List.map_nil]
        refine stp (And.intro @hp15 (And.intro @l20 (And.intro @lB (And.intro @lO @lT)))) ?_
        refine ED_call (by exact sfc @trivial) hch (by simp only [List.set_cons_zero, List.set_cons_succ]; with_reducible rfl) ?_
        refine stp (And.intro @ocr @hst17) ?_
        refine ⟨?_, fun h => (by cases h), _, (by simp only [List.getLast?_cons_cons, List.getLast?_singleton]; first | done | with_reducible rfl), ?_⟩
        · apply readsD_pure; apply readsD_read
          · simp only [allFrom, Bool.and_eq_true, and_true]
            exact quiet_ok (H' := H15) (by exact sfc (And.intro @hp15 @l20)) (by simp only [go_sem])
          · apply readsD_read
            · simp only [allFrom, Bool.and_eq_true, and_true]
              exact quiet_ok (H' := H15) (by exact sfc @lB) bqB
            · apply readsD_pure; apply readsD_read
              · simp only [allFrom, Bool.and_eq_true, and_true]
                exact quiet_ok (H' := H15) (by exact sfc (And.intro @hp15 @l20)) (by simp only [go_sem])
              · apply readsD_read
                · simp only [allFrom, Bool.and_eq_true, and_true]
                  exact quiet_ok (H' := H15) (by exact sfc @lO) bqO
                · apply readsD_pure; apply readsD_read
                  · simp only [allFrom, Bool.and_eq_true, and_true]
                    exact quiet_ok (H' := H15) (by exact sfc (And.intro @hp15 @l20)) (by simp only [go_sem])
                  · apply readsD_read
                    · simp only [allFrom, Bool.and_eq_true, and_true]
                      exact quiet_ok (H' := H15) (by exact sfc @lT) bqT
                    · apply readsD_eff; apply readsD_pure; apply readsD_pure; apply readsD_pure
                      refine readsD_hoistA ?_ ?_
                      · simp only [allFrom, Bool.and_eq_true, and_true]
                        exact ⟨rowIs_ok hz15 rfl rfl, rowIs_ok (by rw [hE16.2 _ (by omega)]; exact hz15) rfl rfl⟩
                      · repeat (first | exact readsD_nil _ _ _ | apply readsD_pure | apply readsD_eff)
        have g16_17 : H17.get H8.next = some (.row [.str [], wc] 28 true false 0) := by rw [k1117 _ (by omega)]; exact g16_11
        have hwc17 := hwc.move (H' := H17) (by omega) (fun c cs _ h _ => k1117 c h)
        have hwu17 := hwu.move (H' := H17) (by omega) (fun c cs _ h _ => k1117 c h)
        have x28 : rowL (some (.row [.str [], wc] 28 true false 0)) 1 1 = some [wc] := rfl
        have x19 : rowL (some (.row [.str y.title, .int .i64 (y.nth : Int), .str y.text] 51 true false 0)) 0 1 = some [.str y.title] := rfl
        refine stp trivial ?_
        cases hcfv : cf
        case' true =>
          obtain ⟨H18, hH18⟩ : ∃ H18, H17.push (.row [.str y.title] 9 true false 0) = H18 := ⟨_, rfl⟩
          have n18 : H18.next = H17.next + 1 := by rw [← hH18]; rfl
          have k18 : ∀ c, c < H17.next → H18.get c = H17.get c := fun c hc => by rw [← hH18, get_push_old hc]
          obtain ⟨H19, ha19, g19, n19, k19⟩ := app_own (H := H18) (B0 := H10.next) (e := 9) (z := 1) (bytes := 16) (v := wc) (L := strL C) (x := [.str y.title]) (b' := H17.next) (e' := 9) (ex := true) (ro := false) (frz := 0) (c := some 1)
            (hwc17.move (by omega) (fun c cs _ h _ => k18 c h)) (strL_all C) rfl rfl (by rw [← hH18]; exact get_push_self _) (by omega) (by rw [strL_len]; omega) (by rw [strL_len]; omega)
          have ha19' : appV H18 false 9 1 16 wc (.slice H17.next 0 1 (some 1) 1) = some (.slice H18.next 0 (C.length + 1) none 1, H19) := by rw [← strL_len C]; exact ha19
          have hnw : ∀ k, (∀ cs, H18.get k ≠ some (.row cs 9 false false 0)) → ∀ n, wc ≠ .slice k 0 n none 1 := fun k hk => (hwc17.move (H' := H18) (by omega) (fun c cs _ h _ => k18 c h)).no (.inr hk)
          have g16_19 : H19.get H8.next = some (.row [.str [], wc] 28 true false 0) := by
            have e : H18.get H8.next = some (.row [.str [], wc] 28 true false 0) := by rw [k18 _ (by omega)]; exact g16_17
            rw [k19 _ (by omega) (hnw _ fun cs h => by rw [e] at h; cases h)]; exact e
          obtain ⟨wc', hwc'⟩ : ∃ w, SV.slice H18.next 0 (C.length + 1) none 1 = w := ⟨_, rfl⟩
          obtain ⟨H20, hH20⟩ : ∃ H20, H19.put H8.next (.row [.str [], wc'] 28 true false 0) = H20 := ⟨_, rfl⟩
          have ho' : SV.one wc' = true := by rw [← hwc']; rfl
          have hcw' : wc'.cells = [wc'] := by rw [← hwc']; rfl
          have hst20 : storeS 1 (.ptr H8.next 1) [wc'] H19 = some H20 := by
            rw [store_ptr (n := 1) rfl, storeC_eq, g16_19, sto_row (by simp) (by omega) (by simp [ho'])]
            exact congrArg some hH20
          rw [hwc'] at ha19'
          obtain ⟨C', hC'⟩ : ∃ C', C ++ [y.title] = C' := ⟨_, rfl⟩
          have hC'l : C'.length ≤ i + 1 := by rw [← hC']; simp; omega
          have n20 : H17.next ≤ H20.next := by rw [← hH20, next_put]; omega
          have g16_20 : H20.get H8.next = some (.row [.str [], wc'] 28 true false 0) := by rw [← hH20]; exact get_put_self _ _
          have k20 : ∀ c, c < H17.next → c ≠ H8.next → (∀ cs, H17.get c ≠ some (.row cs 9 false false 0)) → H20.get c = H17.get c := fun c h1 h2 h3 => by
            rw [← hH20, get_put_other h2, k19 c (by omega) (hnw c fun cs => by rw [k18 c h1]; exact h3 cs), k18 c h1]
          have kk20 : ∀ c, c < H10.next → c ≠ H8.next → H20.get c = H17.get c := fun c h1 h2 => by
            rw [← hH20, get_put_other h2, k19 c (by omega) ((hwc17.move (H' := H18) (by omega) (fun c cs _ h _ => k18 c h)).no (.inl h1)), k18 c (by omega)]
          have hwc20 : Sl H10.next 9 1 H20 wc' (strL C') := by
            refine .inr ⟨by rw [← hC']; simp [strL], H18.next, by omega, by rw [← hH20, next_put]; omega, by rw [← hwc', ← hC', strL_len, List.length_append]; rfl, ?_⟩
            rw [← hH20, get_put_other (by omega), g19, ← hC', strL_snoc]
          refine cstT trivial ?_
          refine stp (And.intro @g16_17 (And.intro @x28 (And.intro @p19_17 (And.intro @x19 @hH18)))) ?_
          refine ast trivial ha19' ?_
          refine stp (And.intro @hcw' @hst20) ?_
        case' false =>
          obtain ⟨wc', hwc'⟩ : ∃ w, wc = w := ⟨_, rfl⟩
          obtain ⟨C', hC'⟩ : ∃ C', C = C' := ⟨_, rfl⟩
          obtain ⟨H20, hH20⟩ : ∃ H20, H17 = H20 := ⟨_, rfl⟩
          have hC'l : C'.length ≤ i + 1 := by rw [← hC']; omega
          have n20 : H17.next ≤ H20.next := by rw [hH20]; exact Nat.le_refl _
          have g16_20 : H20.get H8.next = some (.row [.str [], wc'] 28 true false 0) := by rw [← hH20, ← hwc']; exact g16_17
          have k20 : ∀ c, c < H17.next → c ≠ H8.next → (∀ cs, H17.get c ≠ some (.row cs 9 false false 0)) → H20.get c = H17.get c := fun c h1 h2 h3 => by rw [hH20]
          have kk20 : ∀ c, c < H10.next → c ≠ H8.next → H20.get c = H17.get c := fun c h1 h2 => by rw [hH20]
          have hwc20 : Sl H10.next 9 1 H20 wc' (strL C') := by rw [← hH20, ← hwc', ← hC']; exact hwc17
          rw [hH20]
          refine cstE trivial ?_
          refine stp trivial ?_
        all_goals
          have p19_20 : H20.get H11.next = some (.row [.str y.title, .int .i64 (y.nth : Int), .str y.text] 51 true false 0) := by rw [k20 _ (by omega) (by omega) (fun cs h => by rw [p19_17] at h; cases h)]; exact p19_17
          have p21_20 : H20.get H14.next = some (.row (opRow r) 56 true false 0) := by rw [k20 _ (by omega) (by omega) (fun cs h => by rw [p21_17] at h; cases h)]; exact p21_17
          have hwu20 : Sl H10.next 51 3 H20 wu (U.map unC) := hwu17.move n20 (fun c cs _ h h2 => k20 c h (fun e => by rw [e, g16_17] at h2; cases h2) (fun cs' h3 => by rw [h2] at h3; cases h3))
          have kf : ∀ k, k < H10.next → k ≠ H8.next → H20.get k = H10.get k := fun k h1 h2 => by rw [kk20 k h1 h2, k1117 k (by omega), k11 k h1 h2]
          have hb21 : rowL (some (.row (opRow r) 56 true false 0)) 0 1 = some [.bool r.isSome] := by cases r <;> rfl
          refine stp (And.intro @p21_20 @hb21) ?_
          cases r with
          | none =>
            have his : (none : Option (List Nat)).isSome = false := rfl
            have hts : (W.take (i + 1)).filterMap (mergedStep B O Th) = U := by rw [htk]; simp
            refine cstE @his ?_
            refine stp trivial ?_
            refine loopR_normal (W.length - (i + 1)) (by omega) ⟨rfl, by omega, kf, i + 1, wc', wu, C', rfl, by omega, hC'l, hwc20, by rw [hts]; exact hwu20, g16_20, ?_⟩
            exact (frame_in (by rfl) (trivial))
          | some x =>
            have his : (some x).isSome = true := rfl
            have hb21b : rowL (some (.row (opRow (some x)) 56 true false 0)) 1 1 = some [.str x] := rfl
            obtain ⟨H21, hH21⟩ : ∃ H21, H20.put H11.next (.row [.str y.title, .int .i64 (y.nth : Int), .str x] 51 true false 0) = H21 := ⟨_, rfl⟩
            have n21 : H21.next = H20.next := by rw [← hH21]; rfl
            have hst21 : storeS 1 (.ptr H11.next 2) [.str x] H20 = some H21 := by
              rw [store_ptr (n := 1) rfl, storeC_eq, p19_20, sto_row (by simp) (by omega) rfl]
              exact congrArg some hH21
            have p19_21 : H21.get H11.next = some (.row [.str y.title, .int .i64 (y.nth : Int), .str x] 51 true false 0) := by rw [← hH21]; exact get_put_self _ _
            obtain ⟨H22, hH22⟩ : ∃ H22, H21.push (.row [.str y.title, .int .i64 (y.nth : Int), .str x] 51 true false 0) = H22 := ⟨_, rfl⟩
            have n22 : H22.next = H20.next + 1 := by rw [← hH22, next_push, n21]
            have k22 : ∀ c, c < H20.next → c ≠ H11.next → H22.get c = H20.get c := fun c h1 h2 => by rw [← hH22, get_push_old (by omega), ← hH21, get_put_other h2]
            have hwu22 : Sl H10.next 51 3 H22 wu (U.map unC) := hwu20.move (by omega) (fun c cs _ h h2 => k22 c h (fun e => by rw [e, p19_20] at h2; cases h2))
            obtain ⟨H23, ha23, g23, n23, k23⟩ := app_own (H := H22) (B0 := H10.next) (e := 51) (z := 3) (bytes := 40) (v := wu) (L := U.map unC) (x := [.str y.title, .int .i64 (y.nth : Int), .str x]) (b' := H21.next) (e' := 51) (ex := true) (ro := false) (frz := 0) (c := some 1)
              hwu22 (unC_all U) rfl rfl (by rw [← hH22]; exact get_push_self _) (by omega) (by rw [List.length_map]; omega) (by rw [List.length_map]; omega)
            have ha23' : appV H22 false 51 3 40 wu (.slice H21.next 0 1 (some 1) 3) = some (.slice H22.next 0 (U.length + 1) none 3, H23) := by
              have h := ha23
              rw [List.length_map] at h
              exact h
            have kf23 : ∀ k, k < H10.next → k ≠ H8.next → H23.get k = H10.get k := fun k h1 h2 => by rw [k23 k (by omega) (hwu22.no (.inl h1)), k22 k (by omega) (by omega)]; exact kf k h1 h2
            have hts : (W.take (i + 1)).filterMap (mergedStep B O Th) = U ++ [(⟨y.title, y.nth, x⟩ : Un)] := by rw [htk]; rfl
            have hwc23 : Sl H10.next 9 1 H23 wc' (strL C') := hwc20.move (by omega) (fun c cs _ h h2 => by
              have e : H22.get c = some (.row cs 9 false false 0) := by rw [k22 c h (fun e => by rw [e, p19_20] at h2; cases h2)]; exact h2
              rw [k23 c (by omega) (hwu22.no (.inr fun cs' h3 => by rw [e] at h3; first | (cases h3; done) | simp at h3)), e, h2])
            have hwu23 : Sl H10.next 51 3 H23 (.slice H22.next 0 (U.length + 1) none 3) ((U ++ [(⟨y.title, y.nth, x⟩ : Un)]).map unC) := .inr ⟨by simp, H22.next, by omega, by omega, by simp, by rw [g23]; simp [unC]⟩
            have g16_22 : H22.get H8.next = some (.row [.str [], wc'] 28 true false 0) := by rw [k22 _ (by omega) (by omega)]; exact g16_20
            have g16_23 : H23.get H8.next = some (.row [.str [], wc'] 28 true false 0) := by rw [k23 _ (by omega) (hwu22.no (.inr fun cs' h3 => by rw [g16_22] at h3; cases h3))]; exact g16_22
            refine cstT @his ?_
            refine stp (And.intro @p21_20 (And.intro @hb21b (And.intro @hst21 (And.intro @p19_21 @hH22)))) ?_
            refine ast trivial ha23' ?_
            refine stp trivial ?_
            refine loopR_normal (W.length - (i + 1)) (by omega) ⟨rfl, by omega, kf23, i + 1, wc', _, C', rfl, by omega, hC'l, hwc23, by rw [hts]; exact hwu23, g16_23, ?_⟩
            exact (frame_in (by rfl) (trivial))
      · have hi' : W.take i = W := List.take_of_length_le (by omega)
        rw [hi'] at hwu
        obtain ⟨MU, hMU⟩ : ∃ MU, W.filterMap (mergedStep B O Th) = MU := ⟨_, rfl⟩
        have hMUl : MU.length < 100 := by
          rw [← hMU]
          exact Nat.lt_of_le_of_lt (List.length_filterMap_le _ _) (by omega)
        rw [hMU] at hwu hM htx hjl hf
        have hSu : Su H10.next H11 wu MU := by
          rcases hwu with ⟨h, _⟩ | ⟨_, b, q1, q2, q3, q4⟩
          · exact absurd (List.map_eq_nil_iff.1 h) hM
          · exact ⟨hM, b, none, false, q1, q2, by rw [q3, List.length_map], .inl rfl, q4⟩
        obtain ⟨H12, hj, hE12⟩ := join_ok (lf := lf) (n := n) hSu hMUl (fun u hu => (htx u hu).1) (fun u hu => (htx u hu).2) (by omega) (by omega)
        obtain ⟨J, hJ⟩ : ∃ J, joinU MU = J := ⟨_, rfl⟩
        rw [hJ] at hj hjl hf
        have how := hwc.one
        have hcw := hwc.cells
        have g16_12 : H12.get H8.next = some (.row [.str [], wc] 28 true false 0) := by rw [hE12.2 _ (by omega)]; exact g16_11
        have e6_12 : H12.get H.next = some (.row [.str [], .nils] 28 true false 0) := by rw [hE12.2 _ (by omega), k11 _ (by omega) (by omega)]; exact e6_10
        obtain ⟨H13, hH13⟩ : ∃ H13, H12.put H8.next (.row [.str J, wc] 28 true false 0) = H13 := ⟨_, rfl⟩
        have hst13 : storeS 1 (.ptr H8.next 0) [.str J] H12 = some H13 := by
          rw [store_ptr (n := 1) rfl, storeC_eq, g16_12, sto_row (by simp) (by omega) rfl]
          exact congrArg some hH13
        have g16_13 : H13.get H8.next = some (.row [.str J, wc] 28 true false 0) := by rw [← hH13]; exact get_put_self _ _
        have e6_13 : H13.get H.next = some (.row [.str [], .nils] 28 true false 0) := by rw [← hH13, get_put_other (by omega)]; exact e6_12
        obtain ⟨H14, hH14⟩ : ∃ H14, H13.put H.next (.row [.str J, wc] 28 true false 0) = H14 := ⟨_, rfl⟩
        have hst14 : storeS 2 (.ptr H.next 0) [.str J, wc] H13 = some H14 := by
          rw [store_ptr (n := 2) rfl, storeC_eq, e6_13, sto_row (by simp) (by omega) (by show (true && (SV.one wc && true)) = true; rw [how]; rfl)]
          exact congrArg some hH14
        have g6_14 : H14.get H.next = some (.row [.str J, wc] 28 true false 0) := by rw [← hH14]; exact get_put_self _ _
        have xJ : rowL (some (.row [.str J, wc] 28 true false 0)) 0 1 = some [.str J] := rfl
        have xJ2 : rowL (some (.row [.str J, wc] 28 true false 0)) 0 2 = some [.str J, wc] := rfl
        have dJ : decide ((J.length : Int) > ((8192 : Nat) : Int)) = false := by simp only [decide_eq_false_iff_not]; omega
        have hlw : lenlS wc = some (.int .i64 ((C.length : Nat) : Int)) := by rw [hwc.lenl, strL_len]
        refine stp trivial ?_
        refine kst trivial hj ?_
        refine stp (And.intro @hst13 (And.intro @g16_13 (And.intro @xJ @dJ))) ?_
        refine cstE @dJ ?_
        refine stp (And.intro @g16_13 (And.intro @xJ2 @hst14)) ?_
        refine ret2 (And.intro @g6_14 @xJ2) ?_
        exact (⟨wc, C.length, by rw [hf]; rfl, hlw, how, hcw, ⟨by rw [← hH14, next_put, ← hH13, next_put]; have := hE12.1; have := hE5.1; omega, fun c hc => by rw [← hH14, get_put_other (by omega), ← hH13, get_put_other (by omega), hE12.2 _ (by omega), k11 _ (by omega) (by omega), hE10.2 _ (by omega), hE59.2 _ (by omega)]; exact hE5.2 c hc⟩⟩)
    · refine ⟨rfl, Nat.le_refl _, fun k _ _ => rfl, 0, .nils, .nils, [], by omega, by omega, by simp, .inl ⟨rfl, rfl⟩, .inl ⟨rfl, rfl⟩, g16_10, ?_⟩
      exact (frame_in (by rfl) (trivial))
  obtain ⟨r, H', h, w, k, rfl, hr⟩ := key
  exact ⟨w, k, H', h, hr⟩
end
end Go.Sh
end
