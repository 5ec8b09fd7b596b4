/-
  Differences: Diff. (frame style z)
-/
import Derived.Test.YtpcpmplkblbpbaaGreatDoorShD6
set_option linter.all false
section
namespace Go.Sh
set_option maxRecDepth 10000
set_option linter.all false
def srcE (E : List Edt) : List (List Nat) := E.flatMap fun e => if e.1 = 3 then [] else e.2.2
def dstE (E : List Edt) : List (List Nat) := E.flatMap fun e => if e.1 = 2 then [] else e.2.2
theorem srcE_add (E : List Edt) (k : Nat) (w : SV) (L : List (List Nat)) : srcE (addE E k w L) = srcE E ++ (if k = 3 then [] else L) := by
  unfold addE
  split
  · rename_i h; subst h; simp
  · simp [srcE]
theorem dstE_add (E : List Edt) (k : Nat) (w : SV) (L : List (List Nat)) : dstE (addE E k w L) = dstE E ++ (if k = 2 then [] else L) := by
  unfold addE
  split
  · rename_i h; subst h; simp
  · simp [dstE]
theorem kinds_add {E : List Edt} {k : Nat} {w : SV} {L : List (List Nat)} (h : ∀ e ∈ E, 1 ≤ e.1 ∧ e.1 ≤ 3) (hk : 1 ≤ k ∧ k ≤ 3) : ∀ e ∈ addE E k w L, 1 ≤ e.1 ∧ e.1 ≤ 3 := fun e he => by
  unfold addE at he
  split at he
  · exact h e he
  · rw [List.mem_append, List.mem_singleton] at he
    rcases he with he | rfl
    · exact h e he
    · exact hk
theorem E_len : ∀ {E : List Edt}, (∀ e ∈ E, e.2.2 ≠ []) → E.length ≤ (srcE E).length + (dstE E).length
  | [], _ => by simp
  | e :: E, h => by
    have ih := E_len fun x hx => h x (List.mem_cons_of_mem _ hx)
    have h1 : 0 < e.2.2.length := List.length_pos_iff.2 (h e (List.mem_cons_self ..))
    simp only [srcE, dstE, List.flatMap_cons, List.length_append, List.length_cons] at ih ⊢
    by_cases h3 : e.1 = 3
    · have h2 : ¬ e.1 = 2 := by omega
      rw [if_pos h3, if_neg h2]
      omega
    · rw [if_neg h3]
      omega
theorem app10_inj : ∀ {a b r s : List Nat}, N10 a → N10 b → a ++ 10 :: r = b ++ 10 :: s → a = b ∧ r = s
  | [], [], r, s, _, _, h => by simpa using h
  | [], y :: b, r, s, _, hb, h => by
    simp at h
    exact absurd (by rw [← h.1]; exact List.mem_cons_self ..) hb
  | x :: a, [], r, s, ha, _, h => by
    simp at h
    exact absurd (by rw [h.1]; exact List.mem_cons_self ..) ha
  | x :: a, y :: b, r, s, ha, hb, h => by
    simp only [List.cons_append, List.cons.injEq] at h
    obtain ⟨rfl, h2⟩ := h
    obtain ⟨rfl, h3⟩ := app10_inj ha.tail hb.tail h2
    exact ⟨rfl, h3⟩
theorem textL_inj : ∀ {la lb : List (List Nat)} {ea eb : List Nat}, (∀ l ∈ la, N10 l) → (∀ l ∈ lb, N10 l) → N10 ea → N10 eb → textL la ea = textL lb eb → la = lb ∧ ea = eb
  | [], [], ea, eb, _, _, _, _, h => by simpa [textL] using h
  | [], l :: lb, ea, eb, _, _, ha, _, h => by
    have e : textL (l :: lb) eb = l ++ (10 :: textL lb eb) := by simp [textL]
    rw [e] at h
    have h' : ea = l ++ (10 :: textL lb eb) := by simpa [textL] using h
    exact absurd (by rw [h']; simp) ha
  | l :: la, [], ea, eb, _, _, _, hb, h => by
    have e : textL (l :: la) ea = l ++ (10 :: textL la ea) := by simp [textL]
    rw [e] at h
    have h' : eb = l ++ (10 :: textL la ea) := by simpa [textL] using h.symm
    exact absurd (by rw [h']; simp) hb
  | x :: la, y :: lb, ea, eb, ha, hb, ha', hb', h => by
    have e1 : textL (x :: la) ea = x ++ (10 :: textL la ea) := by simp [textL]
    have e2 : textL (y :: lb) eb = y ++ (10 :: textL lb eb) := by simp [textL]
    rw [e1, e2] at h
    obtain ⟨rfl, h2⟩ := app10_inj (ha x (List.mem_cons_self ..)) (hb y (List.mem_cons_self ..)) h
    obtain ⟨rfl, rfl⟩ := textL_inj (fun l hl => ha l (List.mem_cons_of_mem _ hl)) (fun l hl => hb l (List.mem_cons_of_mem _ hl)) ha' hb' h2
    exact ⟨rfl, rfl⟩
theorem LinesOK.inj {s : List Nat} {la lb : List (List Nat)} {ea eb : List Nat} (h : LinesOK s la ea) (k : LinesOK s lb eb) : la = lb ∧ ea = eb :=
  textL_inj h.nl k.nl h.nlast k.nlast (h.eq.symm.trans k.eq)
theorem Sl.bq {mark e z : Nat} {H : Heap} {w : SV} {L : List (List SV)} (h : Sl mark e z H w L) : beqS w w = true := by
  rcases h with ⟨_, rfl⟩ | ⟨_, b, _, _, rfl, _⟩
  · rfl
  · simp [beqS, beqOne]
theorem take_snoc {α : Type} {L : List α} {i : Nat} {x : α} (h : L[i]? = some x) : L.take (i + 1) = L.take i ++ [x] := by rw [List.take_succ, h]; rfl
structure EdR (B0 : Nat) (H : Heap) (v : SV) (E : List Edt) : Prop where
  sl : Sl B0 66 2 H v (E.map edC)
  el : ∀ e ∈ E, e.2.2 ≠ [] ∧ Lr B0 H.next H e.2.1 e.2.2
  ks : ∀ e ∈ E, 1 ≤ e.1 ∧ e.1 ≤ 3
theorem tab8 : tabT 8 = some (.code c8) := by kernel_rfl
@[reducible] def J8 (vx vy : SV) (X Y : List (List Nat)) (sp tb : Nat) (H0 : Heap) (m : Nat) (ts : T) (D : DS) (H' : Heap) : Prop :=
  D = [] ∧ H0.next ≤ H'.next ∧ (∀ c, c < H0.next → c ≠ sp → H'.get c = H0.get c) ∧ ∃ (i j : Nat) (E : List Edt) (Dl Il K : List (List Nat)) (wd wi wk : SV) (mark : Nat),
    m = (X.length - i) + (Y.length - j) ∧ i ≤ X.length ∧ j ≤ Y.length ∧ Scr H0.next mark H' sp E Dl Il K wd wi wk ∧ (K = [] ∨ (Dl = [] ∧ Il = [])) ∧
    srcE E ++ (K ++ Dl) = X.take i ∧ dstE E ++ (K ++ Il) = Y.take j ∧ (∀ e ∈ E, 1 ≤ e.1 ∧ e.1 ≤ 3) ∧
    ∃ z : Nat → SV, ts = (z 0 :: z 1 :: z 2 :: z 3 :: z 4 :: (vx) :: (vy) :: (.ptr sp 0) :: (.slice tb 0 (X.length + 1) (some (X.length + 1)) 1) :: (.int .i64 (i : Int)) :: (.int .i64 (j : Int)) :: z 11 :: z 12 :: z 13 :: z 14 :: z 15 :: z 16 :: z 17 :: z 18 :: z 19 :: z 20 :: z 21 :: z 22 :: z 23 :: z 24 :: z 25 :: z 26 :: z 27 :: z 28 :: z 29 :: z 30 :: z 31 :: z 32 :: z 33 :: z 34 :: z 35 :: z 36 :: z 37 :: z 38 :: z 39 :: z 40 :: z 41 :: z 42 :: z 43 :: z 44 :: z 45 :: z 46 :: z 47 :: z 48 :: z 49 :: z 50 :: z 51 :: z 52 :: z 53 :: z 54 :: z 55 :: z 56 :: z 57 :: z 58 :: z 59 :: z 60 :: z 61 :: z 62 :: z 63 :: z 64 :: z 65 :: z 66 :: z 67 :: z 68 :: z 69 :: z 70 :: z 71 :: z 72 :: z 73 :: z 74 :: z 75 :: z 76 :: z 77 :: z 78 :: z 79 :: z 80 :: z 81 :: z 82 :: z 83 :: z 84 :: z 85 :: z 86 :: z 87 :: z 88 :: z 89 :: z 90 :: z 91 :: z 92 :: z 93 :: z 94 :: z 95 :: z 96 :: z 97 :: z 98 :: z 99 :: z 100 :: z 101 :: z 102 :: z 103 :: z 104 :: z 105 :: z 106 :: z 107 :: z 108 :: z 109 :: z 110 :: z 111 :: z 112 :: z 113 :: z 114 :: z 115 :: z 116 :: z 117 :: z 118 :: z 119 :: z 120 :: z 121 :: z 122 :: z 123 :: z 124 :: z 125 :: z 126 :: z 127 :: z 128 :: z 129 :: z 130 :: z 131 :: z 132 :: z 133 :: z 134 :: z 135 :: z 136 :: z 137 :: z 138 :: z 139 :: z 140 :: z 141 :: z 142 :: z 143 :: z 144 :: z 145 :: z 146 :: z 147 :: z 148 :: z 149 :: z 150 :: z 151 :: z 152 :: z 153 :: z 154 :: z 155 :: z 156 :: z 157 :: z 158 :: z 159 :: z 160 :: z 161 :: z 162 :: z 163 :: z 164 :: z 165 :: z 166 :: z 167 :: z 168 :: z 169 :: z 170 :: [] : T) ∧ (True)
section
variable {lf n : Nat} {H : Heap}
set_option maxHeartbeats 8000000 in
theorem diff_ok {a b : List Nat} {la lb : List (List Nat)} {ea eb : List Nat} (ha : LinesOK a la ea) (hb : LinesOK b lb eb) (hal : a.length < 1000000) (hbl : b.length < 1000000) (lX : (linF la ea).length ≤ 1000) (lY : (linF lb eb).length ≤ 1000)
    (hn : 5 ≤ n) (hlf : 3000 < lf) (hlfa : a.length < lf) (hlfb : b.length < lf) :
    ∃ v H' E, callS tabT lf n 8 [.str a, .str b] H = some (v, H') ∧ Ext H H' ∧ EdR H.next H' v E ∧ srcE E = linF la ea ∧ dstE E = linF lb eb := by
  obtain ⟨n, rfl⟩ : ∃ m, n = m + 1 := ⟨n - 1, by omega⟩
  have key : ∃ v H', callS tabT lf (n + 1) 8 [.str a, .str b] H = some (v, H') ∧ ∃ E, Ext H H' ∧ EdR H.next H' v E ∧ srcE E = linF la ea ∧ dstE E = linF lb eb := by
    obtain ⟨vx, H1, hcx, hE1, hLx⟩ := lines19_ok (lf := lf) (n := n) (H := H) ha hal (by omega) hlfa
    obtain ⟨vy, H2, hcy, hE2, hLy⟩ := lines19_ok (lf := lf) (n := n) (H := H1) hb hbl (by omega) hlfb
    obtain ⟨X, hX⟩ : ∃ X, linF la ea = X := ⟨_, rfl⟩
    obtain ⟨Y, hY⟩ : ∃ Y, linF lb eb = Y := ⟨_, rfl⟩
    rw [hX] at hLx lX
    rw [hY] at hLy lY
    obtain ⟨H3, hH3⟩ : ∃ H3, H2.push (.row [.nils, .nils, .nils, .nils] 75 true false 0) = H3 := ⟨_, rfl⟩
    have hn3 : H3.next = H2.next + 1 := by rw [← hH3]; rfl
    have hg3 : H3.get H2.next = some (.row [.nils, .nils, .nils, .nils] 75 true false 0) := by rw [← hH3]; exact get_push_self _
    have hE3 : Ext H2 H3 := by rw [← hH3]; exact (Ext.refl _).push _
    have hE13 : Ext H H3 := (hE1.trans hE2).trans hE3
    have lsx : Ls H.next H3 vx X := by
      obtain ⟨b, o, cap, cs, ex, ro, frz, q1, q2, q3, q4, q5⟩ := hLx
      exact ⟨b, o, cap, cs, ex, ro, frz, q1, q2, Nat.lt_of_lt_of_le q3 (hE2.trans hE3).1, by rw [(hE2.trans hE3).2 b q3]; exact q4, q5⟩
    have lsy : Ls H.next H3 vy Y := by
      obtain ⟨b, o, cap, cs, ex, ro, frz, q1, q2, q3, q4, q5⟩ := hLy
      exact ⟨b, o, cap, cs, ex, ro, frz, q1, by have := hE1.1; omega, Nat.lt_of_lt_of_le q3 hE3.1, by rw [hE3.2 b q3]; exact q4, q5⟩
    have hlvx : lenlS vx = some (.int .i64 (X.length : Int)) := by obtain ⟨b, o, cap, cs, ex, ro, frz, rfl, _⟩ := hLx; rfl
    have hlvy : lenlS vy = some (.int .i64 (Y.length : Int)) := by obtain ⟨b, o, cap, cs, ex, ro, frz, rfl, _⟩ := hLy; rfl
    have hox : SV.one vx = true := by obtain ⟨b, o, cap, cs, ex, ro, frz, rfl, _⟩ := hLx; rfl
    have nl0 : SV.nils.cells = [.nils] := rfl
    refine call_code tab8 (by simp only [c8, go_sem, List.reduceReplicate, Nat.reduceAdd, Nat.reduceSub]; exact rfl) ?_
    simp only [c8]
    refine stp trivial ?_
    refine kst trivial hcx ?_
    refine stp trivial ?_
    refine kst trivial hcy ?_
    refine stp @hH3 ?_
    by_cases hab : a = b
    · have dab : decide (a = b) = true := decide_eq_true hab
      refine stp @dab ?_
      refine cstT @dab ?_
      obtain ⟨we, H4, hadd, hF4, hrow4, hwe4⟩ := add_ok (lf := lf) (n := n) (B0 := H.next) (k := 1) (w := vx) (E := []) (L := X) hg3 (by omega) (.inl ⟨rfl, rfl⟩) hE13.1 hlvx hox (by simp) (by omega) (by omega)
      refine stp trivial ?_
      refine kst trivial hadd ?_
      refine stp @hrow4 ?_
      have hXY : X = Y := by
        subst hab
        obtain ⟨rfl, rfl⟩ := ha.inj hb
        rw [← hX, ← hY]
      refine ret1 trivial ?_
      refine (⟨addE [] 1 vx X, ⟨Nat.le_trans hE13.1 hF4.1, fun c hc => ?_⟩, ⟨hwe4, fun e he => ?_, kinds_add (by simp) (by omega)⟩, ?_, ?_⟩)
      · have := hE1.1
        have := hE2.1
        rw [hF4.2 c (by omega) (by omega) (.inl hc), hE13.2 c hc]
      · unfold addE at he
        split at he
        · simp at he
        · rename_i h0
          simp at he
          subst he
          exact ⟨h0, (lsx.lr.mono (Nat.le_refl _) (Nat.le_refl _)).fr hg3 hF4 (Nat.le_refl _) |>.mono (Nat.le_refl _) hF4.1⟩
      · rw [srcE_add, hX]; rfl
      · rw [dstE_add, hY, ← hXY]; rfl
    · have dab : decide (a = b) = false := decide_eq_false hab
      refine stp @dab ?_
      refine cstE @dab ?_
      have g1 : decide ((X.length : Int) > ((1000 : Nat) : Int)) = false := by simp only [decide_eq_false_iff_not]; omega
      have g2 : decide ((Y.length : Int) > ((1000 : Nat) : Int)) = false := by simp only [decide_eq_false_iff_not]; omega
      refine stp (And.intro @hlvx (And.intro @g1 (And.intro @hlvy @g2))) ?_
      refine cstE (And.intro @g1 @g2) ?_
      obtain ⟨tb, H4, hcm, hE4, htb0, htb1, hT⟩ := common_ok (lf := lf) (n := n) lsx lsy lX lY (by omega) (by omega)
      refine stp trivial ?_
      refine kst trivial hcm ?_
      refine stp trivial ?_
      obtain ⟨xb, xo, xc, xs, xe, xr, xf, rfl, hxb0, hxb, hxrow, hxc, hxl, hxat⟩ := lsx
      obtain ⟨yb, yo, yc, ys, ye, yr, yf, rfl, hyb0, hyb, hyrow, hyc, hyl, hyat⟩ := lsy
      have hg4 : H4.get H2.next = some (.row [.nils, .nils, .nils, .nils] 75 true false 0) := by rw [hE4.2 _ (by omega)]; exact hg3
      have hxrow4 : H4.get xb = some (.row xs 9 xe xr xf) := by rw [hE4.2 _ hxb]; exact hxrow
      have hyrow4 : H4.get yb = some (.row ys 9 ye yr yf) := by rw [hE4.2 _ hyb]; exact hyrow
      have hxs : xb ≠ H2.next := fun e => by rw [e, hg3] at hxrow; injection hxrow with q; injection q with _ q; exact absurd q (by decide)
      have hys : yb ≠ H2.next := fun e => by rw [e, hg3] at hyrow; injection hyrow with q; injection q with _ q; exact absurd q (by decide)
      have hn4 := hE4.1
      refine EC_loop (I := J8 (.slice xb xo X.length xc 1) (.slice yb yo Y.length yc 1) X Y H2.next tb H4) ?_ (X.length + Y.length) ?_ (by omega)
      · rintro m ts D H5 ⟨rfl, hn5, hk5, i, j, E, Dl, Il, K, wd, wi, wk, mark, rfl, hi, hj, hS, hex, hsrc, hdst, hks, ⟨z, rfl, -⟩⟩
        have hxrow5 : H5.get xb = some (.row xs 9 xe xr xf) := by rw [hk5 xb (by omega) hxs]; exact hxrow4
        have hyrow5 : H5.get yb = some (.row ys 9 ye yr yf) := by rw [hk5 yb (by omega) hys]; exact hyrow4
        have hls := congrArg List.length hsrc
        have hld := congrArg List.length hdst
        simp only [List.length_append, List.length_take] at hls hld
        have hEl := E_len fun e he => (hS.el e he).1
        by_cases hin : i < X.length
        · have d1 : decide ((i : Int) < (X.length : Int)) = true := by simp only [decide_eq_true_eq]; omega
          obtain ⟨x, hx⟩ : ∃ x, X[i]? = some x := ⟨_, List.getElem?_eq_getElem hin⟩
          have rx : rowL (some (.row xs 9 xe xr xf)) (xo + i) 1 = some [.str x] := rowL_one (hxat i x hx)
          refine stp @d1 ?_
          refine cstT @d1 ?_
          by_cases hjm : j < Y.length
          · have d2 : decide ((j : Int) < (Y.length : Int)) = true := by simp only [decide_eq_true_eq]; omega
            obtain ⟨y, hy⟩ : ∃ y, Y[j]? = some y := ⟨_, List.getElem?_eq_getElem hjm⟩
            have ry : rowL (some (.row ys 9 ye yr yf)) (yo + j) 1 = some [.str y] := rowL_one (hyat j y hy)
            by_cases hxy : x = y
            · have dxy : decide (x = y) = true := decide_eq_true hxy
              refine stp (And.intro @d1 (And.intro @d2 (And.intro @hxrow5 (And.intro @hyrow5 (And.intro @rx (And.intro @ry @dxy)))))) ?_
              refine cstT (And.intro @dxy (And.intro @d1 @d2)) ?_
              obtain ⟨mark', H6, hcl, hF6, hS6⟩ := change_ok' (lf := lf) (n := n) hS hex (by omega) (by omega) (by omega) (by omega)
              obtain ⟨we6, hrow6, _⟩ := hS6.row
              have hn6 := hF6.1
              have hxrow6 : H6.get xb = some (.row xs 9 xe xr xf) := by rw [hF6.2 xb (by omega) hxs (.inl (by omega))]; exact hxrow5
              have hyrow6 : H6.get yb = some (.row ys 9 ye yr yf) := by rw [hF6.2 yb (by omega) hys (.inl (by omega))]; exact hyrow5
              obtain ⟨H7, ha7, hn7, hg7, hf7⟩ := own_app hS6.k hS6.m1 x (by omega)
              have hnew : Sl mark' 9 1 H7 (.slice (H6.next + 1) 0 (K.length + 1) none 1) (strL (K ++ [x])) := .inr ⟨by simp [strL], H6.next + 1, (by have := hS6.m1; omega), by omega, by rw [strL_len, List.length_append]; rfl, by rw [strL_flat]; exact hg7⟩
              obtain ⟨we, hsp7, hS8, hfr8⟩ := hS6.next (D' := []) (I' := []) (K' := K ++ [x]) hS6.k (by omega) hf7 (.inl ⟨rfl, rfl⟩) (.inl ⟨rfl, rfl⟩) hnew (fun b n e => by cases e)
              have hst : storeS 1 (.ptr H2.next 3) [.slice (H6.next + 1) 0 (K.length + 1) none 1] H7 = some (H7.put H2.next (.row [we, .nils, .nils, .slice (H6.next + 1) 0 (K.length + 1) none 1] 75 true false 0)) := by
                rw [store_ptr (n := 1) (cs := [.slice (H6.next + 1) 0 (K.length + 1) none 1]) rfl, storeC_eq, hsp7, sto_row (by simp) (by omega) (by simp [SV.one])]
                rfl
              have cw : (SV.slice (H6.next + 1) 0 (K.length + 1) none 1).cells = [.slice (H6.next + 1) 0 (K.length + 1) none 1] := rfl
              have hbk : beqS wk wk = true := hS6.k.bq
              obtain ⟨H6p, hH6p⟩ : ∃ H6p, H6.push (.row [.str x] 9 true false 0) = H6p := ⟨_, rfl⟩
              have hrow6p : H6p.get H2.next = some (.row [we6, .nils, .nils, wk] 75 true false 0) := by rw [← hH6p, get_push_old hS6.spn]; exact hrow6
              rw [hH6p] at ha7
              refine stp trivial ?_
              refine kst trivial hcl ?_
              refine stp trivial ?_
              refine EC_draw rfl ?_
              refine stp (And.intro @hrow6 (And.intro @hxrow6 (And.intro @rx (And.intro @hH6p (And.intro @ha7 (And.intro @cw @hst)))))) ?_
              refine ⟨?_, fun h => (by cases h), _, (by simp only [List.getLast?_cons_cons, List.getLast?_singleton]; first | done | with_reducible rfl), ?_⟩
              · repeat (first | exact readsD_nil _ _ _ | refine readsD_pure ?_ | refine readsD_eff ?_ | refine readsD_read (by simp only [allFrom, Bool.and_eq_true, and_true]; first | exact quiet_ok (H' := H6) (by exact sfc (And.intro @hrow6 (And.intro @hxrow6 @rx))) (by simp only [go_sem]) | exact ⟨quiet_ok (H' := H6) (by exact sfc @hrow6) hbk, quiet_ok (H' := H6p) (by exact sfc @hrow6p) hbk⟩) ?_)
              · refine stp trivial ?_
                refine loopR_normal ((X.length - (i + 1)) + (Y.length - (j + 1))) (by omega) ⟨rfl, by rw [next_put]; omega, fun c hc hcs => ?_, i + 1, j + 1, (addE (addE E 2 wd Dl) 3 wi Il), [], [], K ++ [x], .nils, .nils, _, mark', rfl, by omega, by omega, hS8, .inr ⟨rfl, rfl⟩, ?_, ?_, ?_, ?_⟩
                · rw [hfr8 c (by omega) hc hcs, hF6.2 c (by omega) hcs (.inl hc)]
                  exact hk5 c hc hcs
                · rw [srcE_add, srcE_add, take_snoc hx, ← hsrc]
                  rcases hex with rfl | ⟨rfl, rfl⟩ <;> simp
                · rw [dstE_add, dstE_add, take_snoc hy, ← hdst, ← hxy]
                  rcases hex with rfl | ⟨rfl, rfl⟩ <;> simp
                · exact kinds_add (kinds_add hks (by omega)) (by omega)
                · exact (frame_in (by rfl) (trivial))
            · have dxy : decide (x = y) = false := decide_eq_false hxy
              have d3 : decide ((j : Int) = (Y.length : Int)) = false := by simp only [decide_eq_false_iff_not]; omega
              have hi1 : (i : Int) + ((1 : Nat) : Int) = ((i + 1 : Nat) : Int) := by omega
              have hj1 : (j : Int) + ((1 : Nat) : Int) = ((j + 1 : Nat) : Int) := by omega
              obtain ⟨cs, hcs, hcl, hco, hrows⟩ := hT
              obtain ⟨b1, hb1, hb1t, hb1n, ks1, hk1l, hk1⟩ := hrows (i + 1) (by omega) (by omega)
              obtain ⟨b0, hb0, hb0t, hb0n, ks0, hk0l, hk0⟩ := hrows i (by omega) (by omega)
              have hne : ∀ c e L, e ≠ 75 → H4.get c = some (.row L e true false 0) → c ≠ H2.next := fun c e L he hc e2 => by
                rw [e2, hg4] at hc
                injection hc with q
                injection q with _ q
                exact he q.symm
              have hcs5 : H5.get tb = some (.row cs 79 true false 0) := by rw [hk5 tb htb1 (hne tb 79 _ (by decide) hcs)]; exact hcs
              have hk15 : H5.get b1 = some (.row (ks1.map (SV.int .i32)) 21 true false 0) := by rw [hk5 b1 hb1n (hne b1 21 _ (by decide) hk1)]; exact hk1
              have hk05 : H5.get b0 = some (.row (ks0.map (SV.int .i32)) 21 true false 0) := by rw [hk5 b0 hb0n (hne b0 21 _ (by decide) hk0)]; exact hk0
              have rt1 : rowL (some (.row cs 79 true false 0)) (i + 1) 1 = some [.slice b1 0 (Y.length + 1) (some (Y.length + 1)) 1] := rowL_one hb1
              have rt0 : rowL (some (.row cs 79 true false 0)) i 1 = some [.slice b0 0 (Y.length + 1) (some (Y.length + 1)) 1] := rowL_one hb0
              have rk1 : rowL (some (.row (ks1.map (SV.int .i32)) 21 true false 0)) j 1 = some [.int .i32 (ks1.getD j 0)] := rowL_one (by
                rw [List.getElem?_map, List.getD_eq_getElem?_getD, List.getElem?_eq_getElem (by omega)]; rfl)
              have rk0 : rowL (some (.row (ks0.map (SV.int .i32)) 21 true false 0)) (j + 1) 1 = some [.int .i32 (ks0.getD (j + 1) 0)] := rowL_one (by
                rw [List.getElem?_map, List.getD_eq_getElem?_getD, List.getElem?_eq_getElem (by omega)]; rfl)
              by_cases hge : ks1.getD j 0 ≥ ks0.getD (j + 1) 0
              · have dge : decide (ks1.getD j 0 ≥ ks0.getD (j + 1) 0) = true := decide_eq_true hge
                refine stp (And.intro @d1 (And.intro @d2 (And.intro @hxrow5 (And.intro @hyrow5 (And.intro @rx (And.intro @ry @dxy)))))) ?_
                refine cstE (And.intro @dxy (And.intro @d1 @d2)) ?_
                refine stp (And.intro @d3 (And.intro @d1 (And.intro @hi1 (And.intro @hcs5 (And.intro @rt1 (And.intro @hk15 (And.intro @rk1 (And.intro @rt0 (And.intro @hj1 (And.intro @hk05 (And.intro @rk0 @dge))))))))))) ?_
                refine cstT (And.intro @d3 (And.intro @d1 @dge)) ?_
                obtain ⟨mark', H6, hcl, hF6, hS6⟩ := keep_ok (lf := lf) (n := n) hS hex (by omega) (by omega) (by omega)
                obtain ⟨we6, hrow6, _⟩ := hS6.row
                have hn6 := hF6.1
                have hxrow6 : H6.get xb = some (.row xs 9 xe xr xf) := by rw [hF6.2 xb (by omega) hxs (.inl (by omega))]; exact hxrow5
                have hyrow6 : H6.get yb = some (.row ys 9 ye yr yf) := by rw [hF6.2 yb (by omega) hys (.inl (by omega))]; exact hyrow5
                obtain ⟨H7, ha7, hn7, hg7, hf7⟩ := own_app hS6.d hS6.m1 x (by omega)
                have hnew : Sl mark' 9 1 H7 (.slice (H6.next + 1) 0 (Dl.length + 1) none 1) (strL (Dl ++ [x])) := .inr ⟨by simp [strL], H6.next + 1, (by have := hS6.m1; omega), by omega, by rw [strL_len, List.length_append]; rfl, by rw [strL_flat]; exact hg7⟩
                obtain ⟨we, hsp7, hS8, hfr8⟩ := hS6.next (D' := Dl ++ [x]) (I' := Il) (K' := []) hS6.d (by omega) hf7 hnew (hS6.i.keep2 hf7 (by omega) (fun b n e n' e' => hS6.di b n' e' n e)) (.inl ⟨rfl, rfl⟩) (fun b n e n' e' => by cases e; exact hS6.i.no2 e')
                have hst : storeS 1 (.ptr H2.next 1) [.slice (H6.next + 1) 0 (Dl.length + 1) none 1] H7 = some (H7.put H2.next (.row [we, .slice (H6.next + 1) 0 (Dl.length + 1) none 1, wi, .nils] 75 true false 0)) := by
                  rw [store_ptr (n := 1) (cs := [.slice (H6.next + 1) 0 (Dl.length + 1) none 1]) rfl, storeC_eq, hsp7, sto_row (by simp) (by omega) (by simp [SV.one])]
                  rfl
                have cw : (SV.slice (H6.next + 1) 0 (Dl.length + 1) none 1).cells = [.slice (H6.next + 1) 0 (Dl.length + 1) none 1] := rfl
                have hbk : beqS wd wd = true := hS6.d.bq
                obtain ⟨H6p, hH6p⟩ : ∃ H6p, H6.push (.row [.str x] 9 true false 0) = H6p := ⟨_, rfl⟩
                have hrow6p : H6p.get H2.next = some (.row [we6, wd, wi, .nils] 75 true false 0) := by rw [← hH6p, get_push_old hS6.spn]; exact hrow6
                rw [hH6p] at ha7
                refine stp trivial ?_
                refine kst trivial hcl ?_
                refine stp trivial ?_
                refine EC_draw rfl ?_
                refine stp (And.intro @hrow6 (And.intro @hxrow6 (And.intro @rx (And.intro @hH6p (And.intro @ha7 (And.intro @cw @hst)))))) ?_
                refine ⟨?_, fun h => (by cases h), _, (by simp only [List.getLast?_cons_cons, List.getLast?_singleton]; first | done | with_reducible rfl), ?_⟩
                · repeat (first | exact readsD_nil _ _ _ | refine readsD_pure ?_ | refine readsD_eff ?_ | refine readsD_read (by simp only [allFrom, Bool.and_eq_true, and_true]; first | exact quiet_ok (H' := H6) (by exact sfc (And.intro @hrow6 (And.intro @hxrow6 @rx))) (by simp only [go_sem]) | exact ⟨quiet_ok (H' := H6) (by exact sfc @hrow6) hbk, quiet_ok (H' := H6p) (by exact sfc @hrow6p) hbk⟩) ?_)
                · refine stp trivial ?_
                  refine loopR_normal ((X.length - (i + 1)) + (Y.length - j)) (by omega) ⟨rfl, by rw [next_put]; omega, fun c hc hcs => ?_, i + 1, j, (addE E 1 wk K), Dl ++ [x], Il, [], _, wi, .nils, mark', rfl, by omega, by omega, hS8, .inl rfl, ?_, ?_, ?_, ?_⟩
                  · rw [hfr8 c (by omega) hc hcs, hF6.2 c (by omega) hcs (.inl hc)]
                    exact hk5 c hc hcs
                  · rw [srcE_add, take_snoc hx, ← hsrc]
                    rcases hex with rfl | ⟨rfl, rfl⟩ <;> simp
                  · rw [dstE_add, ← hdst]
                    rcases hex with rfl | ⟨rfl, rfl⟩ <;> simp
                  · exact kinds_add hks (by omega)
                  · exact (frame_in (by rfl) (trivial))
              · have dge : decide (ks1.getD j 0 ≥ ks0.getD (j + 1) 0) = false := decide_eq_false hge
                refine stp (And.intro @d1 (And.intro @d2 (And.intro @hxrow5 (And.intro @hyrow5 (And.intro @rx (And.intro @ry @dxy)))))) ?_
                refine cstE (And.intro @dxy (And.intro @d1 @d2)) ?_
                refine stp (And.intro @d3 (And.intro @d1 (And.intro @hi1 (And.intro @hcs5 (And.intro @rt1 (And.intro @hk15 (And.intro @rk1 (And.intro @rt0 (And.intro @hj1 (And.intro @hk05 (And.intro @rk0 @dge))))))))))) ?_
                refine cstE (And.intro @d3 (And.intro @d1 @dge)) ?_
                obtain ⟨mark', H6, hcl, hF6, hS6⟩ := keep_ok (lf := lf) (n := n) hS hex (by omega) (by omega) (by omega)
                obtain ⟨we6, hrow6, _⟩ := hS6.row
                have hn6 := hF6.1
                have hxrow6 : H6.get xb = some (.row xs 9 xe xr xf) := by rw [hF6.2 xb (by omega) hxs (.inl (by omega))]; exact hxrow5
                have hyrow6 : H6.get yb = some (.row ys 9 ye yr yf) := by rw [hF6.2 yb (by omega) hys (.inl (by omega))]; exact hyrow5
                obtain ⟨H7, ha7, hn7, hg7, hf7⟩ := own_app hS6.i hS6.m1 y (by omega)
                have hnew : Sl mark' 9 1 H7 (.slice (H6.next + 1) 0 (Il.length + 1) none 1) (strL (Il ++ [y])) := .inr ⟨by simp [strL], H6.next + 1, (by have := hS6.m1; omega), by omega, by rw [strL_len, List.length_append]; rfl, by rw [strL_flat]; exact hg7⟩
                obtain ⟨we, hsp7, hS8, hfr8⟩ := hS6.next (D' := Dl) (I' := Il ++ [y]) (K' := []) hS6.i (by omega) hf7 (hS6.d.keep2 hf7 (by omega) (fun b n e n' e' => hS6.di b n e n' e')) hnew (.inl ⟨rfl, rfl⟩) (fun b n e n' e' => by cases e'; exact hS6.d.no2 e)
                have hst : storeS 1 (.ptr H2.next 2) [.slice (H6.next + 1) 0 (Il.length + 1) none 1] H7 = some (H7.put H2.next (.row [we, wd, .slice (H6.next + 1) 0 (Il.length + 1) none 1, .nils] 75 true false 0)) := by
                  rw [store_ptr (n := 1) (cs := [.slice (H6.next + 1) 0 (Il.length + 1) none 1]) rfl, storeC_eq, hsp7, sto_row (by simp) (by omega) (by simp [SV.one])]
                  rfl
                have cw : (SV.slice (H6.next + 1) 0 (Il.length + 1) none 1).cells = [.slice (H6.next + 1) 0 (Il.length + 1) none 1] := rfl
                have hbk : beqS wi wi = true := hS6.i.bq
                obtain ⟨H6p, hH6p⟩ : ∃ H6p, H6.push (.row [.str y] 9 true false 0) = H6p := ⟨_, rfl⟩
                have hrow6p : H6p.get H2.next = some (.row [we6, wd, wi, .nils] 75 true false 0) := by rw [← hH6p, get_push_old hS6.spn]; exact hrow6
                rw [hH6p] at ha7
                refine stp trivial ?_
                refine kst trivial hcl ?_
                refine stp trivial ?_
                refine EC_draw rfl ?_
                refine stp (And.intro @hrow6 (And.intro @hyrow6 (And.intro @ry (And.intro @hH6p (And.intro @ha7 (And.intro @cw @hst)))))) ?_
                refine ⟨?_, fun h => (by cases h), _, (by simp only [List.getLast?_cons_cons, List.getLast?_singleton]; first | done | with_reducible rfl), ?_⟩
                · repeat (first | exact readsD_nil _ _ _ | refine readsD_pure ?_ | refine readsD_eff ?_ | refine readsD_read (by simp only [allFrom, Bool.and_eq_true, and_true]; first | exact quiet_ok (H' := H6) (by exact sfc (And.intro @hrow6 (And.intro @hyrow6 @ry))) (by simp only [go_sem]) | exact ⟨quiet_ok (H' := H6) (by exact sfc @hrow6) hbk, quiet_ok (H' := H6p) (by exact sfc @hrow6p) hbk⟩) ?_)
                · refine stp trivial ?_
                  refine loopR_normal ((X.length - i) + (Y.length - (j + 1))) (by omega) ⟨rfl, by rw [next_put]; omega, fun c hc hcs => ?_, i, j + 1, (addE E 1 wk K), Dl, Il ++ [y], [], wd, _, .nils, mark', rfl, by omega, by omega, hS8, .inl rfl, ?_, ?_, ?_, ?_⟩
                  · rw [hfr8 c (by omega) hc hcs, hF6.2 c (by omega) hcs (.inl hc)]
                    exact hk5 c hc hcs
                  · rw [srcE_add, ← hsrc]
                    rcases hex with rfl | ⟨rfl, rfl⟩ <;> simp
                  · rw [dstE_add, take_snoc hy, ← hdst]
                    rcases hex with rfl | ⟨rfl, rfl⟩ <;> simp
                  · exact kinds_add hks (by omega)
                  · exact (frame_in (by rfl) (trivial))
          · have d2 : decide ((j : Int) < (Y.length : Int)) = false := by simp only [decide_eq_false_iff_not]; omega
            have d3 : decide ((j : Int) = (Y.length : Int)) = true := by simp only [decide_eq_true_eq]; omega
            refine stp (And.intro @d1 @d2) ?_
            refine cstE (And.intro @d1 @d2) ?_
            refine stp @d3 ?_
            refine cstT @d3 ?_
            obtain ⟨mark', H6, hcl, hF6, hS6⟩ := keep_ok (lf := lf) (n := n) hS hex (by omega) (by omega) (by omega)
            obtain ⟨we6, hrow6, _⟩ := hS6.row
            have hn6 := hF6.1
            have hxrow6 : H6.get xb = some (.row xs 9 xe xr xf) := by rw [hF6.2 xb (by omega) hxs (.inl (by omega))]; exact hxrow5
            have hyrow6 : H6.get yb = some (.row ys 9 ye yr yf) := by rw [hF6.2 yb (by omega) hys (.inl (by omega))]; exact hyrow5
            obtain ⟨H7, ha7, hn7, hg7, hf7⟩ := own_app hS6.d hS6.m1 x (by omega)
            have hnew : Sl mark' 9 1 H7 (.slice (H6.next + 1) 0 (Dl.length + 1) none 1) (strL (Dl ++ [x])) := .inr ⟨by simp [strL], H6.next + 1, (by have := hS6.m1; omega), by omega, by rw [strL_len, List.length_append]; rfl, by rw [strL_flat]; exact hg7⟩
            obtain ⟨we, hsp7, hS8, hfr8⟩ := hS6.next (D' := Dl ++ [x]) (I' := Il) (K' := []) hS6.d (by omega) hf7 hnew (hS6.i.keep2 hf7 (by omega) (fun b n e n' e' => hS6.di b n' e' n e)) (.inl ⟨rfl, rfl⟩) (fun b n e n' e' => by cases e; exact hS6.i.no2 e')
            have hst : storeS 1 (.ptr H2.next 1) [.slice (H6.next + 1) 0 (Dl.length + 1) none 1] H7 = some (H7.put H2.next (.row [we, .slice (H6.next + 1) 0 (Dl.length + 1) none 1, wi, .nils] 75 true false 0)) := by
              rw [store_ptr (n := 1) (cs := [.slice (H6.next + 1) 0 (Dl.length + 1) none 1]) rfl, storeC_eq, hsp7, sto_row (by simp) (by omega) (by simp [SV.one])]
              rfl
            have cw : (SV.slice (H6.next + 1) 0 (Dl.length + 1) none 1).cells = [.slice (H6.next + 1) 0 (Dl.length + 1) none 1] := rfl
            have hbk : beqS wd wd = true := hS6.d.bq
            obtain ⟨H6p, hH6p⟩ : ∃ H6p, H6.push (.row [.str x] 9 true false 0) = H6p := ⟨_, rfl⟩
            have hrow6p : H6p.get H2.next = some (.row [we6, wd, wi, .nils] 75 true false 0) := by rw [← hH6p, get_push_old hS6.spn]; exact hrow6
            rw [hH6p] at ha7
            refine stp trivial ?_
            refine kst trivial hcl ?_
            refine stp trivial ?_
            refine EC_draw rfl ?_
            refine stp (And.intro @hrow6 (And.intro @hxrow6 (And.intro @rx (And.intro @hH6p (And.intro @ha7 (And.intro @cw @hst)))))) ?_
            refine ⟨?_, fun h => (by cases h), _, (by simp only [List.getLast?_cons_cons, List.getLast?_singleton]; first | done | with_reducible rfl), ?_⟩
            · repeat (first | exact readsD_nil _ _ _ | refine readsD_pure ?_ | refine readsD_eff ?_ | refine readsD_read (by simp only [allFrom, Bool.and_eq_true, and_true]; first | exact quiet_ok (H' := H6) (by exact sfc (And.intro @hrow6 (And.intro @hxrow6 @rx))) (by simp only [go_sem]) | exact ⟨quiet_ok (H' := H6) (by exact sfc @hrow6) hbk, quiet_ok (H' := H6p) (by exact sfc @hrow6p) hbk⟩) ?_)
            · refine stp trivial ?_
              refine loopR_normal ((X.length - (i + 1)) + (Y.length - j)) (by omega) ⟨rfl, by rw [next_put]; omega, fun c hc hcs => ?_, i + 1, j, (addE E 1 wk K), Dl ++ [x], Il, [], _, wi, .nils, mark', rfl, by omega, by omega, hS8, .inl rfl, ?_, ?_, ?_, ?_⟩
              · rw [hfr8 c (by omega) hc hcs, hF6.2 c (by omega) hcs (.inl hc)]
                exact hk5 c hc hcs
              · rw [srcE_add, take_snoc hx, ← hsrc]
                rcases hex with rfl | ⟨rfl, rfl⟩ <;> simp
              · rw [dstE_add, ← hdst]
                rcases hex with rfl | ⟨rfl, rfl⟩ <;> simp
              · exact kinds_add hks (by omega)
              · exact (frame_in (by rfl) (trivial))
        · have d1 : decide ((i : Int) < (X.length : Int)) = false := by simp only [decide_eq_false_iff_not]; omega
          by_cases hjm : j < Y.length
          · have d2 : decide ((j : Int) < (Y.length : Int)) = true := by simp only [decide_eq_true_eq]; omega
            have d3 : decide ((j : Int) = (Y.length : Int)) = false := by simp only [decide_eq_false_iff_not]; omega
            obtain ⟨y, hy⟩ : ∃ y, Y[j]? = some y := ⟨_, List.getElem?_eq_getElem hjm⟩
            have ry : rowL (some (.row ys 9 ye yr yf)) (yo + j) 1 = some [.str y] := rowL_one (hyat j y hy)
            refine stp (And.intro @d1 @d2) ?_
            refine cstT (And.intro @d1 @d2) ?_
            refine stp (And.intro @d1 @d2) ?_
            refine cstE (And.intro @d1 @d2) ?_
            refine stp (And.intro @d3 @d1) ?_
            refine cstE (And.intro @d3 @d1) ?_
            obtain ⟨mark', H6, hcl, hF6, hS6⟩ := keep_ok (lf := lf) (n := n) hS hex (by omega) (by omega) (by omega)
            obtain ⟨we6, hrow6, _⟩ := hS6.row
            have hn6 := hF6.1
            have hxrow6 : H6.get xb = some (.row xs 9 xe xr xf) := by rw [hF6.2 xb (by omega) hxs (.inl (by omega))]; exact hxrow5
            have hyrow6 : H6.get yb = some (.row ys 9 ye yr yf) := by rw [hF6.2 yb (by omega) hys (.inl (by omega))]; exact hyrow5
            obtain ⟨H7, ha7, hn7, hg7, hf7⟩ := own_app hS6.i hS6.m1 y (by omega)
            have hnew : Sl mark' 9 1 H7 (.slice (H6.next + 1) 0 (Il.length + 1) none 1) (strL (Il ++ [y])) := .inr ⟨by simp [strL], H6.next + 1, (by have := hS6.m1; omega), by omega, by rw [strL_len, List.length_append]; rfl, by rw [strL_flat]; exact hg7⟩
            obtain ⟨we, hsp7, hS8, hfr8⟩ := hS6.next (D' := Dl) (I' := Il ++ [y]) (K' := []) hS6.i (by omega) hf7 (hS6.d.keep2 hf7 (by omega) (fun b n e n' e' => hS6.di b n e n' e')) hnew (.inl ⟨rfl, rfl⟩) (fun b n e n' e' => by cases e'; exact hS6.d.no2 e)
            have hst : storeS 1 (.ptr H2.next 2) [.slice (H6.next + 1) 0 (Il.length + 1) none 1] H7 = some (H7.put H2.next (.row [we, wd, .slice (H6.next + 1) 0 (Il.length + 1) none 1, .nils] 75 true false 0)) := by
              rw [store_ptr (n := 1) (cs := [.slice (H6.next + 1) 0 (Il.length + 1) none 1]) rfl, storeC_eq, hsp7, sto_row (by simp) (by omega) (by simp [SV.one])]
              rfl
            have cw : (SV.slice (H6.next + 1) 0 (Il.length + 1) none 1).cells = [.slice (H6.next + 1) 0 (Il.length + 1) none 1] := rfl
            have hbk : beqS wi wi = true := hS6.i.bq
            obtain ⟨H6p, hH6p⟩ : ∃ H6p, H6.push (.row [.str y] 9 true false 0) = H6p := ⟨_, rfl⟩
            have hrow6p : H6p.get H2.next = some (.row [we6, wd, wi, .nils] 75 true false 0) := by rw [← hH6p, get_push_old hS6.spn]; exact hrow6
            rw [hH6p] at ha7
            refine stp trivial ?_
            refine kst trivial hcl ?_
            refine stp trivial ?_
            refine EC_draw rfl ?_
            refine stp (And.intro @hrow6 (And.intro @hyrow6 (And.intro @ry (And.intro @hH6p (And.intro @ha7 (And.intro @cw @hst)))))) ?_
            refine ⟨?_, fun h => (by cases h), _, (by simp only [List.getLast?_cons_cons, List.getLast?_singleton]; first | done | with_reducible rfl), ?_⟩
            · repeat (first | exact readsD_nil _ _ _ | refine readsD_pure ?_ | refine readsD_eff ?_ | refine readsD_read (by simp only [allFrom, Bool.and_eq_true, and_true]; first | exact quiet_ok (H' := H6) (by exact sfc (And.intro @hrow6 (And.intro @hyrow6 @ry))) (by simp only [go_sem]) | exact ⟨quiet_ok (H' := H6) (by exact sfc @hrow6) hbk, quiet_ok (H' := H6p) (by exact sfc @hrow6p) hbk⟩) ?_)
            · refine stp trivial ?_
              refine loopR_normal ((X.length - i) + (Y.length - (j + 1))) (by omega) ⟨rfl, by rw [next_put]; omega, fun c hc hcs => ?_, i, j + 1, (addE E 1 wk K), Dl, Il ++ [y], [], wd, _, .nils, mark', rfl, by omega, by omega, hS8, .inl rfl, ?_, ?_, ?_, ?_⟩
              · rw [hfr8 c (by omega) hc hcs, hF6.2 c (by omega) hcs (.inl hc)]
                exact hk5 c hc hcs
              · rw [srcE_add, ← hsrc]
                rcases hex with rfl | ⟨rfl, rfl⟩ <;> simp
              · rw [dstE_add, take_snoc hy, ← hdst]
                rcases hex with rfl | ⟨rfl, rfl⟩ <;> simp
              · exact kinds_add hks (by omega)
              · exact (frame_in (by rfl) (trivial))
          · have d2 : decide ((j : Int) < (Y.length : Int)) = false := by simp only [decide_eq_false_iff_not]; omega
            obtain rfl : i = X.length := by omega
            obtain rfl : j = Y.length := by omega
            rw [List.take_length] at hsrc hdst
            obtain ⟨mark1, H6, hc6, hF6, hS6⟩ := keep_ok (lf := lf) (n := n) hS hex (by omega) (by omega) (by omega)
            have hl6 : (addE E 1 wk K).length < 9999 := by
              unfold addE
              split
              · omega
              · rw [List.length_append, List.length_singleton]; omega
            obtain ⟨mark2, H7, hc7, hF7, hS7⟩ := change_ok' (lf := lf) (n := n) hS6 (.inl rfl) hl6 (by omega) (by omega) (by omega)
            obtain ⟨we, hrow7, hwe7⟩ := hS7.row
            refine stp (And.intro @d1 @d2) ?_
            refine cstE (And.intro @d1 @d2) ?_
            refine stp trivial ?_
            refine kst trivial hc6 ?_
            refine stp trivial ?_
            refine kst trivial hc7 ?_
            refine stp @hrow7 ?_
            have hn6 := hF6.1
            have hn7 := hF7.1
            refine ret1 trivial ?_
            refine (⟨addE (addE (addE E 1 wk K) 2 wd Dl) 3 wi Il, ⟨by have := hE13.1; omega, fun c hc => ?_⟩, ⟨?_, fun e he => ⟨(hS7.el e he).1, (hS7.el e he).2.mono (by have := hE13.1; omega) hS7.m1⟩, kinds_add (kinds_add (kinds_add hks (by omega)) (by omega)) (by omega)⟩, ?_, ?_⟩)
            · have h1 := hE13.1
              have h2 := hE1.1
              have h3 := hE2.1
              rw [hF7.2 c (by omega) (by omega) (.inl (by omega)), hF6.2 c (by omega) (by omega) (.inl (by omega)), hk5 c (by omega) (by omega), hE4.2 c (by omega), hE13.2 c hc]
            · rcases hwe7 with h | ⟨q0, b, q1, q2⟩
              · exact .inl h
              · exact .inr ⟨q0, b, by have := hE13.1; omega, q2⟩
            · rw [srcE_add, srcE_add, srcE_add, hX, ← hsrc]
              simp
            · rw [dstE_add, dstE_add, dstE_add, hY, ← hdst]
              simp
      · refine ⟨rfl, Nat.le_refl _, fun c _ _ => rfl, 0, 0, [], [], [], [], .nils, .nils, .nils, H4.next, by omega, by omega, by omega, ⟨⟨.nils, hg4, .inl ⟨rfl, rfl⟩⟩, by omega, by simp, .inl ⟨rfl, rfl⟩, .inl ⟨rfl, rfl⟩, .inl ⟨rfl, rfl⟩, (fun b n e => by cases e), Nat.le_refl _, Nat.le_refl _⟩, .inl rfl, rfl, rfl, by simp, ?_⟩
        exact (frame_in (by rfl) (trivial))
  obtain ⟨v, H', h, E, hr⟩ := key
  exact ⟨v, H', E, h, hr⟩
end
end Go.Sh
end
