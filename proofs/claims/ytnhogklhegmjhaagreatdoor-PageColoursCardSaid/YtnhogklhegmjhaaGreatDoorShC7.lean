/-
  The rules of the drawn policy. (frame style z)
-/
import Derived.Test.YtnhogklhegmjhaaGreatDoorShC6
set_option linter.all false
section
namespace Go.Sh
set_option maxRecDepth 10000
set_option linter.all false
def namN (n : Nat) : List (List Nat) := sAll :: sUsers :: grpL.take n
theorem namN_len (n : Nat) : (namN n).length ≤ 5 := by
  have : (grpL.take n).length ≤ 3 := by rw [List.length_take]; simp only [grpL, List.length_cons, List.length_nil]; omega
  simp only [namN, List.length_cons]; omega
theorem bl_rl (a : Bool) (r : Nat) (g : List Nat) (k t : Nat) (s : List Nat) : beqList [.bool a, .int .i64 (r : Int), .str g, .int .i64 (k : Int), .int .i64 (t : Int), .str s] [.bool a, .int .i64 (r : Int), .str g, .int .i64 (k : Int), .int .i64 (t : Int), .str s] = true := by simp [beqOne, beqList, eqS_dec]
theorem bl_gd (a : Bool) (g : List Nat) (t : Nat) (n s : List Nat) : beqList [.bool a, .str g, .int .i64 (t : Int), .str n, .str s] [.bool a, .str g, .int .i64 (t : Int), .str n, .str s] = true := by simp [beqOne, beqList, eqS_dec]
theorem rl_one (R : List Rl) : (R.map rlC).flatten.all SV.one = true := by
  rw [List.all_eq_true]
  intro x hx
  obtain ⟨y, hy, hxy⟩ := List.mem_flatten.1 hx
  obtain ⟨g, hg, rfl⟩ := List.mem_map.1 hy
  simp only [rlC, List.mem_cons, List.not_mem_nil, or_false] at hxy
  rcases hxy with rfl | rfl | rfl | rfl | rfl | rfl <;> rfl
theorem gd_one (R : List Gd) : (R.map gdC).flatten.all SV.one = true := by
  rw [List.all_eq_true]
  intro x hx
  obtain ⟨y, hy, hxy⟩ := List.mem_flatten.1 hx
  obtain ⟨g, hg, rfl⟩ := List.mem_map.1 hy
  simp only [gdC, List.mem_cons, List.not_mem_nil, or_false] at hxy
  rcases hxy with rfl | rfl | rfl | rfl | rfl <;> rfl
theorem of_rb {lf n : Nat} {H : Heap} {M kb B : Nat} {nv : SV} {L : List (List Nat)} (hT : TapeOK M H kb) (hv : RB B H nv 1 (strL L)) (hkB : kb < B) (h0 : 0 < L.length) (hL : L.length < 1000) (hn : 2 ≤ n) :
    ∃ (s : List Nat) (H' : Heap), callS tabT lf n 18 [.ptr kb 0, nv] H = some (.str s, H') ∧ s ∈ L ∧ TapeStep M H H' kb := by
  rcases hv.2 with ⟨h, _⟩ | ⟨b, c, e, ex, ro, frz, rfl, hc, hB, h2, h3⟩
  · simp [strL] at h
    subst h
    simp at h0
  · rw [strL_flat] at h3
    rw [strL_len]
    exact of_ok hT h3 (by omega) h0 hL hn
section
variable {lf n : Nat} {H : Heap}
@[reducible] def I13c (H1 : Heap) (M kb p2 p3 B nn : Nat) (gv nv : SV) (m : Nat) (ts : T) (D : DS) (H' : Heap) : Prop :=
  D = [] ∧ Fr2 kb p3 H1 H' ∧ TapeOK M H' kb ∧ ∃ (R : List Rl) (rv : SV) (i : Nat), m = 6 - i ∧ i ≤ 6 ∧ R.length = i + 1 ∧ (∀ x ∈ R, RlOK nn x) ∧ RB B H' rv 6 (R.map rlC) ∧ H'.get p3 = some (.row [gv, rv, .nils] 30 true false 0) ∧
    ∃ z : Nat → SV, ts = ((.ptr kb 0) :: z 1 :: (.ptr p2 0) :: (.ptr p3 0) :: z 4 :: z 5 :: z 6 :: z 7 :: z 8 :: z 9 :: (nv) :: (.int .i64 (i : Int)) :: z 12 :: z 13 :: z 14 :: z 15 :: z 16 :: z 17 :: z 18 :: z 19 :: z 20 :: z 21 :: z 22 :: z 23 :: z 24 :: z 25 :: z 26 :: z 27 :: z 28 :: z 29 :: z 30 :: z 31 :: z 32 :: z 33 :: z 34 :: z 35 :: z 36 :: z 37 :: z 38 :: z 39 :: z 40 :: z 41 :: z 42 :: z 43 :: z 44 :: z 45 :: z 46 :: z 47 :: z 48 :: z 49 :: z 50 :: z 51 :: z 52 :: z 53 :: z 54 :: z 55 :: z 56 :: z 57 :: z 58 :: z 59 :: z 60 :: z 61 :: z 62 :: z 63 :: z 64 :: z 65 :: z 66 :: z 67 :: z 68 :: z 69 :: z 70 :: z 71 :: z 72 :: z 73 :: z 74 :: z 75 :: z 76 :: z 77 :: z 78 :: z 79 :: z 80 :: z 81 :: z 82 :: z 83 :: z 84 :: z 85 :: z 86 :: z 87 :: z 88 :: z 89 :: z 90 :: z 91 :: z 92 :: z 93 :: z 94 :: z 95 :: z 96 :: z 97 :: z 98 :: z 99 :: z 100 :: z 101 :: z 102 :: z 103 :: z 104 :: z 105 :: z 106 :: z 107 :: z 108 :: z 109 :: z 110 :: z 111 :: z 112 :: z 113 :: z 114 :: z 115 :: z 116 :: z 117 :: z 118 :: z 119 :: z 120 :: z 121 :: z 122 :: z 123 :: z 124 :: z 125 :: z 126 :: z 127 :: z 128 :: z 129 :: z 130 :: z 131 :: z 132 :: z 133 :: z 134 :: z 135 :: z 136 :: z 137 :: [] : T) ∧ (True)
theorem rules_ok {M kb p2 p3 B nn : Nat} {gv nv rv : SV} {R : List Rl} {ts : T} (hT : TapeOK M H kb) (hkB : kb < B) (hp3B : p3 < B) (hpk : p3 ≠ kb) (hMB : M ≤ p3) (hBn : B ≤ H.next) (hnv : RB B H nv 1 (strL (namN nn))) (hg1 : SV.one gv = true) (hgb : beqS gv gv = true) (hR1 : R.length = 1) (hRk : ∀ x ∈ R, RlOK nn x) (hrv : RB B H rv 6 (R.map rlC)) (hp3 : H.get p3 = some (.row [gv, rv, .nils] 30 true false 0)) (hn : 3 ≤ n) (hlf : 1000 < lf)
    (hts : ∃ z : Nat → SV, ts = ((.ptr kb 0) :: z 1 :: (.ptr p2 0) :: (.ptr p3 0) :: z 4 :: z 5 :: z 6 :: z 7 :: z 8 :: z 9 :: (nv) :: z 11 :: z 12 :: z 13 :: z 14 :: z 15 :: z 16 :: z 17 :: z 18 :: z 19 :: z 20 :: z 21 :: z 22 :: z 23 :: z 24 :: z 25 :: z 26 :: z 27 :: z 28 :: z 29 :: z 30 :: z 31 :: z 32 :: z 33 :: z 34 :: z 35 :: z 36 :: z 37 :: z 38 :: z 39 :: z 40 :: z 41 :: z 42 :: z 43 :: z 44 :: z 45 :: z 46 :: z 47 :: z 48 :: z 49 :: z 50 :: z 51 :: z 52 :: z 53 :: z 54 :: z 55 :: z 56 :: z 57 :: z 58 :: z 59 :: z 60 :: z 61 :: z 62 :: z 63 :: z 64 :: z 65 :: z 66 :: z 67 :: z 68 :: z 69 :: z 70 :: z 71 :: z 72 :: z 73 :: z 74 :: z 75 :: z 76 :: z 77 :: z 78 :: z 79 :: z 80 :: z 81 :: z 82 :: z 83 :: z 84 :: z 85 :: z 86 :: z 87 :: z 88 :: z 89 :: z 90 :: z 91 :: z 92 :: z 93 :: z 94 :: z 95 :: z 96 :: z 97 :: z 98 :: z 99 :: z 100 :: z 101 :: z 102 :: z 103 :: z 104 :: z 105 :: z 106 :: z 107 :: z 108 :: z 109 :: z 110 :: z 111 :: z 112 :: z 113 :: z 114 :: z 115 :: z 116 :: z 117 :: z 118 :: z 119 :: z 120 :: z 121 :: z 122 :: z 123 :: z 124 :: z 125 :: z 126 :: z 127 :: z 128 :: z 129 :: z 130 :: z 131 :: z 132 :: z 133 :: z 134 :: z 135 :: z 136 :: z 137 :: [] : T) ∧ (True)) :
    EC (callS tabT lf n) lf c13R ts [] H fun x ts D H' => x = .normal ∧ D = [] ∧ Fr2 kb p3 H H' ∧ TapeOK M H' kb ∧ ∃ (R : List Rl) (rv : SV), R.length ≤ 7 ∧ (∀ x ∈ R, RlOK nn x) ∧ RB B H' rv 6 (R.map rlC) ∧ H'.get p3 = some (.row [gv, rv, .nils] 30 true false 0) ∧
      ∃ z : Nat → SV, ts = ((.ptr kb 0) :: z 1 :: (.ptr p2 0) :: (.ptr p3 0) :: z 4 :: z 5 :: z 6 :: z 7 :: z 8 :: z 9 :: (nv) :: z 11 :: z 12 :: z 13 :: z 14 :: z 15 :: z 16 :: z 17 :: z 18 :: z 19 :: z 20 :: z 21 :: z 22 :: z 23 :: z 24 :: z 25 :: z 26 :: z 27 :: z 28 :: z 29 :: z 30 :: z 31 :: z 32 :: z 33 :: z 34 :: z 35 :: z 36 :: z 37 :: z 38 :: z 39 :: z 40 :: z 41 :: z 42 :: z 43 :: z 44 :: z 45 :: z 46 :: z 47 :: z 48 :: z 49 :: z 50 :: z 51 :: z 52 :: z 53 :: z 54 :: z 55 :: z 56 :: z 57 :: z 58 :: z 59 :: z 60 :: z 61 :: z 62 :: z 63 :: z 64 :: z 65 :: z 66 :: z 67 :: z 68 :: z 69 :: z 70 :: z 71 :: z 72 :: z 73 :: z 74 :: z 75 :: z 76 :: z 77 :: z 78 :: z 79 :: z 80 :: z 81 :: z 82 :: z 83 :: z 84 :: z 85 :: z 86 :: z 87 :: z 88 :: z 89 :: z 90 :: z 91 :: z 92 :: z 93 :: z 94 :: z 95 :: z 96 :: z 97 :: z 98 :: z 99 :: z 100 :: z 101 :: z 102 :: z 103 :: z 104 :: z 105 :: z 106 :: z 107 :: z 108 :: z 109 :: z 110 :: z 111 :: z 112 :: z 113 :: z 114 :: z 115 :: z 116 :: z 117 :: z 118 :: z 119 :: z 120 :: z 121 :: z 122 :: z 123 :: z 124 :: z 125 :: z 126 :: z 127 :: z 128 :: z 129 :: z 130 :: z 131 :: z 132 :: z 133 :: z 134 :: z 135 :: z 136 :: z 137 :: [] : T) ∧ (True) := by
  obtain ⟨z, rfl, -⟩ := hts
  unfold c13R
  refine stp trivial ?_
  refine EC_loop (I := I13c H M kb p2 p3 B nn gv nv) ?_ 6 ?_ (by omega)
  · rintro m ts D H' ⟨rfl, hF, hT', R, rv, i, rfl, hi6, hRl, hRk, hrv, hp3, ⟨z, rfl, -⟩⟩
    have hle := hF.1
    have hnv' := hnv.keep (by omega) (.inl (by omega)) hF
    obtain ⟨r1, H1, hc1, h10, h11, hst1⟩ := next_ok (lf := lf) (n := n) hT' (m := ((7 : Nat) : Int)) (by omega) (by omega) (by omega)
    obtain ⟨r1, rfl⟩ : ∃ k : Nat, r1 = (k : Int) := ⟨r1.toNat, by omega⟩
    refine stp trivial ?_
    refine kst trivial hc1 ?_
    refine stp trivial ?_
    refine cst trivial (fun hc => ?_) (fun hc => ?_) <;> try simp only [decide_eq_true_eq, decide_eq_false_iff_not, not_true_eq_false, not_false_eq_true, Int.not_lt, Int.not_le, ge_iff_le, gt_iff_lt] at hc
    · obtain ⟨r2, H2, hc2, h20, h21, hst2⟩ := next_ok (lf := lf) (n := n) hst1.2.2 (m := ((3 : Nat) : Int)) (by omega) (by omega) (by omega)
      obtain ⟨r2, rfl⟩ : ∃ k : Nat, r2 = (k : Int) := ⟨r2.toNat, by omega⟩
      obtain ⟨r3, H3, hc3, h30, h31, hst3⟩ := next_ok (lf := lf) (n := n) hst2.2.2 (m := ((5 : Nat) : Int)) (by omega) (by omega) (by omega)
      obtain ⟨r3, rfl⟩ : ∃ k : Nat, r3 = (k : Int) := ⟨r3.toNat, by omega⟩
      have hF3 : Fr2 kb p3 H' H3 := hst1.gs'.fr2.trans (hst2.gs'.fr2.trans hst3.gs'.fr2)
      obtain ⟨g, H4, hc4, hgn, hst4⟩ := of_rb (lf := lf) (n := n) hst3.2.2 (hnv'.keep (by omega) (.inl (by omega)) hF3) hkB (by simp [namN]) (by have := namN_len nn; omega) (by omega)
      have hF4 : Fr2 kb p3 H' H4 := hF3.trans hst4.gs'.fr2
      have hw3 : (((1 : Nat) : Int) + (r3 : Int)) = ((r3 + 1 : Nat) : Int) := by omega
      obtain ⟨H5, hH5⟩ : ∃ H5, (H4.push (.row [.bool false, .int .i64 ((0 : Nat) : Int), .str [], .int .i64 ((0 : Nat) : Int), .int .i64 ((0 : Nat) : Int), .str []] 112 true false 0)).put H4.next (.row [.bool (decide ((r2 : Int) > ((0 : Nat) : Int))), .int .i64 (((1 : Nat) : Int) + (r3 : Int)), .str g, .int .i64 ((0 : Nat) : Int), .int .i64 ((0 : Nat) : Int), .str []] 112 true false 0) = H5 := ⟨_, rfl⟩
      have hE5 : Ext H4 H5 := by rw [← hH5]; exact ((Ext.refl H4).push _).put (Nat.le_refl _) _
      have hT5 : TapeOK M H5 kb := by rw [← hH5]; exact (hst4.2.2.push _).put hst4.2.2.2.1 _
      have hb5 : H5.get H4.next = some (.row [.bool (decide ((r2 : Int) > ((0 : Nat) : Int))), .int .i64 ((r3 + 1 : Nat) : Int), .str g, .int .i64 ((0 : Nat) : Int), .int .i64 ((0 : Nat) : Int), .str []] 112 true false 0) := by rw [← hH5, ← hw3]; exact get_put_self _ _
      have hn5 : H5.next = H4.next + 1 := by rw [← hH5]; rfl
      obtain ⟨r6, H6, hc6, h60, h61, hst6⟩ := next_ok (lf := lf) (n := n) hT5 (m := ((3 : Nat) : Int)) (by omega) (by omega) (by omega)
      obtain ⟨r6, rfl⟩ : ∃ k : Nat, r6 = (k : Int) := ⟨r6.toNat, by omega⟩
      have hle4 := hF4.1
      have hb6 := (hst6.2.1 H4.next (by omega)).trans hb5
      have hF6 : Fr2 kb p3 H' H6 := hF4.trans (hE5.fr2.trans hst6.gs'.fr2)
      have hn6 : H6.next = H4.next + 1 := by rw [hst6.1]; exact hn5
      refine stp trivial ?_
      refine kst trivial hc2 ?_
      refine stp trivial ?_
      refine kst trivial hc3 ?_
      refine stp trivial ?_
      refine kst trivial hc4 ?_
      refine stp @hH5 ?_
      refine kst trivial hc6 ?_
      refine stp trivial ?_
      have hname : ∃ sp s2, True := ⟨0, ([] : List Nat), trivial⟩
      refine EC_cutR (fun ts H8 => Fr2 kb H4.next H6 H8 ∧ TapeOK M H8 kb ∧ ∃ (sk : Nat) (st : Tt), RlOK nn ⟨decide ((r2 : Int) > ((0 : Nat) : Int)), r3 + 1, g, sk, st⟩ ∧ H8.get H4.next = some (.row [.bool (decide ((r2 : Int) > ((0 : Nat) : Int))), .int .i64 ((r3 + 1 : Nat) : Int), .str g, .int .i64 (sk : Int), .int .i64 (st.1 : Int), .str st.2] 112 true false 0) ∧ ∃ z : Nat → SV, ts = ((.ptr kb 0) :: z 1 :: (.ptr p2 0) :: (.ptr p3 0) :: z 4 :: z 5 :: z 6 :: z 7 :: z 8 :: z 9 :: (nv) :: (.int .i64 (i : Int)) :: (.ptr H4.next 0) :: z 13 :: z 14 :: z 15 :: z 16 :: z 17 :: z 18 :: z 19 :: z 20 :: z 21 :: z 22 :: z 23 :: z 24 :: z 25 :: z 26 :: z 27 :: z 28 :: z 29 :: z 30 :: z 31 :: z 32 :: z 33 :: z 34 :: z 35 :: z 36 :: z 37 :: z 38 :: z 39 :: z 40 :: z 41 :: z 42 :: z 43 :: z 44 :: z 45 :: z 46 :: z 47 :: z 48 :: z 49 :: z 50 :: z 51 :: z 52 :: z 53 :: z 54 :: z 55 :: z 56 :: z 57 :: z 58 :: z 59 :: z 60 :: z 61 :: z 62 :: z 63 :: z 64 :: z 65 :: z 66 :: z 67 :: z 68 :: z 69 :: z 70 :: z 71 :: z 72 :: z 73 :: z 74 :: z 75 :: z 76 :: z 77 :: z 78 :: z 79 :: z 80 :: z 81 :: z 82 :: z 83 :: z 84 :: z 85 :: z 86 :: z 87 :: z 88 :: z 89 :: z 90 :: z 91 :: z 92 :: z 93 :: z 94 :: z 95 :: z 96 :: z 97 :: z 98 :: z 99 :: z 100 :: z 101 :: z 102 :: z 103 :: z 104 :: z 105 :: z 106 :: z 107 :: z 108 :: z 109 :: z 110 :: z 111 :: z 112 :: z 113 :: z 114 :: z 115 :: z 116 :: z 117 :: z 118 :: z 119 :: z 120 :: z 121 :: z 122 :: z 123 :: z 124 :: z 125 :: z 126 :: z 127 :: z 128 :: z 129 :: z 130 :: z 131 :: z 132 :: z 133 :: z 134 :: z 135 :: z 136 :: z 137 :: [] : T) ∧ (True)) ?_ ?_
      · refine cst trivial (fun hc => ?_) (fun hc => ?_) <;> try simp only [decide_eq_true_eq, decide_eq_false_iff_not, not_true_eq_false, not_false_eq_true, Int.not_lt, Int.not_le, ge_iff_le, gt_iff_lt] at hc
        · refine stp @hb6 ?_
          exact ⟨rfl, rfl, (Fr2.refl ..).put _, hst6.2.2.put (by omega) _, 1, (0, []), ⟨by show 1 ≤ r3 + 1; omega, by show r3 + 1 ≤ 5; omega, hgn, .inl ⟨rfl, rfl⟩⟩, get_put_self _ _, (frame_in (by rfl) (trivial))⟩
        · refine stp trivial ?_
          refine cst trivial (fun hc => ?_) (fun hc => ?_) <;> try simp only [decide_eq_true_eq, decide_eq_false_iff_not, not_true_eq_false, not_false_eq_true, Int.not_lt, Int.not_le, ge_iff_le, gt_iff_lt] at hc
          · obtain ⟨r7, H7, hc7, h70, h71, hst7⟩ := next_ok (lf := lf) (n := n) hst6.2.2 (m := ((6 : Nat) : Int)) (by omega) (by omega) (by omega)
            obtain ⟨r7, rfl⟩ : ∃ k : Nat, r7 = (k : Int) := ⟨r7.toNat, by omega⟩
            have hb7 := (hst7.2.1 H4.next (by omega)).trans hb6
            refine stp trivial ?_
            refine kst trivial hc7 ?_
            refine stp @hb7 ?_
            exact ⟨rfl, rfl, (hst7.gs'.fr2).put _, hst7.2.2.put (by omega) _, 2, (r7, []), ⟨by show 1 ≤ r3 + 1; omega, by show r3 + 1 ≤ 5; omega, hgn, .inr (.inl ⟨rfl, by show r7 < 6; omega, rfl⟩)⟩, get_put_self _ _, (frame_in (by rfl) (trivial))⟩
          · obtain ⟨sp, s7, H7, hc7, hsp, hs7, hg7⟩ := title_ok (lf := lf) (n := n) hst6.2.2 (by omega)
            have hb7 := hg7.old (by omega) (by omega) hb6
            have htc : (ttl sp s7).cells = [.int .i64 (sp : Int), .str s7] := rfl
            refine stp trivial ?_
            refine kst trivial hc7 ?_
            refine stp (And.intro @hb7 @htc) ?_
            exact ⟨rfl, rfl, (hg7.fr2).put _, hg7.2.2.put (by omega) _, 3, (sp, s7), ⟨by show 1 ≤ r3 + 1; omega, by show r3 + 1 ≤ 5; omega, hgn, .inr (.inr ⟨rfl, titL_mk sp (lt_mem6 hsp) s7 hs7⟩)⟩, get_put_self _ _, (frame_in (by rfl) (trivial))⟩
      rintro ts' H8 ⟨hF8, hT8, sk, st, hok, hb8, ⟨z, rfl, -⟩⟩
      have hF8' : Fr2 kb H4.next H' H8 := ((hst1.gs'.fr2.trans (hst2.gs'.fr2.trans (hst3.gs'.fr2.trans (hst4.gs'.fr2.trans (hE5.fr2.trans hst6.gs'.fr2)))))).trans hF8
      generalize hal : decide ((r2 : Int) > ((0 : Nat) : Int)) = al at hok hb8
      generalize hr : r3 + 1 = r at hok hb8
      obtain ⟨st1, st2⟩ := st
      have hle8 := hF8.1
      have hrv8 := hrv.keep (by omega) (.inr hle4) hF8'
      have hp38 := hF8'.old (by omega) hpk (by omega) hp3
      have hrb := hrv8.rsl.bq
      have hro := hrv8.rsl.one
      have hbl := bl_rl al r g sk st1 st2
      have hba : beqS (.agg [.bool al, .int .i64 (r : Int), .str g, .int .i64 (sk : Int), .int .i64 (st1 : Int), .str st2]) (.agg [.bool al, .int .i64 (r : Int), .str g, .int .i64 (sk : Int), .int .i64 (st1 : Int), .str st2]) = true := hbl
      obtain ⟨H9, hH9⟩ : ∃ H9, H8.push (.row [.bool al, .int .i64 (r : Int), .str g, .int .i64 (sk : Int), .int .i64 (st1 : Int), .str st2] 112 true false 0) = H9 := ⟨_, rfl⟩
      have hE9 : Ext H8 H9 := by rw [← hH9]; exact (Ext.refl _).push _
      have hn9 : H9.next = H8.next + 1 := by rw [← hH9]; rfl
      have hlit : H9.get H8.next = some (.row [.bool al, .int .i64 (r : Int), .str g, .int .i64 (sk : Int), .int .i64 (st1 : Int), .str st2] 112 true false 0) := by rw [← hH9]; exact get_push_self _
      obtain ⟨v1, H10, v2, H11, ha1, ha2, hE10, hE11, hRB⟩ := app_both (hrv8.ext hE9).rsl (rl_one R) (by rw [List.length_map]; omega) (x := rlC ⟨al, r, g, sk, (st1, st2)⟩) rfl rfl hlit (by omega) 112 64 (by omega)
      have hp39 := (hE9.2 _ (by omega)).trans hp38
      have hp310 := (hE10.2 _ (by omega)).trans hp39
      have hp311 := (hE11.2 _ (by omega)).trans hp39
      have hb9 := (hE9.2 H4.next (by omega)).trans hb8
      have hb10 := (hE10.2 H4.next (by omega)).trans hb9
      have hlit10 := (hE10.2 H8.next (by omega)).trans hlit
      have hlit11 := (hE11.2 H8.next (by omega)).trans hlit
      have ho2 := hRB.rsl.one
      have hc2 := hRB.rsl.cells
      have hst := store_cell (o := 1) hp311 ho2 (by simp) (by omega)
      refine blockR_normal ?_
      refine seqR_normal ?_
      refine EC_drawH ?_
      refine hdp (And.intro @hp38 (And.intro @hb8 @hH9)) ?_
      simp only [unh, List.map_cons, List.map_nil]
      refine stp (And.intro @hp39 (And.intro @ha1 (And.intro @hb10 (And.intro @ha2 (And.intro @hc2 @hst))))) ?_
      refine ⟨?_, fun h => (by cases h), _, (by simp only [List.getLast?_cons_cons, List.getLast?_singleton]; first | done | with_reducible rfl), ?_⟩
      · exact rdp (And.intro @hp39 (And.intro @hb9 (And.intro @hb10 (And.intro @hlit (And.intro @hlit10 (And.intro @hlit11 (And.intro @hrb (And.intro @hbl @hba))))))))
      · refine stp (succ_w (k := i) (by omega)) ?_
        have hE811 : Ext H8 H11 := hE9.trans hE11
        have hFp : Fr2 kb p3 H11 (H11.put p3 (.row [gv, v2, .nils] 30 true false 0)) := (Fr2.refl ..).put _
        refine loopR_normal (6 - (i + 1)) (by omega) ⟨rfl, ?_, ?_, R ++ [⟨al, r, g, sk, (st1, st2)⟩], v2, i + 1, rfl, by omega, by simp [hRl], fun x hx => ?_, ?_, get_put_self _ _, (frame_in (by rfl) (trivial))⟩
        · exact (hF.trans (((hF8'.trans hE811.fr2) : Fr2 kb H4.next H' H11).other (p := p3) fun b hb _ => by omega)).put _
        · exact (hT8.keep hE811.1 fun b hb => hE811.2 b (by have := hT8.2.1; omega)).put hMB _
        · rcases List.mem_append.1 hx with h | h
          · exact hRk x h
          · rw [List.mem_singleton.1 h]; exact hok
        · have := (hRB.mono (B' := B) (by omega)).keep (by omega) (.inl (by omega)) hFp
          simpa using this
    · refine stp trivial ?_
      exact ⟨rfl, rfl, hF.trans hst1.gs'.fr2, hst1.2.2, R, rv, by omega, hRk, hrv.keep (by omega) (.inl (by omega)) (hst1.gs'.fr2 : Fr2 kb kb H' H1), (hst1.2.1 _ hpk).trans hp3, (frame_in (by rfl) (trivial))⟩
  · exact ⟨rfl, Fr2.refl .., hT, R, rv, 0, rfl, by omega, by omega, hRk, hrv, hp3, (frame_in (by rfl) (trivial))⟩
@[reducible] def I13d (H1 : Heap) (M kb p2 p3 B nn : Nat) (gv rv nv : SV) (m : Nat) (ts : T) (D : DS) (H' : Heap) : Prop :=
  D = [] ∧ Fr2 kb p3 H1 H' ∧ TapeOK M H' kb ∧ ∃ (E : List Gd) (dv : SV) (i : Nat), m = 3 - i ∧ i ≤ 3 ∧ E.length = i ∧ (∀ x ∈ E, GdOK nn x) ∧ RB B H' dv 5 (E.map gdC) ∧ H'.get p3 = some (.row [gv, rv, dv] 30 true false 0) ∧
    ∃ z : Nat → SV, ts = ((.ptr kb 0) :: z 1 :: (.ptr p2 0) :: (.ptr p3 0) :: z 4 :: z 5 :: z 6 :: z 7 :: z 8 :: z 9 :: (nv) :: z 11 :: z 12 :: (.int .i64 (i : Int)) :: z 14 :: z 15 :: z 16 :: z 17 :: z 18 :: z 19 :: z 20 :: z 21 :: z 22 :: z 23 :: z 24 :: z 25 :: z 26 :: z 27 :: z 28 :: z 29 :: z 30 :: z 31 :: z 32 :: z 33 :: z 34 :: z 35 :: z 36 :: z 37 :: z 38 :: z 39 :: z 40 :: z 41 :: z 42 :: z 43 :: z 44 :: z 45 :: z 46 :: z 47 :: z 48 :: z 49 :: z 50 :: z 51 :: z 52 :: z 53 :: z 54 :: z 55 :: z 56 :: z 57 :: z 58 :: z 59 :: z 60 :: z 61 :: z 62 :: z 63 :: z 64 :: z 65 :: z 66 :: z 67 :: z 68 :: z 69 :: z 70 :: z 71 :: z 72 :: z 73 :: z 74 :: z 75 :: z 76 :: z 77 :: z 78 :: z 79 :: z 80 :: z 81 :: z 82 :: z 83 :: z 84 :: z 85 :: z 86 :: z 87 :: z 88 :: z 89 :: z 90 :: z 91 :: z 92 :: z 93 :: z 94 :: z 95 :: z 96 :: z 97 :: z 98 :: z 99 :: z 100 :: z 101 :: z 102 :: z 103 :: z 104 :: z 105 :: z 106 :: z 107 :: z 108 :: z 109 :: z 110 :: z 111 :: z 112 :: z 113 :: z 114 :: z 115 :: z 116 :: z 117 :: z 118 :: z 119 :: z 120 :: z 121 :: z 122 :: z 123 :: z 124 :: z 125 :: z 126 :: z 127 :: z 128 :: z 129 :: z 130 :: z 131 :: z 132 :: z 133 :: z 134 :: z 135 :: z 136 :: z 137 :: [] : T) ∧ (True)
theorem guards_ok {M kb p2 p3 B nn : Nat} {gv nv rv : SV} {ts : T} (hT : TapeOK M H kb) (hkB : kb < B) (hp3B : p3 < B) (hpk : p3 ≠ kb) (hMB : M ≤ p3) (hBn : B ≤ H.next) (hnv : RB B H nv 1 (strL (namN nn))) (hp3 : H.get p3 = some (.row [gv, rv, .nils] 30 true false 0)) (hn : 3 ≤ n) (hlf : 1000 < lf)
    (hts : ∃ z : Nat → SV, ts = ((.ptr kb 0) :: z 1 :: (.ptr p2 0) :: (.ptr p3 0) :: z 4 :: z 5 :: z 6 :: z 7 :: z 8 :: z 9 :: (nv) :: z 11 :: z 12 :: z 13 :: z 14 :: z 15 :: z 16 :: z 17 :: z 18 :: z 19 :: z 20 :: z 21 :: z 22 :: z 23 :: z 24 :: z 25 :: z 26 :: z 27 :: z 28 :: z 29 :: z 30 :: z 31 :: z 32 :: z 33 :: z 34 :: z 35 :: z 36 :: z 37 :: z 38 :: z 39 :: z 40 :: z 41 :: z 42 :: z 43 :: z 44 :: z 45 :: z 46 :: z 47 :: z 48 :: z 49 :: z 50 :: z 51 :: z 52 :: z 53 :: z 54 :: z 55 :: z 56 :: z 57 :: z 58 :: z 59 :: z 60 :: z 61 :: z 62 :: z 63 :: z 64 :: z 65 :: z 66 :: z 67 :: z 68 :: z 69 :: z 70 :: z 71 :: z 72 :: z 73 :: z 74 :: z 75 :: z 76 :: z 77 :: z 78 :: z 79 :: z 80 :: z 81 :: z 82 :: z 83 :: z 84 :: z 85 :: z 86 :: z 87 :: z 88 :: z 89 :: z 90 :: z 91 :: z 92 :: z 93 :: z 94 :: z 95 :: z 96 :: z 97 :: z 98 :: z 99 :: z 100 :: z 101 :: z 102 :: z 103 :: z 104 :: z 105 :: z 106 :: z 107 :: z 108 :: z 109 :: z 110 :: z 111 :: z 112 :: z 113 :: z 114 :: z 115 :: z 116 :: z 117 :: z 118 :: z 119 :: z 120 :: z 121 :: z 122 :: z 123 :: z 124 :: z 125 :: z 126 :: z 127 :: z 128 :: z 129 :: z 130 :: z 131 :: z 132 :: z 133 :: z 134 :: z 135 :: z 136 :: z 137 :: [] : T) ∧ (True)) :
    EC (callS tabT lf n) lf c13G ts [] H fun x ts D H' => x = .normal ∧ D = [] ∧ Fr2 kb p3 H H' ∧ TapeOK M H' kb ∧ ∃ (E : List Gd) (dv : SV), E.length ≤ 3 ∧ (∀ x ∈ E, GdOK nn x) ∧ RB B H' dv 5 (E.map gdC) ∧ H'.get p3 = some (.row [gv, rv, dv] 30 true false 0) ∧
      ∃ z : Nat → SV, ts = ((.ptr kb 0) :: z 1 :: (.ptr p2 0) :: (.ptr p3 0) :: z 4 :: z 5 :: z 6 :: z 7 :: z 8 :: z 9 :: z 10 :: z 11 :: z 12 :: z 13 :: z 14 :: z 15 :: z 16 :: z 17 :: z 18 :: z 19 :: z 20 :: z 21 :: z 22 :: z 23 :: z 24 :: z 25 :: z 26 :: z 27 :: z 28 :: z 29 :: z 30 :: z 31 :: z 32 :: z 33 :: z 34 :: z 35 :: z 36 :: z 37 :: z 38 :: z 39 :: z 40 :: z 41 :: z 42 :: z 43 :: z 44 :: z 45 :: z 46 :: z 47 :: z 48 :: z 49 :: z 50 :: z 51 :: z 52 :: z 53 :: z 54 :: z 55 :: z 56 :: z 57 :: z 58 :: z 59 :: z 60 :: z 61 :: z 62 :: z 63 :: z 64 :: z 65 :: z 66 :: z 67 :: z 68 :: z 69 :: z 70 :: z 71 :: z 72 :: z 73 :: z 74 :: z 75 :: z 76 :: z 77 :: z 78 :: z 79 :: z 80 :: z 81 :: z 82 :: z 83 :: z 84 :: z 85 :: z 86 :: z 87 :: z 88 :: z 89 :: z 90 :: z 91 :: z 92 :: z 93 :: z 94 :: z 95 :: z 96 :: z 97 :: z 98 :: z 99 :: z 100 :: z 101 :: z 102 :: z 103 :: z 104 :: z 105 :: z 106 :: z 107 :: z 108 :: z 109 :: z 110 :: z 111 :: z 112 :: z 113 :: z 114 :: z 115 :: z 116 :: z 117 :: z 118 :: z 119 :: z 120 :: z 121 :: z 122 :: z 123 :: z 124 :: z 125 :: z 126 :: z 127 :: z 128 :: z 129 :: z 130 :: z 131 :: z 132 :: z 133 :: z 134 :: z 135 :: z 136 :: z 137 :: [] : T) ∧ (True) := by
  obtain ⟨z, rfl, -⟩ := hts
  unfold c13G
  refine stp trivial ?_
  refine EC_loop (I := I13d H M kb p2 p3 B nn gv rv nv) ?_ 3 ?_ (by omega)
  · rintro m ts D H' ⟨rfl, hF, hT', E, dv, i, rfl, hi6, hRl, hRk, hrv, hp3, ⟨z, rfl, -⟩⟩
    have hle := hF.1
    have hnv' := hnv.keep (by omega) (.inl (by omega)) hF
    obtain ⟨r1, H1, hc1, h10, h11, hst1⟩ := next_ok (lf := lf) (n := n) hT' (m := ((4 : Nat) : Int)) (by omega) (by omega) (by omega)
    obtain ⟨r1, rfl⟩ : ∃ k : Nat, r1 = (k : Int) := ⟨r1.toNat, by omega⟩
    refine stp trivial ?_
    refine kst trivial hc1 ?_
    refine stp trivial ?_
    refine cst trivial (fun hc => ?_) (fun hc => ?_) <;> try simp only [decide_eq_true_eq, decide_eq_false_iff_not, not_true_eq_false, not_false_eq_true, Int.not_lt, Int.not_le, ge_iff_le, gt_iff_lt] at hc
    · obtain ⟨r2, H2, hc2, h20, h21, hst2⟩ := next_ok (lf := lf) (n := n) hst1.2.2 (m := ((3 : Nat) : Int)) (by omega) (by omega) (by omega)
      obtain ⟨r2, rfl⟩ : ∃ k : Nat, r2 = (k : Int) := ⟨r2.toNat, by omega⟩
      have hF2 : Fr2 kb p3 H' H2 := hst1.gs'.fr2.trans hst2.gs'.fr2
      obtain ⟨g, H3, hc3, hgn, hst3⟩ := of_rb (lf := lf) (n := n) hst2.2.2 (hnv'.keep (by omega) (.inl (by omega)) hF2) hkB (by simp [namN]) (by have := namN_len nn; omega) (by omega)
      obtain ⟨sp, s7, H4, hc4, hsp, hs7, hg4⟩ := title_ok (lf := lf) (n := n) hst3.2.2 (by omega)
      have htc : (ttl sp s7).cells = [.int .i64 (sp : Int), .str s7] := rfl
      obtain ⟨sc, H5, hc5, hs5, hg5, hn5⟩ := of_lit (lf := lf) (n := n) hg4.2.2 4 (L := secL) rfl rfl (by decide) (by decide) (by omega)
      have hF5 : ∀ q, Fr2 kb q H' H5 := fun q => hst1.gs'.fr2.trans (hst2.gs'.fr2.trans (hst3.gs'.fr2.trans (hg4.fr2.trans hg5.fr2)))
      have hle5 := (hF5 p3).1
      obtain ⟨H8, hH8⟩ : ∃ H8, (H5.push (.row [.bool false, .str [], .int .i64 ((0 : Nat) : Int), .str [], .str []] 114 true false 0)).put H5.next (.row [.bool (decide ((r2 : Int) = ((0 : Nat) : Int))), .str g, .int .i64 (sp : Int), .str s7, .str sc] 114 true false 0) = H8 := ⟨_, rfl⟩
      have hE8 : Ext H5 H8 := by rw [← hH8]; exact ((Ext.refl H5).push _).put (Nat.le_refl _) _
      have hT8 : TapeOK M H8 kb := by rw [← hH8]; exact (hg5.2.2.push _).put hg5.2.2.2.1 _
      have hb8 : H8.get H5.next = some (.row [.bool (decide ((r2 : Int) = ((0 : Nat) : Int))), .str g, .int .i64 (sp : Int), .str s7, .str sc] 114 true false 0) := by rw [← hH8]; exact get_put_self _ _
      have hn8 : H8.next = H5.next + 1 := by rw [← hH8]; rfl
      have hF8' : Fr2 kb p3 H' H8 := (hF5 p3).trans hE8.fr2
      refine stp trivial ?_
      refine kst trivial hc2 ?_
      refine stp trivial ?_
      refine kst trivial hc3 ?_
      refine stp trivial ?_
      refine kst trivial hc4 ?_
      refine stp trivial ?_
      refine kst trivial hc5 ?_
      refine stp @htc ?_
      generalize hal : decide ((r2 : Int) = ((0 : Nat) : Int)) = al at hH8 hb8
      have hok : GdOK nn ⟨al, g, (sp, s7), sc⟩ := ⟨hgn, titL_mk sp (lt_mem6 hsp) s7 hs7, hs5⟩
      have hrv8 := hrv.keep (by omega) (.inl (by omega)) hF8'
      have hp38 := ((hE8.2 p3 (by omega)).trans ((hF5 kb).old (by omega) hpk hpk hp3))
      have hrb := hrv8.rsl.bq
      have hro := hrv8.rsl.one
      have hbl := bl_gd al g sp s7 sc
      have hba : beqS (.agg [.bool al, .str g, .int .i64 (sp : Int), .str s7, .str sc]) (.agg [.bool al, .str g, .int .i64 (sp : Int), .str s7, .str sc]) = true := hbl
      obtain ⟨H9, hH9⟩ : ∃ H9, H8.push (.row [.bool al, .str g, .int .i64 (sp : Int), .str s7, .str sc] 114 true false 0) = H9 := ⟨_, rfl⟩
      have hE9 : Ext H8 H9 := by rw [← hH9]; exact (Ext.refl _).push _
      have hn9 : H9.next = H8.next + 1 := by rw [← hH9]; rfl
      have hlit : H9.get H8.next = some (.row [.bool al, .str g, .int .i64 (sp : Int), .str s7, .str sc] 114 true false 0) := by rw [← hH9]; exact get_push_self _
      obtain ⟨v1, H10, v2, H11, ha1, ha2, hE10, hE11, hRB⟩ := app_both (hrv8.ext hE9).rsl (gd_one E) (by rw [List.length_map]; omega) (x := gdC ⟨al, g, (sp, s7), sc⟩) rfl rfl hlit (by omega) 114 64 (by omega)
      have hp39 := (hE9.2 _ (by omega)).trans hp38
      have hp310 := (hE10.2 _ (by omega)).trans hp39
      have hp311 := (hE11.2 _ (by omega)).trans hp39
      have hb9 := (hE9.2 H5.next (by omega)).trans hb8
      have hb10 := (hE10.2 H5.next (by omega)).trans hb9
      have hlit10 := (hE10.2 H8.next (by omega)).trans hlit
      have hlit11 := (hE11.2 H8.next (by omega)).trans hlit
      have ho2 := hRB.rsl.one
      have hc2 := hRB.rsl.cells
      have hst := store_cell (o := 2) hp311 ho2 (by simp) (by omega)
      simp only [hH8]
      refine EC_drawH ?_
      refine hdp (And.intro @hp38 (And.intro @hb8 @hH9)) ?_
      simp only [unh, List.map_cons, List.map_nil]
      refine stp (And.intro @hp39 (And.intro @ha1 (And.intro @hb10 (And.intro @ha2 (And.intro @hc2 @hst))))) ?_
      refine ⟨?_, fun h => (by cases h), _, (by simp only [List.getLast?_cons_cons, List.getLast?_singleton]; first | done | with_reducible rfl), ?_⟩
      · exact rdp (And.intro @hp39 (And.intro @hb9 (And.intro @hb10 (And.intro @hlit (And.intro @hlit10 (And.intro @hlit11 (And.intro @hrb (And.intro @hbl @hba))))))))
      · refine stp (succ_w (k := i) (by omega)) ?_
        have hE811 : Ext H8 H11 := hE9.trans hE11
        have hFp : Fr2 kb p3 H11 (H11.put p3 (.row [gv, rv, v2] 30 true false 0)) := (Fr2.refl ..).put _
        refine loopR_normal (3 - (i + 1)) (by omega) ⟨rfl, ?_, ?_, E ++ [⟨al, g, (sp, s7), sc⟩], v2, i + 1, rfl, by omega, by simp [hRl], fun x hx => ?_, ?_, get_put_self _ _, (frame_in (by rfl) (trivial))⟩
        · exact (hF.trans (hF8'.trans hE811.fr2)).put _
        · exact (hT8.keep hE811.1 fun b hb => hE811.2 b (by have := hT8.2.1; omega)).put hMB _
        · rcases List.mem_append.1 hx with h | h
          · exact hRk x h
          · rw [List.mem_singleton.1 h]; exact hok
        · have := (hRB.mono (B' := B) (by omega)).keep (by omega) (.inl (by omega)) hFp
          simpa using this
    · refine stp trivial ?_
      exact ⟨rfl, rfl, hF.trans hst1.gs'.fr2, hst1.2.2, E, dv, by omega, hRk, hrv.keep (by omega) (.inl (by omega)) (hst1.gs'.fr2 : Fr2 kb kb H' H1), (hst1.2.1 _ hpk).trans hp3, (frame_in (by rfl) (trivial))⟩
  · exact ⟨rfl, Fr2.refl .., hT, [], .nils, 0, rfl, by omega, rfl, (fun x h => by cases h), RB.nil, hp3, (frame_in (by rfl) (trivial))⟩
end
end Go.Sh
end
