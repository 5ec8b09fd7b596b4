/-
  The drawn policy. (frame style z)
-/
import Derived.Test.YtnhogklhegmjhaaGreatDoorShC7
set_option linter.all false
section
namespace Go.Sh
set_option maxRecDepth 10000
set_option linter.all false
theorem tab13 : tabT 13 = some (.code c13) := by kernel_rfl
section
variable {lf n : Nat} {H : Heap}
set_option maxHeartbeats 4000000 in
theorem pol_tail {M kb P k : Nat} {gv : SV} {G : List Gr} {ts : T} (hkM : kb < M) (hMP : M ≤ P) (hT' : TapeOK M H kb) (hP : P + 3 ≤ H.next) (hk3 : k ≤ 3) (hG : GrsB (P + 3) H k k gv G) (hb4' : H.get (P + 1 + 1) = some (.row [.str [115, 116, 97, 102, 102], .str [109, 111, 100, 115], .str [103, 111, 108, 100]] 9 true false 0)) (hp2 : H.get P = some (.row [.nils, .nils, .nils] 30 true false 0)) (hp3' : H.get (P + 1) = some (.row [gv, .nils, .nils] 30 true false 0)) (hn : 3 ≤ n) (hlf : 1000 < lf)
    (hts : ∃ z : Nat → SV, ts = ((.ptr kb 0) :: z 1 :: (.ptr P 0) :: (.ptr (P + 1) 0) :: (.slice (P + 1 + 1) 0 3 (some 3) 1) :: (.int .i64 (k : Int)) :: z 6 :: z 7 :: z 8 :: z 9 :: z 10 :: z 11 :: z 12 :: z 13 :: z 14 :: z 15 :: z 16 :: z 17 :: z 18 :: z 19 :: z 20 :: z 21 :: z 22 :: z 23 :: z 24 :: z 25 :: z 26 :: z 27 :: z 28 :: z 29 :: z 30 :: z 31 :: z 32 :: z 33 :: z 34 :: z 35 :: z 36 :: z 37 :: z 38 :: z 39 :: z 40 :: z 41 :: z 42 :: z 43 :: z 44 :: z 45 :: z 46 :: z 47 :: z 48 :: z 49 :: z 50 :: z 51 :: z 52 :: z 53 :: z 54 :: z 55 :: z 56 :: z 57 :: z 58 :: z 59 :: z 60 :: z 61 :: z 62 :: z 63 :: z 64 :: z 65 :: z 66 :: z 67 :: z 68 :: z 69 :: z 70 :: z 71 :: z 72 :: z 73 :: z 74 :: z 75 :: z 76 :: z 77 :: z 78 :: z 79 :: z 80 :: z 81 :: z 82 :: z 83 :: z 84 :: z 85 :: z 86 :: z 87 :: z 88 :: z 89 :: z 90 :: z 91 :: z 92 :: z 93 :: z 94 :: z 95 :: z 96 :: z 97 :: z 98 :: z 99 :: z 100 :: z 101 :: z 102 :: z 103 :: z 104 :: z 105 :: z 106 :: z 107 :: z 108 :: z 109 :: z 110 :: z 111 :: z 112 :: z 113 :: z 114 :: z 115 :: z 116 :: z 117 :: z 118 :: z 119 :: z 120 :: z 121 :: z 122 :: z 123 :: z 124 :: z 125 :: z 126 :: z 127 :: z 128 :: z 129 :: z 130 :: z 131 :: z 132 :: z 133 :: z 134 :: z 135 :: z 136 :: z 137 :: [] : T) ∧ (True)) :
    EC (callS tabT lf n) lf c13T ts [] H (funR [.cell 2 true 3] fun v H' => (H.next ≤ H'.next ∧ (∀ b, b < P → b ≠ kb → H'.get b = H.get b) ∧ TapeOK M H' kb) ∧ ∃ gv rv dv G R E, v = .agg [gv, rv, dv] ∧ PolB P H' k gv rv dv G R E) := by
  obtain ⟨z, rfl, -⟩ := hts
  unfold c13T
  have hT2 := hT'.push (.row [.str [97, 108, 108], .str [117, 115, 101, 114, 115]] 9 true false 0)
  obtain ⟨H2, hH2⟩ : ∃ H2, H.push (.row [.str [97, 108, 108], .str [117, 115, 101, 114, 115]] 9 true false 0) = H2 := ⟨_, rfl⟩
  rw [hH2] at hT2
  have hE2 : Ext H H2 := by rw [← hH2]; exact (Ext.refl _).push _
  have hn2 : H2.next = H.next + 1 := by rw [← hH2]; rfl
  have hlit : H2.get H.next = some (.row [.str [97, 108, 108], .str [117, 115, 101, 114, 115]] 9 true false 0) := by rw [← hH2]; exact get_push_self _
  have hb42 := (hE2.2 _ (by omega)).trans hb4'
  have hR4 : RSl H2 (.slice (P + 1 + 1) 0 3 (some 3) 1) 1 (strL grpL) := ⟨strL_all _, .inr ⟨P + 1 + 1, some 3, 9, true, false, 0, rfl, (fun k h => by cases h; rfl), by omega, hb42⟩⟩
  obtain ⟨w, hw, hsw, _⟩ := hR4.hi (k := k) (by rw [strL_len]; simp only [grpL, List.length_cons, List.length_nil]; omega)
  rw [strL_take] at hsw
  have htl : (grpL.take k).length ≤ 3 := by rw [List.length_take]; simp only [grpL, List.length_cons, List.length_nil]; omega
  obtain ⟨nv, H3, ha3, hE3, hR3⟩ := app_full (B := P + 3) (L := strL [sAll, sUsers]) (by omega) (by omega) hlit (strL_all _) hsw (by rw [strL_len, strL_len]; simp only [List.length_cons, List.length_nil]; omega) 9 16 (by omega)
  have ha3 : appV H2 false 9 1 16 (.slice H.next 0 2 (some 2) 1) w = some (nv, H3) := ha3
  rw [← strL_app] at hR3
  have hp3'2 := (hE2.2 _ (by omega)).trans hp3'
  have hp33 := (hE3.2 _ (by omega)).trans hp3'2
  have hT3 : TapeOK M H3 kb := hT2.keep hE3.1 fun b hb => hE3.2 b (by have := hT2.2.1; omega)
  have hG3 := (hG.ext hE2).ext hE3
  have hgo := hG3.sl.rsl.one
  have hgb := hG3.sl.rsl.bq
  obtain ⟨H4, hH4⟩ : ∃ H4, H3.push (.row [.bool true, .int .i64 ((1 : Nat) : Int), .str [97, 108, 108], .int .i64 ((1 : Nat) : Int), .int .i64 ((0 : Nat) : Int), .str []] 112 true false 0) = H4 := ⟨_, rfl⟩
  have hE4 : Ext H3 H4 := by rw [← hH4]; exact (Ext.refl _).push _
  have hn4 : H4.next = H3.next + 1 := by rw [← hH4]; rfl
  have hlit4 : H4.get H3.next = some (.row [.bool true, .int .i64 ((1 : Nat) : Int), .str [97, 108, 108], .int .i64 ((1 : Nat) : Int), .int .i64 ((0 : Nat) : Int), .str []] 112 true false 0) := by rw [← hH4]; exact get_push_self _
  have hle3 := hE3.1
  have hp34 := (hE4.2 _ (by omega)).trans hp33
  have hst := store_cell (o := 1) (v := .slice H3.next 0 1 (some 1) 6) hp34 rfl (by simp) (by omega)
  have hF5 : Fr2 kb (P + 1) H3 (H4.put (P + 1) (.row [gv, .slice H3.next 0 1 (some 1) 6, .nils] 30 true false 0)) := hE4.fr2.put _
  have hp35 : (H4.put (P + 1) (.row [gv, .slice H3.next 0 1 (some 1) 6, .nils] 30 true false 0)).get (P + 1) = some (.row [gv, .slice H3.next 0 1 (some 1) 6, .nils] 30 true false 0) := get_put_self _ _
  have hlit5 : (H4.put (P + 1) (.row [gv, .slice H3.next 0 1 (some 1) 6, .nils] 30 true false 0)).get H3.next = some (.row [.bool true, .int .i64 ((1 : Nat) : Int), .str [97, 108, 108], .int .i64 ((1 : Nat) : Int), .int .i64 ((0 : Nat) : Int), .str []] 112 true false 0) := by rw [get_put_other (by omega)]; exact hlit4
  have hT5 : TapeOK M (H4.put (P + 1) (.row [gv, .slice H3.next 0 1 (some 1) 6, .nils] 30 true false 0)) kb := (hT3.keep hE4.1 fun b hb => hE4.2 b (by have := hT3.2.1; omega)).put (by omega) _
  have hn5 : (H4.put (P + 1) (.row [gv, .slice H3.next 0 1 (some 1) 6, .nils] 30 true false 0)).next = H3.next + 1 := hn4
  refine stp (And.intro @hH2 (And.intro @hw (And.intro @ha3 @hH4))) ?_
  refine EO_opN (v := .undef) (H' := H4.put (P + 1) (.row [gv, .slice H3.next 0 1 (some 1) 6, .nils] 30 true false 0)) (by simp only [go_sem, hst]) ?_
  generalize H4.put (P + 1) (.row [gv, .slice H3.next 0 1 (some 1) 6, .nils] 30 true false 0) = H5 at hF5 hp35 hlit5 hT5 hn5
  refine EO_nil (seqR_normal (EC_seq ?_))
  refine EC_mono ?_ (rules_ok (M := M) (p2 := P) (p3 := P + 1) (B := P + 3) (nn := k) (R := [⟨true, 1, sAll, 1, (0, [])⟩]) hT5 (by omega) (by omega) (by omega) (by omega) (by omega) (hR3.keep (by omega) (.inl (by omega)) hF5) hgo hgb rfl ?_ ?_ hp35 (by omega) hlf (by exact (frame_in (by rfl) (trivial))))
  · rintro x ts' D H6 ⟨rfl, rfl, hF6, hT6, R, rv, hRl, hRk, hrv, hp36, hts6⟩
    have hle6 := hF6.1
    refine seqR_normal (EC_seq ?_)
    refine EC_mono ?_ (guards_ok (M := M) (p2 := P) (p3 := P + 1) (B := P + 3) (nn := k) hT6 (by omega) (by omega) (by omega) (by omega) (by omega) (((hR3.keep (by omega) (.inl (by omega)) hF5)).keep (by omega) (.inl (by omega)) hF6) hp36 (by omega) hlf hts6)
    rintro x ts' D H7 ⟨rfl, rfl, hF7, hT7, E, dv, hEl, hEk, hdv, hp37, ⟨z, rfl, -⟩⟩
    have hle7 := hF7.1
    have hrv7 := hrv.keep (by omega) (.inl (by omega)) hF7
    have hG7 := ((hG3.keep (by omega) (.inl (by omega)) hF5).keep (by omega) (.inl (by omega)) hF6).keep (by omega) (.inl (by omega)) hF7
    have hFa : Fr2 kb (P + 1) H H7 := (hE2.fr2.trans (hE3.fr2.trans (hF5.trans (hF6.trans hF7))))
    have hp27 := hFa.old (by omega) (show P ≠ kb by omega) (by omega) hp2
    have g1 := hG7.sl.rsl.one
    have g2 := hrv7.rsl.one
    have g3 := hdv.rsl.one
    have hall : [gv, rv, dv].all SV.one = true := by rw [List.all_cons, List.all_cons, List.all_cons, g1, g2, g3]; rfl
    have hst7 : storeS 3 (.ptr P 0) [gv, rv, dv] H7 = some (H7.put P (.row [gv, rv, dv] 30 true false 0)) := by
      rw [store_ptr (n := 3) (cs := [gv, rv, dv]) rfl, storeC_eq, hp27, sto_row (by simp) (by omega) hall]
      rfl
    have hFp : Fr2 kb P H7 (H7.put P (.row [gv, rv, dv] 30 true false 0)) := (Fr2.refl ..).put _
    refine stp (And.intro @hp37 @hst7) ?_
    refine ret1 trivial ?_
    refine (⟨⟨?_, fun b hb hbk => ?_, hT7.put (by omega) _⟩, gv, rv, dv, G, R, E, rfl, ⟨by omega, ?_, ?_, hRl, hRk, ?_, hEl, hEk⟩⟩)
    · rw [next_put]; exact hFa.1
    · rw [get_put_other (by omega)]; exact hFa.2 b (by omega) hbk (by omega)
    · have := hG7.keep (by omega) (.inl (by omega)) hFp
      exact ⟨this.sl.mono (by omega), fun g hg => ⟨(this.at_ g hg).sl.mono (by omega), (this.at_ g hg).len, (this.at_ g hg).mem⟩, this.nm, this.len⟩
    · exact (hrv7.keep (by omega) (.inl (by omega)) hFp).mono (by omega)
    · exact (hdv.keep (by omega) (.inl (by omega)) hFp).mono (by omega)
  · intro x hx
    rw [List.mem_singleton.1 hx]
    exact ⟨Nat.le_refl _, by decide, List.mem_cons_self .., .inl ⟨rfl, rfl⟩⟩
  · refine ⟨fun x hx => by rw [List.mem_singleton.1 hx]; rfl, .inr ⟨H3.next, some 1, 112, true, false, 0, rfl, (fun k h => by cases h; rfl), by omega, by omega, hlit5⟩⟩
@[reducible] def I13a (H1 : Heap) (M kb p2 p3 b4 B nn : Nat) (m : Nat) (ts : T) (D : DS) (H' : Heap) : Prop :=
  D = [] ∧ Fr2 kb p3 H1 H' ∧ TapeOK M H' kb ∧ ∃ (G : List Gr) (gv : SV) (k : Nat), m = nn - k ∧ k ≤ nn ∧ GrsB B H' nn k gv G ∧ H'.get p3 = some (.row [gv, .nils, .nils] 30 true false 0) ∧
    ∃ z : Nat → SV, ts = ((.ptr kb 0) :: z 1 :: (.ptr p2 0) :: (.ptr p3 0) :: (.slice b4 0 3 (some 3) 1) :: (.int .i64 (nn : Int)) :: (.int .i64 (k : Int)) :: z 7 :: z 8 :: z 9 :: z 10 :: z 11 :: z 12 :: z 13 :: z 14 :: z 15 :: z 16 :: z 17 :: z 18 :: z 19 :: z 20 :: z 21 :: z 22 :: z 23 :: z 24 :: z 25 :: z 26 :: z 27 :: z 28 :: z 29 :: z 30 :: z 31 :: z 32 :: z 33 :: z 34 :: z 35 :: z 36 :: z 37 :: z 38 :: z 39 :: z 40 :: z 41 :: z 42 :: z 43 :: z 44 :: z 45 :: z 46 :: z 47 :: z 48 :: z 49 :: z 50 :: z 51 :: z 52 :: z 53 :: z 54 :: z 55 :: z 56 :: z 57 :: z 58 :: z 59 :: z 60 :: z 61 :: z 62 :: z 63 :: z 64 :: z 65 :: z 66 :: z 67 :: z 68 :: z 69 :: z 70 :: z 71 :: z 72 :: z 73 :: z 74 :: z 75 :: z 76 :: z 77 :: z 78 :: z 79 :: z 80 :: z 81 :: z 82 :: z 83 :: z 84 :: z 85 :: z 86 :: z 87 :: z 88 :: z 89 :: z 90 :: z 91 :: z 92 :: z 93 :: z 94 :: z 95 :: z 96 :: z 97 :: z 98 :: z 99 :: z 100 :: z 101 :: z 102 :: z 103 :: z 104 :: z 105 :: z 106 :: z 107 :: z 108 :: z 109 :: z 110 :: z 111 :: z 112 :: z 113 :: z 114 :: z 115 :: z 116 :: z 117 :: z 118 :: z 119 :: z 120 :: z 121 :: z 122 :: z 123 :: z 124 :: z 125 :: z 126 :: z 127 :: z 128 :: z 129 :: z 130 :: z 131 :: z 132 :: z 133 :: z 134 :: z 135 :: z 136 :: z 137 :: [] : T) ∧ (True)
@[reducible] def I13b (Hs : Heap) (M kb p2 p3 b4 b7 B nn k : Nat) (nm : List Nat) (m : Nat) (ts : T) (D : DS) (H' : Heap) : Prop :=
  D = [] ∧ Fr2 kb b7 Hs H' ∧ TapeOK M H' kb ∧ ∃ (ms : List (List Nat)) (mv : SV), m = 3 - ms.length ∧ ms.length ≤ 2 ∧ RB B H' mv 1 (strL ms) ∧ (∀ s ∈ ms, s ∈ memN nn) ∧ H'.get b7 = some (.row [.str nm, mv] 109 true false 0) ∧
    ∃ z : Nat → SV, ts = ((.ptr kb 0) :: z 1 :: (.ptr p2 0) :: (.ptr p3 0) :: (.slice b4 0 3 (some 3) 1) :: (.int .i64 (nn : Int)) :: (.int .i64 (k : Int)) :: (.ptr b7 0) :: (.int .i64 (ms.length : Int)) :: z 9 :: z 10 :: z 11 :: z 12 :: z 13 :: z 14 :: z 15 :: z 16 :: z 17 :: z 18 :: z 19 :: z 20 :: z 21 :: z 22 :: z 23 :: z 24 :: z 25 :: z 26 :: z 27 :: z 28 :: z 29 :: z 30 :: z 31 :: z 32 :: z 33 :: z 34 :: z 35 :: z 36 :: z 37 :: z 38 :: z 39 :: z 40 :: z 41 :: z 42 :: z 43 :: z 44 :: z 45 :: z 46 :: z 47 :: z 48 :: z 49 :: z 50 :: z 51 :: z 52 :: z 53 :: z 54 :: z 55 :: z 56 :: z 57 :: z 58 :: z 59 :: z 60 :: z 61 :: z 62 :: z 63 :: z 64 :: z 65 :: z 66 :: z 67 :: z 68 :: z 69 :: z 70 :: z 71 :: z 72 :: z 73 :: z 74 :: z 75 :: z 76 :: z 77 :: z 78 :: z 79 :: z 80 :: z 81 :: z 82 :: z 83 :: z 84 :: z 85 :: z 86 :: z 87 :: z 88 :: z 89 :: z 90 :: z 91 :: z 92 :: z 93 :: z 94 :: z 95 :: z 96 :: z 97 :: z 98 :: z 99 :: z 100 :: z 101 :: z 102 :: z 103 :: z 104 :: z 105 :: z 106 :: z 107 :: z 108 :: z 109 :: z 110 :: z 111 :: z 112 :: z 113 :: z 114 :: z 115 :: z 116 :: z 117 :: z 118 :: z 119 :: z 120 :: z 121 :: z 122 :: z 123 :: z 124 :: z 125 :: z 126 :: z 127 :: z 128 :: z 129 :: z 130 :: z 131 :: z 132 :: z 133 :: z 134 :: z 135 :: z 136 :: z 137 :: [] : T) ∧ (True)
set_option maxHeartbeats 4000000 in
theorem policy_ok {M kb : Nat} (hT : TapeOK M H kb) (hn : 4 ≤ n) (hlf : 1000 < lf) :
    ∃ v H', callS tabT lf n 13 [.ptr kb 0] H = some (v, H') ∧ GS M kb H H' ∧ ∃ nn gv rv dv G R E, v = .agg [gv, rv, dv] ∧ PolB H.next H' nn gv rv dv G R E := by
  obtain ⟨n, rfl⟩ : ∃ m, n = m + 1 := ⟨n - 1, by omega⟩
  have key : ∃ v H', callS tabT lf (n + 1) 13 [.ptr kb 0] H = some (v, H') ∧ GS M kb H H' ∧ ∃ nn gv rv dv G R E, v = .agg [gv, rv, dv] ∧ PolB H.next H' nn gv rv dv G R E := by
    have hkM := hT.1
    have hMn := hT.2.1
    obtain ⟨H0, hH0⟩ : ∃ H0, ((H.push (.row [.nils, .nils, .nils] 30 true false 0)).push (.row [.nils, .nils, .nils] 30 true false 0)).push (.row [.str [115, 116, 97, 102, 102], .str [109, 111, 100, 115], .str [103, 111, 108, 100]] 9 true false 0) = H0 := ⟨_, rfl⟩
    have hE0 : Ext H H0 := by rw [← hH0]; exact (((Ext.refl H).push _).push _).push _
    have hn0 : H0.next = H.next + 3 := by rw [← hH0]; rfl
    have hp2 : H0.get H.next = some (.row [.nils, .nils, .nils] 30 true false 0) := by rw [← hH0, get_push_old (by simp only [next_push]; omega), get_push_old (by simp only [next_push]; omega)]; exact get_push_self _
    have hp3 : H0.get (H.next + 1) = some (.row [.nils, .nils, .nils] 30 true false 0) := by rw [← hH0, get_push_old (by simp only [next_push]; omega)]; exact get_push_self (H := H.push _) _
    have hb4 : H0.get (H.next + 1 + 1) = some (.row [.str [115, 116, 97, 102, 102], .str [109, 111, 100, 115], .str [103, 111, 108, 100]] 9 true false 0) := by rw [← hH0]; exact get_push_self (H := (H.push _).push _) _
    have hT0 : TapeOK M H0 kb := by rw [← hH0]; exact ((hT.push _).push _).push _
    obtain ⟨r, H1, hc1, hr0, hr1, hst⟩ := next_ok (lf := lf) (n := n) hT0 (m := ((4 : Nat) : Int)) (by omega) (by omega) (by omega)
    obtain ⟨nn, rfl⟩ : ∃ k : Nat, r = (k : Int) := ⟨r.toNat, by omega⟩
    have hT1 := hst.2.2
    have hg1 := hst.gs'
    have hn1 : H1.next = H.next + 3 := by rw [hst.1]; exact hn0
    have hp2 := (hst.2.1 _ (show H.next ≠ kb by omega)).trans hp2
    have hp3 := (hst.2.1 _ (show H.next + 1 ≠ kb by omega)).trans hp3
    have hb4 := (hst.2.1 _ (show H.next + 1 + 1 ≠ kb by omega)).trans hb4
    refine call_code tab13 (by simp only [c13, go_sem, List.reduceReplicate, Nat.reduceAdd, Nat.reduceSub]; exact rfl) ?_
    simp only [c13]
    refine stp @hH0 ?_
    refine kst trivial hc1 ?_
    refine stp trivial ?_
    refine EC_loop (I := I13a H1 M kb H.next (H.next + 1) (H.next + 1 + 1) (H.next + 3) nn) ?_ nn ?_ (by omega)
    · rintro m ts D H' ⟨rfl, hF, hT', G, gv, k, rfl, hk, hG, hp3', ⟨z, rfl, -⟩⟩
      have hb4' := hF.old (by omega) (show H.next + 1 + 1 ≠ kb by omega) (show H.next + 1 + 1 ≠ H.next + 1 by omega) hb4
      refine stp trivial ?_
      refine cst trivial (fun hc => ?_) (fun hc => ?_) <;> try simp only [decide_eq_true_eq, decide_eq_false_iff_not, not_true_eq_false, not_false_eq_true, Int.not_lt, Int.not_le, ge_iff_le, gt_iff_lt] at hc
      · obtain ⟨nm, hnm, hnmt, hnmn, _⟩ := grpL_at (n := nn) (k := k) (by omega) (by omega)
        have hrow : rowL (some (.row [.str [115, 116, 97, 102, 102], .str [109, 111, 100, 115], .str [103, 111, 108, 100]] 9 true false 0)) k 1 = some [.str nm] := rowL_one (by
          have := congrArg (Option.map SV.str) hnm
          rw [← List.getElem?_map] at this
          exact this)
        obtain ⟨Hs, hHs⟩ : ∃ Hs, (H'.push (.row [.str [], .nils] 109 true false 0)).put H'.next (.row [.str nm, .nils] 109 true false 0) = Hs := ⟨_, rfl⟩
        have hEs : Ext H' Hs := by rw [← hHs]; exact ((Ext.refl H').push _).put (Nat.le_refl _) _
        have hns : Hs.next = H'.next + 1 := by rw [← hHs]; rfl
        have hb7 : Hs.get H'.next = some (.row [.str nm, .nils] 109 true false 0) := by rw [← hHs]; exact get_put_self _ _
        have hTs : TapeOK M Hs kb := by rw [← hHs]; exact (hT'.push _).put hT'.2.1 _
        have hle1 := hF.1
        refine stp (And.intro @hb4' (And.intro @hrow @hHs)) ?_
        refine EC_loop (I := I13b Hs M kb H.next (H.next + 1) (H.next + 1 + 1) H'.next (H.next + 3) nn k nm) ?_ 3 ?_ (by omega)
        · rintro m ts D H5 ⟨rfl, hF5, hT5, ms, mv, rfl, hms, hmv, hmm, hb75, ⟨z, rfl, -⟩⟩
          have hle5 := hF5.1
          obtain ⟨r3, H6, hc3, h30, h31, hst3⟩ := next_ok (lf := lf) (n := n) hT5 (m := ((3 : Nat) : Int)) (by omega) (by omega) (by omega)
          obtain ⟨r3, rfl⟩ : ∃ k : Nat, r3 = (k : Int) := ⟨r3.toNat, by omega⟩
          have hF6 := hF5.trans hst3.gs'.fr2
          have hb76 := (hst3.2.1 _ (show H'.next ≠ kb by omega)).trans hb75
          have hn6 : H6.next = H5.next := hst3.1
          refine stp trivial ?_
          refine kst trivial hc3 ?_
          refine stp trivial ?_
          refine cst trivial (fun hc => ?_) (fun hc => ?_) <;> try simp only [decide_eq_true_eq, decide_eq_false_iff_not, not_true_eq_false, not_false_eq_true, Int.not_lt, Int.not_le, ge_iff_le, gt_iff_lt] at hc
          · obtain ⟨s1, H7, hc7, hs1, hg7⟩ := name_ok (lf := lf) (n := n) hst3.2.2 (by omega)
            obtain ⟨r8, H8, hc8, h80, h81, hst8⟩ := next_ok (lf := lf) (n := n) hg7.2.2 (m := ((3 : Nat) : Int)) (by omega) (by omega) (by omega)
            obtain ⟨r8, rfl⟩ : ∃ k : Nat, r8 = (k : Int) := ⟨r8.toNat, by omega⟩
            refine stp trivial ?_
            refine kst trivial hc7 ?_
            refine stp trivial ?_
            refine kst trivial hc8 ?_
            refine stp trivial ?_
            refine EC_cut (fun ts H9 => GS M kb H8 H9 ∧ ∃ s, s ∈ memN nn ∧ ∃ z : Nat → SV, ts = ((.ptr kb 0) :: z 1 :: (.ptr H.next 0) :: (.ptr (H.next + 1) 0) :: (.slice (H.next + 1 + 1) 0 3 (some 3) 1) :: (.int .i64 (nn : Int)) :: (.int .i64 (k : Int)) :: (.ptr H'.next 0) :: (.int .i64 (ms.length : Int)) :: (.str s) :: z 10 :: z 11 :: z 12 :: z 13 :: z 14 :: z 15 :: z 16 :: z 17 :: z 18 :: z 19 :: z 20 :: z 21 :: z 22 :: z 23 :: z 24 :: z 25 :: z 26 :: z 27 :: z 28 :: z 29 :: z 30 :: z 31 :: z 32 :: z 33 :: z 34 :: z 35 :: z 36 :: z 37 :: z 38 :: z 39 :: z 40 :: z 41 :: z 42 :: z 43 :: z 44 :: z 45 :: z 46 :: z 47 :: z 48 :: z 49 :: z 50 :: z 51 :: z 52 :: z 53 :: z 54 :: z 55 :: z 56 :: z 57 :: z 58 :: z 59 :: z 60 :: z 61 :: z 62 :: z 63 :: z 64 :: z 65 :: z 66 :: z 67 :: z 68 :: z 69 :: z 70 :: z 71 :: z 72 :: z 73 :: z 74 :: z 75 :: z 76 :: z 77 :: z 78 :: z 79 :: z 80 :: z 81 :: z 82 :: z 83 :: z 84 :: z 85 :: z 86 :: z 87 :: z 88 :: z 89 :: z 90 :: z 91 :: z 92 :: z 93 :: z 94 :: z 95 :: z 96 :: z 97 :: z 98 :: z 99 :: z 100 :: z 101 :: z 102 :: z 103 :: z 104 :: z 105 :: z 106 :: z 107 :: z 108 :: z 109 :: z 110 :: z 111 :: z 112 :: z 113 :: z 114 :: z 115 :: z 116 :: z 117 :: z 118 :: z 119 :: z 120 :: z 121 :: z 122 :: z 123 :: z 124 :: z 125 :: z 126 :: z 127 :: z 128 :: z 129 :: z 130 :: z 131 :: z 132 :: z 133 :: z 134 :: z 135 :: z 136 :: z 137 :: [] : T) ∧ (True)) ?_ ?_
            · have hb45 := hF5.old (by omega) (show H.next + 1 + 1 ≠ kb by omega) (show H.next + 1 + 1 ≠ H'.next by omega) ((hEs.2 _ (by omega)).trans hb4')
              have hb48 := (hst8.2.1 _ (show H.next + 1 + 1 ≠ kb by omega)).trans (hg7.old (by omega) (show H.next + 1 + 1 ≠ kb by omega) ((hst3.2.1 _ (show H.next + 1 + 1 ≠ kb by omega)).trans hb45))
              refine cst trivial (fun hc => ?_) (fun hc => ?_) <;> try simp only [decide_eq_true_eq, decide_eq_false_iff_not, not_true_eq_false, not_false_eq_true, Int.not_lt, Int.not_le, ge_iff_le, gt_iff_lt] at hc
              · obtain ⟨rg, Hg, hcg, hg0, hg1, hstg⟩ := next_ok (lf := lf) (n := n) hst8.2.2 (m := (nn : Int)) (by omega) (by omega) (by omega)
                obtain ⟨rg, rfl⟩ : ∃ k : Nat, rg = (k : Int) := ⟨rg.toNat, by omega⟩
                obtain ⟨nm2, hnm2, _, hnm2n, hnm2l⟩ := grpL_at (n := nn) (k := rg) (by omega) (by omega)
                have hrow2 : rowL (some (.row [.str [115, 116, 97, 102, 102], .str [109, 111, 100, 115], .str [103, 111, 108, 100]] 9 true false 0)) rg 1 = some [.str nm2] := rowL_one (by
                  have := congrArg (Option.map SV.str) hnm2
                  rw [← List.getElem?_map] at this
                  exact this)
                have hb4g := (hstg.2.1 _ (show H.next + 1 + 1 ≠ kb by omega)).trans hb48
                refine stp trivial ?_
                refine kst trivial hcg ?_
                refine stp (And.intro @hb4g @hrow2) ?_
                exact ⟨rfl, rfl, hstg.gs', 64 :: nm2, List.mem_append_right _ (List.mem_map_of_mem hnm2n), (frame_in (by rfl) (trivial))⟩
              · refine stp trivial ?_
                exact ⟨rfl, rfl, GS.refl hst8.2.2, s1, List.mem_append_left _ (List.mem_append_left _ hs1), (frame_in (by rfl) (trivial))⟩
            rintro ts' H9 ⟨hg9, s2, hs2, ⟨z, rfl, -⟩⟩
            obtain ⟨r9, H10, hc9, h90, h91, hst9⟩ := next_ok (lf := lf) (n := n) hg9.2.2 (m := ((9 : Nat) : Int)) (by omega) (by omega) (by omega)
            obtain ⟨r9, rfl⟩ : ∃ k : Nat, r9 = (k : Int) := ⟨r9.toNat, by omega⟩
            refine stp trivial ?_
            refine kst trivial hc9 ?_
            refine stp trivial ?_
            refine EC_cut (fun ts H11 => H11 = H10 ∧ ∃ s, s ∈ memN nn ∧ ∃ z : Nat → SV, ts = ((.ptr kb 0) :: z 1 :: (.ptr H.next 0) :: (.ptr (H.next + 1) 0) :: (.slice (H.next + 1 + 1) 0 3 (some 3) 1) :: (.int .i64 (nn : Int)) :: (.int .i64 (k : Int)) :: (.ptr H'.next 0) :: (.int .i64 (ms.length : Int)) :: (.str s) :: z 10 :: z 11 :: z 12 :: z 13 :: z 14 :: z 15 :: z 16 :: z 17 :: z 18 :: z 19 :: z 20 :: z 21 :: z 22 :: z 23 :: z 24 :: z 25 :: z 26 :: z 27 :: z 28 :: z 29 :: z 30 :: z 31 :: z 32 :: z 33 :: z 34 :: z 35 :: z 36 :: z 37 :: z 38 :: z 39 :: z 40 :: z 41 :: z 42 :: z 43 :: z 44 :: z 45 :: z 46 :: z 47 :: z 48 :: z 49 :: z 50 :: z 51 :: z 52 :: z 53 :: z 54 :: z 55 :: z 56 :: z 57 :: z 58 :: z 59 :: z 60 :: z 61 :: z 62 :: z 63 :: z 64 :: z 65 :: z 66 :: z 67 :: z 68 :: z 69 :: z 70 :: z 71 :: z 72 :: z 73 :: z 74 :: z 75 :: z 76 :: z 77 :: z 78 :: z 79 :: z 80 :: z 81 :: z 82 :: z 83 :: z 84 :: z 85 :: z 86 :: z 87 :: z 88 :: z 89 :: z 90 :: z 91 :: z 92 :: z 93 :: z 94 :: z 95 :: z 96 :: z 97 :: z 98 :: z 99 :: z 100 :: z 101 :: z 102 :: z 103 :: z 104 :: z 105 :: z 106 :: z 107 :: z 108 :: z 109 :: z 110 :: z 111 :: z 112 :: z 113 :: z 114 :: z 115 :: z 116 :: z 117 :: z 118 :: z 119 :: z 120 :: z 121 :: z 122 :: z 123 :: z 124 :: z 125 :: z 126 :: z 127 :: z 128 :: z 129 :: z 130 :: z 131 :: z 132 :: z 133 :: z 134 :: z 135 :: z 136 :: z 137 :: [] : T) ∧ (True)) ?_ ?_
            · refine cst trivial (fun hc => ?_) (fun hc => ?_) <;> try simp only [decide_eq_true_eq, decide_eq_false_iff_not, not_true_eq_false, not_false_eq_true, Int.not_lt, Int.not_le, ge_iff_le, gt_iff_lt] at hc
              · refine stp trivial ?_
                exact ⟨rfl, rfl, rfl, [64, 117, 115, 101, 114, 115], List.mem_append_left _ (List.mem_append_right _ (by decide)), (frame_in (by rfl) (trivial))⟩
              · refine stp trivial ?_
                exact ⟨rfl, rfl, rfl, s2, hs2, (frame_in (by rfl) (trivial))⟩
            rintro ts' H11 ⟨rfl, s3, hs3, ⟨z, rfl, -⟩⟩
            have hF11 : Fr2 kb H'.next Hs H11 := hF6.trans (hg7.fr2.trans (hst8.gs'.fr2.trans (hg9.fr2.trans hst9.gs'.fr2)))
            have hb711 : H11.get H'.next = some (.row [.str nm, mv] 109 true false 0) := (hst9.2.1 _ (by omega)).trans (hg9.old (by have := hst8.1; have := hg7.1; omega) (by omega) ((hst8.2.1 _ (by omega)).trans (hg7.old (by omega) (by omega) hb76)))
            have hmv11 : RB (H.next + 3) H11 mv 1 (strL ms) := hmv.keep (by omega) (.inl (by omega)) (hst3.gs'.fr2.trans (hg7.fr2.trans (hst8.gs'.fr2.trans (hg9.fr2.trans hst9.gs'.fr2))) : Fr2 kb kb H5 H11)
            have hT11 := hst9.2.2
            obtain ⟨v1, H12, ha1, hE12, hS12⟩ := app_copy hmv11.rsl (strL_one _) (by rw [strL_len]; omega) 9 16 (by omega)
            obtain ⟨H13, hH13⟩ : ∃ H13, H12.push (.row [.str s3] 9 true false 0) = H13 := ⟨_, rfl⟩
            have hE13 : Ext H12 H13 := by rw [← hH13]; exact (Ext.refl _).push _
            have hlit : H13.get H12.next = some (.row [.str s3] 9 true false 0) := by rw [← hH13]; exact get_push_self _
            obtain ⟨v2, H14, ha2, hS14, hn14, hk14⟩ := app_more (hS12.keep hE13) (strL_all _) (x := [.str s3]) rfl rfl hlit (Nat.le_trans hE12.1 hE13.1) (by rw [strL_len]; omega) 16 (by omega)
            have hle11 := hF11.1
            have hle13 := Nat.le_trans hE12.1 hE13.1
            have hE14 : Ext H11 H14 := ⟨by omega, fun b hb => by rw [hk14 b hb, hE13.2 b (by have := hE12.1; omega)]; exact hE12.2 b hb⟩
            have hb713 := (hE13.2 H'.next (by have := hE12.1; omega)).trans ((hE12.2 H'.next (by omega)).trans hb711)
            have hb714 := (hE14.2 H'.next (by omega)).trans hb711
            have hM14 : TapeOK M H14 kb := hT11.keep hE14.1 fun b hb => hE14.2 b (by have := hT11.2.1; omega)
            have hmv14 : RB (H'.next + 1) H14 v2 1 (strL (ms ++ [s3])) := by
              have := hS14.rb (B := H'.next + 1) (by omega) ((strL_all (ms ++ [s3])) |> fun h => by simpa [strL] using h)
              simpa [strL] using this
            have ho2 := hmv14.rsl.one
            have hc2 := hmv14.rsl.cells
            have hst := store_cell (o := 1) hb714 ho2 (by simp) (by omega)
            refine stp (And.intro @hb711 (And.intro @ha1 (And.intro @hH13 (And.intro @ha2 (And.intro @hc2 (And.intro @hst (succ_w (k := ms.length) (by omega)))))))) ?_
            have hlen : (ms ++ [s3]).length = ms.length + 1 := by simp
            refine loopR_normal (3 - (ms.length + 1)) (by omega) ⟨rfl, (hF11.trans hE14.fr2).put _, hM14.put (by omega) _, ms ++ [s3], v2, by rw [hlen], by omega, (hmv14.keep (by omega) (.inl (by omega)) ((Fr2.refl kb H'.next H14).put _)).mono (by omega), fun s hs => ?_, get_put_self _ _, by rw [hlen]; exact (frame_in (by rfl) (trivial))⟩
            · rcases List.mem_append.1 hs with h | h
              · exact hmm s h
              · rw [List.mem_singleton.1 h]; exact hs3
          · refine stp trivial ?_
            have hF6' : Fr2 kb H'.next H' H6 := hEs.fr2.trans hF6
            have hG6 := hG.keep (by omega) (.inr (Nat.le_refl _)) hF6'
            have hp36 := hF6'.old (by omega) (show H.next + 1 ≠ kb by omega) (by omega) hp3'
            have hmv6 : RB (H.next + 3) H6 mv 1 (strL ms) := hmv.keep (by omega) (.inl (by omega)) (hst3.gs'.fr2 : Fr2 kb kb H5 H6)
            have hT6 := hst3.2.2
            have hle6 := hF6'.1
            have hmo := hmv6.rsl.one
            have hmb := hmv6.rsl.bq
            have hgb := hG6.sl.rsl.bq
            have hgo := hG6.sl.rsl.one
            have hbl : beqList [.str nm, mv] [.str nm, mv] = true := bl_gr (nm, mv, ms) hmv6.rsl
            have hba : beqS (.agg [.str nm, mv]) (.agg [.str nm, mv]) = true := hbl
            have hun : [SV.str nm, mv].all (SV.under H6.next) = true := by rw [List.all_cons, List.all_cons, hmv6.rsl.under (Nat.le_refl _)]; rfl
            obtain ⟨H7, hH7⟩ : ∃ H7, H6.push (.row [.str nm, mv] 109 true false 0) = H7 := ⟨_, rfl⟩
            have hE7 : Ext H6 H7 := by rw [← hH7]; exact (Ext.refl _).push _
            have hn7 : H7.next = H6.next + 1 := by rw [← hH7]; rfl
            have hlit : H7.get H6.next = some (.row [.str nm, mv] 109 true false 0) := by rw [← hH7]; exact get_push_self _
            obtain ⟨v1, H8, v2, H9, ha1, ha2, hE8, hE9, hRB⟩ := app_both (hG6.sl.ext hE7).rsl (gr_one hG6) (by rw [List.length_map, hG6.len]; omega) (x := [.str nm, mv]) rfl (by rw [List.all_cons, List.all_cons, hmo]; rfl) hlit (by omega) 109 40 (by omega)
            have hp37 := (hE7.2 _ (by omega)).trans hp36
            have hp39 := (hE9.2 _ (by omega)).trans hp37
            have hp38 := (hE8.2 _ (by omega)).trans hp37
            have hb77 := (hE7.2 H'.next (by omega)).trans hb76
            have hb78 := (hE8.2 H'.next (by omega)).trans hb77
            have hlit8 := (hE8.2 H6.next (by omega)).trans hlit
            have hlit9 := (hE9.2 H6.next (by omega)).trans hlit
            have ho2 := hRB.rsl.one
            have hc2 := hRB.rsl.cells
            have hst := store_cell (o := 0) hp39 ho2 (by simp) (by omega)
            refine EC_drawH ?_
            refine hdp (And.intro @hp36 (And.intro @hb76 @hH7)) ?_
            simp only [unh, List.map_cons, List.map_nil]
            refine stp (And.intro @hp37 (And.intro @ha1 (And.intro @hb78 (And.intro @ha2 (And.intro @hc2 @hst))))) ?_
            refine ⟨?_, fun h => (by cases h), _, (by simp only [List.getLast?_cons_cons, List.getLast?_singleton]; first | done | with_reducible rfl), ?_⟩
            · exact rdp (And.intro @hp37 (And.intro @hb77 (And.intro @hb78 (And.intro @hlit (And.intro @hlit8 (And.intro @hlit9 (And.intro @hmb (And.intro @hgb (And.intro @hbl (And.intro @hba @hun))))))))))
            · refine stp (succ_w (k := k) (by omega)) ?_
              refine loopR_normal (nn - (k + 1)) (by omega) ⟨rfl, ?_, ?_, G ++ [(nm, mv, ms)], v2, k + 1, rfl, by omega, ?_, get_put_self _ _, (frame_in (by rfl) (trivial))⟩
              · have hE69 : Ext H6 H9 := hE7.trans hE9
                exact (hF.trans (((hF6'.trans hE69.fr2) : Fr2 kb H'.next H' H9).other (p := H.next + 1) fun b hb _ => by omega)).put _
              · have hE69 : Ext H6 H9 := hE7.trans hE9
                exact (hT6.keep hE69.1 fun b hb => hE69.2 b (by omega)).put (by omega) _
              · have hE69 : Ext H6 H9 := hE7.trans hE9
                have hFp : Fr2 kb (H.next + 1) H9 (H9.put (H.next + 1) (.row [v2, .nils, .nils] 30 true false 0)) := (Fr2.refl ..).put _
                refine ⟨?_, fun g hg => ?_, ?_, by simp [hG.len]⟩
                · have := (hRB.mono (B' := H.next + 3) (by omega)).keep (by omega) (.inl (by omega)) hFp
                  simpa [grC] using this
                · rcases List.mem_append.1 hg with h | h
                  · exact ⟨((hG6.at_ g h).sl.ext hE69).keep (by omega) (.inl (by omega)) hFp, (hG6.at_ g h).len, (hG6.at_ g h).mem⟩
                  · rw [List.mem_singleton.1 h]
                    exact ⟨(hmv6.ext hE69).keep (by omega) (.inl (by omega)) hFp, by show ms.length ≤ 3; omega, hmm⟩
                · rw [List.map_append, hG.nm, hnmt]; rfl
        · exact ⟨rfl, Fr2.refl .., hTs, [], .nils, rfl, by decide, RB.nil, (fun s h => by cases h), hb7, (frame_in (by rfl) (trivial))⟩
      · have hkn : k = nn := by omega
        subst hkn
        refine EC_exit (seqR_exit (loopR_exit (blockR_same (seqR_normal ?_))))
        refine EC_mono (funR_mono fun v H7 h => ?_) (pol_tail (M := M) (P := H.next) hkM hMn hT' (by have := hF.1; omega) (by omega) hG hb4' (hF.old (by omega) (by omega) (by omega) hp2) hp3' (by omega) hlf (by exact (frame_in (by rfl) (trivial))))
        obtain ⟨⟨h1, h2, h3⟩, gv', rv, dv, G', R, E, rfl, hp⟩ := h
        exact ⟨⟨by have := hF.1; omega, fun b hb hbk => by rw [h2 b hb hbk, hF.2 b (by omega) hbk (by omega), hst.2.1 b hbk]; exact hE0.2 b hb, h3⟩, k, gv', rv, dv, G', R, E, rfl, hp⟩
    · exact ⟨rfl, Fr2.refl .., hT1, [], .nils, 0, rfl, by omega, ⟨RB.nil, (fun g hg => by cases hg), rfl, rfl⟩, hp3, (frame_in (by rfl) (trivial))⟩
  exact key
end
end Go.Sh
end
