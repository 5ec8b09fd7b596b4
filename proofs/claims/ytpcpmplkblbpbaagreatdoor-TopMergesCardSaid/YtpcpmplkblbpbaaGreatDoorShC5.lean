/-
  Symbolic reckoning: section.Sections, the walk. (frame style z)
-/
import Derived.Test.YtpcpmplkblbpbaaGreatDoorShC4
set_option linter.all false
section
namespace Go.Sh
set_option maxRecDepth 10000
set_option linter.all false
def gd : List SV → Nat → SV
  | [], _ => .bool false
  | a :: _, 0 => a
  | _ :: l, n + 1 => gd l n
theorem frame_in {ts : T} {f : (Nat → SV) → T} {C : Prop} (h : ts = f (gd ts)) (c : C) : ∃ z, ts = f z ∧ C := ⟨gd ts, h, c⟩
theorem Trues.keep {H H' : Heap} {v : SV} {n : Nat} (h : Trues H v n) (hE : Ext H H') : Trues H' v n := by
  obtain ⟨b, h1, h2, h3⟩ := h
  exact ⟨b, h1, Nat.lt_of_lt_of_le h2 hE.1, by rw [hE.2 b h2]; exact h3⟩
theorem true_at {n i : Nat} {e : TypeId} {ex ro : Bool} {frz : Nat} (h : i < n) : rowL (some (.row (List.replicate n (SV.bool true)) e ex ro frz)) i 1 = some [.bool true] := rowL_one (by simp [h])
structure LinesOK (s : List Nat) (ls : List (List Nat)) (last : List Nat) : Prop where
  eq : s = textL ls last
  nl : ∀ l ∈ ls, 10 ∉ l
  nlast : 10 ∉ last
@[reducible] def I6 (s : List Nat) (tv : SV) (H1 : Heap) (R : List Sec) (m : Nat) (ts : T) (D : DS) (H' : Heap) : Prop :=
  D = [] ∧ Ext H1 H' ∧ ∃ (a : Nat) (ls : List (List Nat)) (last : List Nat) (w : SV) (L : List Sec), m = s.length - a ∧ a ≤ s.length ∧ LinesOK (s.drop a) ls last ∧ L ++ headsL s.length a ls last = R ∧ L.length ≤ a ∧
    Sl H1.next 110 5 H' w (L.map secC) ∧ ∃ z : Nat → SV, ts = ((.str s) :: z 1 :: z 2 :: z 3 :: (tv) :: z 5 :: (w) :: (.int .i64 (a : Int)) :: z 8 :: z 9 :: z 10 :: z 11 :: z 12 :: z 13 :: z 14 :: z 15 :: z 16 :: z 17 :: z 18 :: z 19 :: z 20 :: z 21 :: z 22 :: z 23 :: z 24 :: z 25 :: z 26 :: z 27 :: z 28 :: z 29 :: z 30 :: z 31 :: z 32 :: z 33 :: z 34 :: z 35 :: z 36 :: z 37 :: z 38 :: z 39 :: z 40 :: z 41 :: z 42 :: z 43 :: z 44 :: z 45 :: z 46 :: z 47 :: z 48 :: z 49 :: z 50 :: z 51 :: z 52 :: z 53 :: z 54 :: z 55 :: z 56 :: z 57 :: z 58 :: z 59 :: z 60 :: z 61 :: z 62 :: z 63 :: z 64 :: z 65 :: z 66 :: z 67 :: z 68 :: z 69 :: z 70 :: z 71 :: z 72 :: z 73 :: z 74 :: z 75 :: z 76 :: z 77 :: z 78 :: z 79 :: z 80 :: z 81 :: z 82 :: z 83 :: z 84 :: z 85 :: z 86 :: z 87 :: z 88 :: z 89 :: z 90 :: z 91 :: z 92 :: z 93 :: z 94 :: z 95 :: z 96 :: z 97 :: z 98 :: z 99 :: z 100 :: z 101 :: z 102 :: z 103 :: z 104 :: z 105 :: z 106 :: z 107 :: z 108 :: z 109 :: z 110 :: z 111 :: z 112 :: z 113 :: z 114 :: z 115 :: z 116 :: z 117 :: z 118 :: [] : T) ∧ (True)
@[reducible] def J6 (s : List Nat) (tv w : SV) (a e nx : Nat) (H1 : Heap) (m : Nat) (ts : T) (D : DS) (H' : Heap) : Prop :=
  D = [] ∧ H' = H1 ∧ ∃ i : Nat, m = e - i ∧ i ≤ e ∧ ∃ z : Nat → SV, ts = ((.str s) :: z 1 :: z 2 :: z 3 :: (tv) :: z 5 :: (w) :: (.int .i64 (a : Int)) :: (.int .i64 (e : Int)) :: (.int .i64 (nx : Int)) :: z 10 :: (.bool true) :: (.int .i64 (i : Int)) :: z 13 :: z 14 :: z 15 :: z 16 :: z 17 :: z 18 :: z 19 :: z 20 :: z 21 :: z 22 :: z 23 :: z 24 :: z 25 :: z 26 :: z 27 :: z 28 :: z 29 :: z 30 :: z 31 :: z 32 :: z 33 :: z 34 :: z 35 :: z 36 :: z 37 :: z 38 :: z 39 :: z 40 :: z 41 :: z 42 :: z 43 :: z 44 :: z 45 :: z 46 :: z 47 :: z 48 :: z 49 :: z 50 :: z 51 :: z 52 :: z 53 :: z 54 :: z 55 :: z 56 :: z 57 :: z 58 :: z 59 :: z 60 :: z 61 :: z 62 :: z 63 :: z 64 :: z 65 :: z 66 :: z 67 :: z 68 :: z 69 :: z 70 :: z 71 :: z 72 :: z 73 :: z 74 :: z 75 :: z 76 :: z 77 :: z 78 :: z 79 :: z 80 :: z 81 :: z 82 :: z 83 :: z 84 :: z 85 :: z 86 :: z 87 :: z 88 :: z 89 :: z 90 :: z 91 :: z 92 :: z 93 :: z 94 :: z 95 :: z 96 :: z 97 :: z 98 :: z 99 :: z 100 :: z 101 :: z 102 :: z 103 :: z 104 :: z 105 :: z 106 :: z 107 :: z 108 :: z 109 :: z 110 :: z 111 :: z 112 :: z 113 :: z 114 :: z 115 :: z 116 :: z 117 :: z 118 :: [] : T) ∧ (True)
section
variable {lf n : Nat} {H : Heap}
def c6a : SCode := (.seq (.seq (.reg [oy 26 7, oy 27 0, ox 28 (.lens (.t 27)), ox 29 (.bin .lss (.t 26) (.t 28))]) (.cond (.t 29) .skip (.exit 0))) (.block 1 (.seq (.reg [oy 30 0, ox 31 (.lens (.t 30)), oy 8 31]) (.seq (.reg [oy 32 0, ox 33 (.lens (.t 32)), oy 9 33]) (.seq (.seq (.reg [oy 34 0, oy 35 7, ox 36 (.sls (some (.t 35)) none (.t 34)), ⟨some 37, (.call 53 [(.t 36), (.c (.int .u8 (.ofNat 10)))]), none⟩, oy 10 37]) (.seq (.reg [oy 38 10, ox 39 (.bin .geq (.t 38) (.c (.int .i64 (.ofNat 0))))]) (.cond (.t 39) (.reg [oy 40 7, oy 41 10, ox 42 (.bin .add (.t 40) (.t 41)), oy 43 7, oy 44 10, ox 45 (.bin .add (.t 43) (.t 44)), ox 46 (.bin .add (.t 45) (.c (.int .i64 (.ofNat 1)))), oy 8 42, oy 9 46]) .skip))) (.seq (.reg [ox 11 (.mv (.c (.bool true)))]) (.seq (.seq (.reg [oy 47 7, oy 12 47]) (.block 2 (.loop (.seq (.seq (.reg [oy 48 12, oy 49 8, ox 50 (.bin .lss (.t 48) (.t 49))]) (.cond (.t 50) .skip (.exit 2))) (.seq (.block 3 (.reg [oy 53 11, oy 54 53, ⟨some 55, (.op (.mv (.t 4))), (some (54, true))⟩, ⟨some 56, (.op (.mv (.t 12))), (some (54, true))⟩, ⟨some 57, (.op (.iad 1 (.t 55) (.t 56))), (some (54, true))⟩, ⟨some 58, (.op (.load false 1 (.t 57))), (some (54, true))⟩, ox 59 (.pick (.t 54) (.t 58) (.c (.bool false))), oy 11 59])) (.reg [oy 51 12, ox 52 (.bin .add (.t 51) (.c (.int .i64 (.ofNat 1)))), oy 12 52])))))) (.seq (.seq (.reg [oy 61 0, oy 62 7, oy 63 8, ox 64 (.sls (some (.t 62)) (some (.t 63)) (.t 61)), ⟨some 65, (.call 54 [(.t 64)]), none⟩, oy 60 65, ox 66 (.ext 0 (.t 60)), ox 67 (.ext 1 (.t 60)), ox 68 (.ext 2 (.t 60)), oy 13 66, oy 14 67, oy 15 68]) (.seq (.reg [oy 69 15, oy 70 69, ⟨some 71, (.op (.mv (.t 11))), (some (70, true))⟩, ox 72 (.pick (.t 70) (.t 71) (.c (.bool false)))]) (.cond (.t 72) (.reg [oy 73 6, oy 74 13, oy 75 14, oy 76 7, oy 77 9, oy 78 0, ox 79 (.lens (.t 78)), ox 80 (.build [(.int .i64 (.ofNat 0)), (.str []), (.int .i64 (.ofNat 0)), (.int .i64 (.ofNat 0)), (.int .i64 (.ofNat 0))] [(0, (1, (.t 74))), (1, (1, (.t 75))), (2, (1, (.t 76))), (3, (1, (.t 77))), (4, (1, (.t 79)))]), ox 81 (.bslice 110 5 1 [(.int .i64 (.ofNat 0)), (.str []), (.int .i64 (.ofNat 0)), (.int .i64 (.ofNat 0)), (.int .i64 (.ofNat 0))] [(0, (5, (.t 80)))]), ox 82 (.app false 110 5 48 (.t 73) (.t 81)), oy 6 82]) .skip))) (.reg [oy 83 9, oy 7 83])))))))))
theorem heads_ok {s : List Nat} {tv : SV} {H1 : Heap} {R : List Sec} (hs : Bts s) (hlen : s.length ≤ 8192) (hn : 5 ≤ n) (hlf : s.length + 2 < lf) (hT : Trues H1 tv s.length) {Q : SExit → T → DS → Heap → Prop}
    (hend : ∀ (w : SV) (H' : Heap) (ts : T), Ext H1 H' → Sl H1.next 110 5 H' w (R.map secC) → R.length ≤ s.length → (∃ z : Nat → SV, ts = ((.str s) :: z 1 :: z 2 :: z 3 :: (tv) :: z 5 :: (w) :: (.int .i64 (s.length : Int)) :: z 8 :: z 9 :: z 10 :: z 11 :: z 12 :: z 13 :: z 14 :: z 15 :: z 16 :: z 17 :: z 18 :: z 19 :: z 20 :: z 21 :: z 22 :: z 23 :: z 24 :: z 25 :: z 26 :: z 27 :: z 28 :: z 29 :: z 30 :: z 31 :: z 32 :: z 33 :: z 34 :: z 35 :: z 36 :: z 37 :: z 38 :: z 39 :: z 40 :: z 41 :: z 42 :: z 43 :: z 44 :: z 45 :: z 46 :: z 47 :: z 48 :: z 49 :: z 50 :: z 51 :: z 52 :: z 53 :: z 54 :: z 55 :: z 56 :: z 57 :: z 58 :: z 59 :: z 60 :: z 61 :: z 62 :: z 63 :: z 64 :: z 65 :: z 66 :: z 67 :: z 68 :: z 69 :: z 70 :: z 71 :: z 72 :: z 73 :: z 74 :: z 75 :: z 76 :: z 77 :: z 78 :: z 79 :: z 80 :: z 81 :: z 82 :: z 83 :: z 84 :: z 85 :: z 86 :: z 87 :: z 88 :: z 89 :: z 90 :: z 91 :: z 92 :: z 93 :: z 94 :: z 95 :: z 96 :: z 97 :: z 98 :: z 99 :: z 100 :: z 101 :: z 102 :: z 103 :: z 104 :: z 105 :: z 106 :: z 107 :: z 108 :: z 109 :: z 110 :: z 111 :: z 112 :: z 113 :: z 114 :: z 115 :: z 116 :: z 117 :: z 118 :: [] : T) ∧ (True)) → Q (.exit 0) ts [] H') :
    ∀ m ts D H', I6 s tv H1 R m ts D H' → EC (callS tabT lf n) lf c6a ts D H' (loopR (I6 s tv H1 R) m Q) := by
  rintro m ts D H' ⟨rfl, hE, a, ls, last, w, L, rfl, ha, hL, hR, hLa, hsl, ⟨z, rfl, -⟩⟩
  obtain ⟨tb, rfl, htb, htrow⟩ := hT.keep hE
  unfold c6a
  refine stp trivial ?_
  refine cst trivial (fun hc => ?_) (fun hc => ?_) <;> try simp only [decide_eq_true_eq, decide_eq_false_iff_not, not_true_eq_false, not_false_eq_true, Int.not_lt, Int.not_le, ge_iff_le, gt_iff_lt] at hc
  · have hlt : a < s.length := by omega
    have hne : s.drop a ≠ [] := by
      intro e
      have := congrArg List.length e
      simp at this
      omega
    have htk : (s.drop a).take (s.length - a) = s.drop a := List.take_of_length_le (by simp)
    cases ls with
    | cons l ls =>
      have hdr : s.drop a = l ++ 10 :: textL ls last := by rw [hL.eq, textL_cons]
      have h10 : 10 ∉ l := hL.nl l (List.mem_cons_self ..)
      have hll : a + l.length + 1 ≤ s.length := by
        have := congrArg List.length hdr
        simp at this
        omega
      have hib := indexByte_ok (lf := lf) (n := n) (H := H') (s := s.drop a) (c := 10) (by omega) (by omega)
      rw [hdr, ixb_mid h10, Nat.zero_add] at hib
      rw [hdr] at htk
      have hnx : s.drop (a + l.length + 1) = textL ls last := by
        rw [Nat.add_assoc, ← List.drop_drop, hdr, List.drop_append, List.drop_of_length_le (by omega), show l.length + 1 - l.length = 1 by omega]
        rfl
      have hline : (s.drop a).take (a + l.length - a) = l := by
        rw [hdr, show a + l.length - a = l.length by omega, List.take_left]
      have hbl : Bts l := fun x hx => hs x (List.mem_of_mem_drop (i := a) (by rw [hdr]; simp [hx]))
      refine stp (And.intro @hdr @htk) ?_
      refine kst trivial hib ?_
      refine stp trivial ?_
      have dge : decide (((l.length : Nat) : Int) ≥ ((0 : Nat) : Int)) = true := by simp only [decide_eq_true_eq]; omega
      refine stp @dge ?_
      refine cstT @dge ?_
      refine stp trivial ?_
      refine EC_loop (I := J6 s (.slice tb 0 s.length (some s.length) 1) w a (a + l.length) (a + l.length + 1) H') ?_ ((a + l.length) - a) ?_ (by omega)
      · rintro m ts D H3 ⟨rfl, rfl, i, rfl, hi, ⟨z, rfl, -⟩⟩
        refine stp trivial ?_
        refine cst trivial (fun hc => ?_) (fun hc => ?_) <;> try simp only [decide_eq_true_eq, decide_eq_false_iff_not, not_true_eq_false, not_false_eq_true, Int.not_lt, Int.not_le, ge_iff_le, gt_iff_lt] at hc
        · have hti := true_at (e := 4) (ex := true) (ro := false) (frz := 0) (show i < s.length by omega)
          refine stp (And.intro @htrow @hti) ?_
          refine loopR_normal ((a + l.length) - (i + 1)) (by omega) ⟨rfl, rfl, i + 1, by omega, by omega, ?_⟩
          exact (frame_in (by rfl) (trivial))
        · have hie : i = (a + l.length) := by omega
          subst hie
          refine stp trivial ?_
          refine stp @hline ?_
          obtain ⟨H4, hh, hE4⟩ := heading_ok (lf := lf) (n := n) (H := H3) hbl (by omega) (by omega) (by omega)
          refine kst @hline hh ?_
          refine stp trivial ?_
          by_cases hok : (headF l).2.2 = true
          · rw [hok]
            refine stp trivial ?_
            refine cstT trivial ?_
            have hE5 := hE.trans hE4
            obtain ⟨w1, H5, happ, hs5, hE6, hn5, hold5⟩ := app_sec (H' := H4) (B0 := H1.next) ⟨(headF l).1, (headF l).2.1, a, (a + l.length + 1), s.length⟩ (hsl.keep hE4) hE5.1 hE5 (Nat.le_refl _) (by omega)
            simp only [secC] at happ
            refine stp @happ ?_
            refine loopR_normal (s.length - (a + l.length + 1)) (by omega) ⟨rfl, hE6, (a + l.length + 1), ls, last, w1, L ++ [⟨(headF l).1, (headF l).2.1, a, (a + l.length + 1), s.length⟩], rfl, by omega, ⟨hnx, fun x hx => hL.nl x (List.mem_cons_of_mem _ hx), hL.nlast⟩, ?_, by simp; omega, hs5, ?_⟩
            · rw [← hR]
              simp only [headsL, hok, if_true, List.append_assoc, List.cons_append, List.nil_append]
            · exact (frame_in (by rfl) (trivial))
          · have hok' : (headF l).2.2 = false := by simpa using hok
            rw [hok']
            refine stp trivial ?_
            refine cstE trivial ?_
            refine stp trivial ?_
            refine loopR_normal (s.length - (a + l.length + 1)) (by omega) ⟨rfl, hE.trans hE4, (a + l.length + 1), ls, last, w, L, rfl, by omega, ⟨hnx, fun x hx => hL.nl x (List.mem_cons_of_mem _ hx), hL.nlast⟩, ?_, by omega, hsl.keep hE4, ?_⟩
            · rw [← hR]
              simp only [headsL, hok', Bool.false_eq_true, if_false]
            · exact (frame_in (by rfl) (trivial))
      · refine ⟨rfl, rfl, a, rfl, by omega, ?_⟩
        exact (frame_in (by rfl) (trivial))
    | nil =>
      have hdr : s.drop a = last := by rw [hL.eq]; rfl
      have hlast : last ≠ [] := by rw [← hdr]; exact hne
      have hll : a + last.length = s.length := by
        have := congrArg List.length hdr
        simp at this
        omega
      have hib := indexByte_ok (lf := lf) (n := n) (H := H') (s := s.drop a) (c := 10) (by omega) (by omega)
      rw [hdr, ixb_no hL.nlast] at hib
      rw [hdr] at htk
      have hline : (s.drop a).take (s.length - a) = last := by rw [hdr]; exact htk
      have hbl : Bts last := fun x hx => hs x (List.mem_of_mem_drop (i := a) (by rw [hdr]; exact hx))
      refine stp (And.intro @hdr @htk) ?_
      refine kst trivial hib ?_
      refine stp trivial ?_
      have dge : decide ((-1 : Int) ≥ ((0 : Nat) : Int)) = false := by decide
      refine stp @dge ?_
      refine cstE @dge ?_
      refine stp trivial ?_
      refine EC_loop (I := J6 s (.slice tb 0 s.length (some s.length) 1) w a s.length s.length H') ?_ (s.length - a) ?_ (by omega)
      · rintro m ts D H3 ⟨rfl, rfl, i, rfl, hi, ⟨z, rfl, -⟩⟩
        refine stp trivial ?_
        refine cst trivial (fun hc => ?_) (fun hc => ?_) <;> try simp only [decide_eq_true_eq, decide_eq_false_iff_not, not_true_eq_false, not_false_eq_true, Int.not_lt, Int.not_le, ge_iff_le, gt_iff_lt] at hc
        · have hti := true_at (e := 4) (ex := true) (ro := false) (frz := 0) (show i < s.length by omega)
          refine stp (And.intro @htrow @hti) ?_
          refine loopR_normal (s.length - (i + 1)) (by omega) ⟨rfl, rfl, i + 1, by omega, by omega, ?_⟩
          exact (frame_in (by rfl) (trivial))
        · have hie : i = s.length := by omega
          subst hie
          refine stp trivial ?_
          refine stp @hline ?_
          obtain ⟨H4, hh, hE4⟩ := heading_ok (lf := lf) (n := n) (H := H3) hbl (by omega) (by omega) (by omega)
          refine kst @hline hh ?_
          refine stp trivial ?_
          by_cases hok : (headF last).2.2 = true
          · rw [hok]
            refine stp trivial ?_
            refine cstT trivial ?_
            have hE5 := hE.trans hE4
            obtain ⟨w1, H5, happ, hs5, hE6, hn5, hold5⟩ := app_sec (H' := H4) (B0 := H1.next) ⟨(headF last).1, (headF last).2.1, a, s.length, s.length⟩ (hsl.keep hE4) hE5.1 hE5 (Nat.le_refl _) (by omega)
            simp only [secC] at happ
            refine stp @happ ?_
            refine loopR_normal (s.length - s.length) (by omega) ⟨rfl, hE6, s.length, [], [], w1, L ++ [⟨(headF last).1, (headF last).2.1, a, s.length, s.length⟩], rfl, by omega, ⟨by rw [List.drop_length]; rfl, fun x hx => by simp at hx, by simp⟩, ?_, by simp; omega, hs5, ?_⟩
            · rw [← hR]
              simp only [headsL, hlast, if_false, hok, if_true, List.append_nil, hll]
            · exact (frame_in (by rfl) (trivial))
          · have hok' : (headF last).2.2 = false := by simpa using hok
            rw [hok']
            refine stp trivial ?_
            refine cstE trivial ?_
            refine stp trivial ?_
            refine loopR_normal (s.length - s.length) (by omega) ⟨rfl, hE.trans hE4, s.length, [], [], w, L, rfl, by omega, ⟨by rw [List.drop_length]; rfl, fun x hx => by simp at hx, by simp⟩, ?_, by omega, hsl.keep hE4, ?_⟩
            · rw [← hR]
              simp only [headsL, hlast, if_false, hok', Bool.false_eq_true, if_true]
            · exact (frame_in (by rfl) (trivial))
      · refine ⟨rfl, rfl, a, rfl, by omega, ?_⟩
        exact (frame_in (by rfl) (trivial))
  · have haa : a = s.length := by omega
    subst haa
    have hls : ls = [] ∧ last = [] := by
      have := hL.eq
      rw [List.drop_length] at this
      cases ls with
      | nil => exact ⟨rfl, this.symm⟩
      | cons l ls => rw [textL_cons] at this; simp at this
    obtain ⟨rfl, rfl⟩ := hls
    have hR' : L = R := by simpa [headsL] using hR
    subst hR'
    refine stp trivial ?_
    refine hend w H' _ hE hsl hLa ?_
    exact (frame_in (by rfl) (trivial))
end
end Go.Sh
end
