/-
  Merges: Join. (frame style z)
-/
import Derived.Test.YtpcpmplkblbpbaaGreatDoorShD2
set_option linter.all false
section
namespace Go.Sh
set_option maxRecDepth 10000
set_option linter.all false
def gapF (i last : Nat) (s : List Nat) : List Nat := if i < last ∧ s ≠ [] ∧ ¬ s.drop (s.length - 1) = [10] then [10] else []
def lastF : List Un → Nat → Nat → Nat
  | [], _, r => r
  | u :: L, i, r => lastF L (i + 1) (if u.text ≠ [] then i else r)
theorem lastF_snoc (u : Un) : ∀ (L : List Un) (i r : Nat), lastF (L ++ [u]) i r = if u.text ≠ [] then i + L.length else lastF L i r
  | [], i, r => by simp [lastF]
  | x :: L, i, r => by
    rw [List.cons_append, lastF, lastF_snoc u L, lastF]
    by_cases h : u.text = []
    · simp [h]
    · simp [h]
      omega
def joinF (last : Nat) : List Un → Nat → List Nat
  | [], _ => []
  | u :: L, i => u.text ++ gapF i last u.text ++ joinF last L (i + 1)
theorem joinF_snoc (last : Nat) (u : Un) : ∀ (L : List Un) (i : Nat), joinF last (L ++ [u]) i = joinF last L i ++ (u.text ++ gapF (i + L.length) last u.text)
  | [], i => by simp [joinF]
  | x :: L, i => by
    rw [List.cons_append, joinF, joinF_snoc last u L, joinF]
    have : i + 1 + L.length = i + (x :: L).length := by rw [List.length_cons]; omega
    rw [this]
    simp
theorem gapF_len (i last : Nat) (s : List Nat) : (gapF i last s).length ≤ 1 := by
  unfold gapF
  split <;> simp
theorem joinF_len {k last : Nat} : ∀ {L : List Un} {i : Nat}, (∀ u ∈ L, u.text.length ≤ k) → (joinF last L i).length ≤ L.length * (k + 1)
  | [], i, _ => by simp [joinF]
  | u :: L, i, h => by
    have ih := joinF_len (last := last) (L := L) (i := i + 1) fun x hx => h x (List.mem_cons_of_mem _ hx)
    have h1 := h u (List.mem_cons_self ..)
    have h2 := gapF_len i last u.text
    rw [joinF, List.length_append, List.length_append, List.length_cons, Nat.add_mul]
    omega
def joinU (L : List Un) : List Nat := joinF (lastF L 0 0) L 0
theorem Bd.ext {B0 bb : Nat} {H H' : Heap} {acc : List Nat} (h : Bd B0 H bb acc) (hE : Ext H H') (hb : bb < H.next) : Bd B0 H' bb acc := by
  rcases h with ⟨h0, h | h⟩ | ⟨h0, sb, h1, h2, h3, h, h4⟩
  · exact .inl ⟨h0, .inl (by rw [hE.2 bb hb]; exact h)⟩
  · exact .inl ⟨h0, .inr (by rw [hE.2 bb hb]; exact h)⟩
  · exact .inr ⟨h0, sb, h1, Nat.lt_of_lt_of_le h2 hE.1, h3, by rw [hE.2 bb hb]; exact h, by rw [hE.2 sb h2]; exact h4⟩
@[reducible] def J1 (b : Nat) (c : Option Nat) (L : List Un) (H0 : Heap) (m : Nat) (ts : T) (D : DS) (H' : Heap) : Prop :=
  D = [] ∧ Ext H0 H' ∧ ∃ i : Nat, m = L.length - i ∧ i ≤ L.length ∧
    ∃ z : Nat → SV, ts = ((.slice b 0 L.length c 3) :: z 1 :: z 2 :: (.int .i64 ((lastF (L.take i) 0 0 : Nat) : Int)) :: z 4 :: z 5 :: z 6 :: z 7 :: z 8 :: (.slice b 0 L.length c 3) :: (.int .i64 (L.length : Int)) :: (.int .i64 (i : Int)) :: z 12 :: z 13 :: z 14 :: z 15 :: z 16 :: z 17 :: z 18 :: z 19 :: z 20 :: z 21 :: z 22 :: z 23 :: z 24 :: z 25 :: z 26 :: z 27 :: z 28 :: z 29 :: z 30 :: z 31 :: z 32 :: z 33 :: z 34 :: z 35 :: z 36 :: z 37 :: z 38 :: z 39 :: z 40 :: z 41 :: z 42 :: z 43 :: z 44 :: z 45 :: z 46 :: z 47 :: [] : T) ∧ (True)
@[reducible] def J2 (b : Nat) (c : Option Nat) (L : List Un) (last bb : Nat) (H0 : Heap) (m : Nat) (ts : T) (D : DS) (H' : Heap) : Prop :=
  D = [] ∧ H0.next ≤ H'.next ∧ (∀ k, k < bb → H'.get k = H0.get k) ∧ ∃ i : Nat, m = L.length - i ∧ i ≤ L.length ∧ Bd (bb + 1) H' bb (joinF last (L.take i) 0) ∧
    ∃ z : Nat → SV, ts = (z 0 :: z 1 :: z 2 :: (.int .i64 (last : Int)) :: z 4 :: z 5 :: (.ptr bb 0) :: z 7 :: z 8 :: z 9 :: z 10 :: z 11 :: z 12 :: z 13 :: z 14 :: z 15 :: z 16 :: z 17 :: z 18 :: z 19 :: z 20 :: (.slice b 0 L.length c 3) :: (.int .i64 (L.length : Int)) :: (.int .i64 (i : Int)) :: z 24 :: z 25 :: z 26 :: z 27 :: z 28 :: z 29 :: z 30 :: z 31 :: z 32 :: z 33 :: z 34 :: z 35 :: z 36 :: z 37 :: z 38 :: z 39 :: z 40 :: z 41 :: z 42 :: z 43 :: z 44 :: z 45 :: z 46 :: z 47 :: [] : T) ∧ (True)
theorem tab18' : tabT 18 = some (.code c18) := by kernel_rfl
section
variable {lf n : Nat} {H : Heap}
theorem join_ok {B0 : Nat} {v : SV} {L : List Un} (hv : Su B0 H v L) (hL : L.length < 100) (hT : ∀ u ∈ L, u.text.length ≤ 8192) (hB : ∀ u ∈ L, Bts u.text) (hn : 3 ≤ n) (hlf : L.length < lf) :
    ∃ H', callS tabT lf n 18 [v] H = some (.str (joinU L), H') ∧ Ext H H' := by
  obtain ⟨n, rfl⟩ : ∃ m, n = m + 1 := ⟨n - 1, by omega⟩
  obtain ⟨hne, b, c, ex, hb0, hb, rfl, hc, hrow⟩ := hv
  have key : ∃ w H', callS tabT lf (n + 1) 18 [.slice b 0 L.length c 3] H = some (w, H') ∧ w = .str (joinU L) ∧ Ext H H' := by
    have hat := fun (j : Nat) (y : Un) (hj : L[j]? = some y) => rowL_at (z := 3) (i := j) (e := 51) (ex := ex) (ro := false) (frz := 0) (unC_all L) (by rw [List.getElem?_map, hj]; rfl : (L.map unC)[j]? = some (unC y))
    have hfl : (L.map unC).flatten.length = L.length * 3 := by rw [flatten_len (unC_all _), List.length_map]
    obtain ⟨cs, hcs⟩ : ∃ cs, (L.map unC).flatten = cs := ⟨_, rfl⟩
    rw [hcs] at hrow hat hfl
    have htake : ∀ i y, L[i]? = some y → L.take (i + 1) = L.take i ++ [y] := fun i y hy => by rw [List.take_succ, hy]; rfl
    refine call_code tab18 (by simp only [c18, go_sem, List.reduceReplicate, Nat.reduceAdd, Nat.reduceSub]; exact rfl) ?_
    simp only [c18]
    refine stp trivial ?_
    refine EC_loop (I := J1 b c L H) ?_ L.length ?_ hlf
    · rintro m ts D H1 ⟨rfl, hE, i, rfl, hi, ⟨z, rfl, -⟩⟩
      refine stp trivial ?_
      refine cst trivial (fun hc => ?_) (fun hc => ?_) <;> try simp only [decide_eq_true_eq, decide_eq_false_iff_not, not_true_eq_false, not_false_eq_true, Int.not_lt, Int.not_le, ge_iff_le, gt_iff_lt] at hc
      · obtain ⟨y, hy⟩ : ∃ y, L[i]? = some y := ⟨_, List.getElem?_eq_getElem (by omega)⟩
        have q := hat i y hy
        have hrow1 : H1.get b = some (.row cs 51 ex false 0) := by rw [hE.2 b hb]; exact hrow
        obtain ⟨H2, hH2⟩ : ∃ H2, (H1.push (.row [.str [], .int .i64 ((0 : Nat) : Int), .str []] 51 true false 0)).put H1.next (.row (unC y) 51 true false 0) = H2 := ⟨_, rfl⟩
        have hp : H2.get H1.next = some (.row (unC y) 51 true false 0) := by rw [← hH2]; exact get_put_self _ _
        have hE2 : Ext H1 H2 := by rw [← hH2]; exact ((Ext.refl _).push _).put (Nat.le_refl _) _
        simp only [unC] at q hp hH2
        have hlt : (L.take i).length = i := by rw [List.length_take]; omega
        have hsn := lastF_snoc y (L.take i) 0 0
        rw [← htake i y hy, hlt, Nat.zero_add] at hsn
        by_cases h0 : y.text = []
        · have d0 : decide (y.text = []) = true := decide_eq_true h0
          have d1 : decide (y.text ≠ []) = false := by simp [h0]
          rw [if_neg (by simpa using h0)] at hsn
          refine stp (And.intro @hrow1 (And.intro @q (And.intro @hH2 (And.intro @hp @d1)))) ?_
          refine cstE @d1 ?_
          refine stp trivial ?_
          refine loopR_normal (L.length - (i + 1)) (by omega) ⟨rfl, hE.trans hE2, i + 1, rfl, by omega, ?_⟩
          rw [hsn]
          exact (frame_in (by rfl) (trivial))
        · have d0 : decide (y.text = []) = false := decide_eq_false h0
          have d1 : decide (y.text ≠ []) = true := by simp [h0]
          rw [if_pos h0] at hsn
          refine stp (And.intro @hrow1 (And.intro @q (And.intro @hH2 (And.intro @hp @d1)))) ?_
          refine cstT @d1 ?_
          refine stp trivial ?_
          refine loopR_normal (L.length - (i + 1)) (by omega) ⟨rfl, hE.trans hE2, i + 1, rfl, by omega, ?_⟩
          rw [hsn]
          exact (frame_in (by rfl) (trivial))
      · have hie : i = L.length := by omega
        subst hie
        rw [List.take_length]
        obtain ⟨last, hlast⟩ : ∃ last, lastF L 0 0 = last := ⟨_, rfl⟩
        rw [hlast]
        have hn1 : H.next ≤ H1.next := hE.1
        obtain ⟨H2, hH2⟩ : ∃ H2, H1.push (.row [.nilp, .nils] 64 true false 0) = H2 := ⟨_, rfl⟩
        have hb2 : H2.get H1.next = some (.row [.nilp, .nils] 64 true false 0) := by rw [← hH2]; exact get_push_self _
        have hE2 : Ext H1 H2 := by rw [← hH2]; exact (Ext.refl _).push _
        have hn2 : H2.next = H1.next + 1 := by rw [← hH2]; rfl
        refine stp @hH2 ?_
        refine EC_loop (I := J2 b c L last H1.next H2) ?_ L.length ?_ hlf
        · rintro m ts D H3 ⟨rfl, hn3, hk3, i, rfl, hi, hBd, ⟨z, rfl, -⟩⟩
          refine stp trivial ?_
          refine cst trivial (fun hc => ?_) (fun hc => ?_) <;> try simp only [decide_eq_true_eq, decide_eq_false_iff_not, not_true_eq_false, not_false_eq_true, Int.not_lt, Int.not_le, ge_iff_le, gt_iff_lt] at hc
          · obtain ⟨y, hy⟩ : ∃ y, L[i]? = some y := ⟨_, List.getElem?_eq_getElem (by omega)⟩
            have q := hat i y hy
            have hym := List.mem_of_getElem? hy
            have hyl := hT y hym
            have hrow3 : H3.get b = some (.row cs 51 ex false 0) := by rw [hk3 b (by omega), hE2.2 b (by omega), hE.2 b hb]; exact hrow
            obtain ⟨H4, hH4⟩ : ∃ H4, (H3.push (.row [.str [], .int .i64 ((0 : Nat) : Int), .str []] 51 true false 0)).put H3.next (.row (unC y) 51 true false 0) = H4 := ⟨_, rfl⟩
            have hp : H4.get H3.next = some (.row (unC y) 51 true false 0) := by rw [← hH4]; exact get_put_self _ _
            have hE4 : Ext H3 H4 := by rw [← hH4]; exact ((Ext.refl _).push _).put (Nat.le_refl _) _
            have hn4 : H4.next = H3.next + 1 := by rw [← hH4]; rfl
            have hlt : (L.take i).length = i := by rw [List.length_take]; omega
            have hjl := joinF_len (last := last) (L := L.take i) (i := 0) (k := 8192) fun u hu => hT u (List.mem_of_mem_take hu)
            rw [hlt] at hjl
            obtain ⟨w, H5, hws, hBd5, hn5, hF5⟩ := ws_ok (lf := lf) (n := n) (s := y.text) (hBd.ext hE4 (by omega)) (by omega) (by omega) (by omega) (by omega)
            have hp5 : H5.get H3.next = some (.row (unC y) 51 true false 0) := by
              rw [hF5 H3.next (by omega) (by omega) (.inr fun cs h => by rw [hp] at h; cases h)]
              exact hp
            have hk5 : ∀ k, k < H1.next → H5.get k = H2.get k := fun k hk => by
              rw [hF5 k (by omega) (by omega) (.inl (by omega)), hE4.2 k (by omega)]
              exact hk3 k hk
            have hjs := joinF_snoc last y (L.take i) 0
            rw [← htake i y hy, hlt, Nat.zero_add] at hjs
            simp only [unC] at q hp hH4 hp5
            refine stp (And.intro @hrow3 (And.intro @q (And.intro @hH4 @hp))) ?_
            refine kst trivial hws ?_
            by_cases h1 : i < last
            · have d1 : decide ((i : Int) < (last : Int)) = true := by simp only [decide_eq_true_eq]; omega
              by_cases h2 : y.text = []
              · have d2 : decide (y.text = []) = true := decide_eq_true h2
                have d3 : decide (y.text ≠ []) = false := by simp [h2]
                refine stp (And.intro @d1 (And.intro @hp5 @d3)) ?_
                refine cstE (And.intro @d1 @d3) ?_
                refine stp trivial ?_
                have hg : gapF i last y.text = [] := if_neg fun h => h.2.1 h2
                rw [hg, List.append_nil] at hjs
                refine loopR_normal (L.length - (i + 1)) (by omega) ⟨rfl, by omega, hk5, i + 1, rfl, by omega, ?_, ?_⟩
                · rw [hjs]; exact hBd5
                · exact (frame_in (by rfl) (trivial))
              · have d2 : decide (y.text = []) = false := decide_eq_false h2
                have d3 : decide (y.text ≠ []) = true := by simp [h2]
                have hsf := hasSuffix_ok (lf := lf) (n := n) (H := H5) (c := 10) h2 (by omega) (by omega)
                refine stp (And.intro @d1 (And.intro @hp5 @d3)) ?_
                refine kst trivial hsf ?_
                by_cases h3 : y.text.drop (y.text.length - 1) = [10]
                · have d4 : decide (y.text.drop (y.text.length - 1) = [10]) = true := decide_eq_true h3
                  have d5 : (!true) = false := rfl
                  refine stp (And.intro @d4 @d5) ?_
                  refine cstE (And.intro @d4 @d5) ?_
                  refine stp trivial ?_
                  have hg : gapF i last y.text = [] := if_neg fun h => h.2.2 h3
                  rw [hg, List.append_nil] at hjs
                  refine loopR_normal (L.length - (i + 1)) (by omega) ⟨rfl, by omega, hk5, i + 1, rfl, by omega, ?_, ?_⟩
                  · rw [hjs]; exact hBd5
                  · exact (frame_in (by rfl) (trivial))
                · have d4 : decide (y.text.drop (y.text.length - 1) = [10]) = false := decide_eq_false h3
                  have d5 : (!false) = true := rfl
                  obtain ⟨w6, H6, hwb, hBd6, hn6, hF6⟩ := wb_ok (lf := lf) (n := n) (c := 10) hBd5 (by omega) (by omega) (by rw [List.length_append]; omega) (by omega)
                  refine stp (And.intro @d4 @d5) ?_
                  refine cstT (And.intro @d4 @d5) ?_
                  refine stp trivial ?_
                  refine kst trivial hwb ?_
                  refine stp trivial ?_
                  have hg : gapF i last y.text = [10] := if_pos ⟨h1, h2, h3⟩
                  rw [hg, ← List.append_assoc] at hjs
                  refine loopR_normal (L.length - (i + 1)) (by omega) ⟨rfl, by omega, fun k hk => ?_, i + 1, rfl, by omega, ?_, ?_⟩
                  · rw [hF6 k (by omega) (by omega) (.inl (by omega))]
                    exact hk5 k hk
                  · rw [hjs]; exact hBd6
                  · exact (frame_in (by rfl) (trivial))
            · have d1 : decide ((i : Int) < (last : Int)) = false := by simp only [decide_eq_false_iff_not]; omega
              refine stp @d1 ?_
              refine cstE @d1 ?_
              refine stp trivial ?_
              have hg : gapF i last y.text = [] := if_neg fun h => h1 h.1
              rw [hg, List.append_nil] at hjs
              refine loopR_normal (L.length - (i + 1)) (by omega) ⟨rfl, by omega, hk5, i + 1, rfl, by omega, ?_, ?_⟩
              · rw [hjs]; exact hBd5
              · exact (frame_in (by rfl) (trivial))
          · have hie : i = L.length := by omega
            subst hie
            rw [List.take_length] at hBd
            have hjl := joinF_len (last := last) (L := L) (i := 0) (k := 8192) hT
            have hbts : Bts (joinF last L 0) := by
              have : ∀ (M : List Un) (i : Nat), (∀ u ∈ M, Bts u.text) → Bts (joinF last M i) := by
                intro M
                induction M with
                | nil => intro i _ x hx; simp [joinF] at hx
                | cons u M ih =>
                  intro i hM x hx
                  rw [joinF, List.mem_append, List.mem_append] at hx
                  rcases hx with (hx | hx) | hx
                  · exact hM u (List.mem_cons_self ..) x hx
                  · unfold gapF at hx
                    split at hx
                    · simp at hx; omega
                    · simp at hx
                  · exact ih (i + 1) (fun u hu => hM u (List.mem_cons_of_mem _ hu)) x hx
              exact this L 0 hB
            obtain ⟨H4, hst, hn4, hk4⟩ := str_ok (lf := lf) (n := n) hBd hbts (by omega) (by omega) (by omega)
            refine stp trivial ?_
            refine kst trivial hst ?_
            refine stp trivial ?_
            refine ret1 trivial ?_
            refine ⟨by rw [joinU, hlast], by omega, fun k hk => ?_⟩
            rw [hk4 k (by omega), hk3 k (by omega), hE2.2 k (by omega), hE.2 k hk]
        · refine ⟨rfl, by omega, fun k hk => rfl, 0, by omega, by omega, .inl ⟨rfl, .inl hb2⟩, ?_⟩
          exact (frame_in (by rfl) (trivial))
    · refine ⟨rfl, Ext.refl _, 0, by omega, by omega, ?_⟩
      exact (frame_in (by rfl) (trivial))
  obtain ⟨w, H', h, rfl, hE⟩ := key
  exact ⟨H', h, hE⟩
end
end Go.Sh
end
