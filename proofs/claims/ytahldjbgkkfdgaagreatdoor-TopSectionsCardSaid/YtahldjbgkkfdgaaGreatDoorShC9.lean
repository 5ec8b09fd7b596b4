/-
  Symbolic reckoning: utf8.ValidRune, strings.IndexRune. (frame style z)
  Symbolic reckoning: strings.IndexAny, ContainsAny. (frame style z)
-/
import Derived.Test.YtahldjbgkkfdgaaGreatDoorShC8
set_option linter.all false
section
namespace Go.Sh
set_option maxRecDepth 10000
set_option linter.all false

section
variable {call : CallS} {ts ts' : T} {H H' : Heap} {v : SV} {d : Nat}
def cvisV (v : SV) (H : Heap) : Option (SV × Heap) := match v with
  | .int _ n => some (.str (encS n), H)
  | _ => none
@[go_sem] theorem op_cvis (x : X) : evalOp (.cvis x) ts H = cvisV (x.ev ts) H := by
  unfold cvisV
  rfl
theorem cvis_val {k : IntKind} {n : Int} {l : List Nat} (h : encS n = l) : cvisV (.int k n) H = some (.str l, H) := by rw [← h]; rfl
theorem ED_call {f : FuncId} {xs : List X} {args : List SV} {dops : List (SOper × DK)} {Q : List T → List SV → List Heap → T → Prop} (ha : evs ts xs = args) (he : call f args H = some (v, H')) (hs : ts.set d v = ts') (h : ED call dops ts' H' fun tss vs hs tn => Q (ts :: tss) (v :: vs) (H :: hs) tn) :
    ED call ((⟨some d, .call f xs, none⟩, .eff) :: dops) ts H Q := by
  unfold ED at h ⊢
  obtain ⟨tss, vs, hs', tn, h1, h2⟩ := h
  subst hs ha
  exact ⟨ts :: tss, v :: vs, H :: hs', tn, by simp only [List.map_cons, textD, wantedS, evalK, he, putT, h1], h2⟩
end
section
variable {lf n : Nat} {H : Heap}

theorem validRune_ok {r : Nat} (hr : r < 1114112) (hn : 1 ≤ n) : ∃ b, callS tabT lf n 58 [.int .i32 (r : Int)] H = some (.bool b, H) := by
  obtain ⟨n, rfl⟩ : ∃ m, n = m + 1 := ⟨n - 1, by omega⟩
  have key : ∃ v H', callS tabT lf (n + 1) 58 [.int .i32 (r : Int)] H = some (v, H') ∧ ∃ b, v = .bool b ∧ H' = H := by
    have d1 : decide (((0 : Nat) : Int) ≤ (r : Int)) = true := by simp only [decide_eq_true_eq]; omega
    refine call_code tab58 (by simp only [c58, go_sem, List.reduceReplicate, Nat.reduceAdd, Nat.reduceSub]; exact rfl) ?_
    simp only [c58]
    by_cases c : r < 55296
    · have d2 : decide ((r : Int) < ((55296 : Nat) : Int)) = true := by simp only [decide_eq_true_eq]; omega
      refine stp (And.intro @d1 @d2) ?_
      refine cstT @d2 ?_
      refine stp trivial ?_
      refine ret1 trivial ?_
      exact (⟨_, rfl, rfl⟩)
    · have d2 : decide ((r : Int) < ((55296 : Nat) : Int)) = false := by simp only [decide_eq_false_iff_not]; omega
      by_cases c3 : 57343 < r
      · have d3 : decide (((57343 : Nat) : Int) < (r : Int)) = true := by simp only [decide_eq_true_eq]; omega
        have d4 : decide ((r : Int) ≤ ((1114111 : Nat) : Int)) = true := by simp only [decide_eq_true_eq]; omega
        refine stp (And.intro @d1 @d2) ?_
        refine cstE @d2 ?_
        refine stp (And.intro @d3 @d4) ?_
        refine cstT (And.intro @d3 @d4) ?_
        refine stp trivial ?_
        refine ret1 trivial ?_
        exact (⟨_, rfl, rfl⟩)
      · have d3 : decide (((57343 : Nat) : Int) < (r : Int)) = false := by simp only [decide_eq_false_iff_not]; omega
        refine stp (And.intro @d1 @d2) ?_
        refine cstE @d2 ?_
        refine stp @d3 ?_
        refine cstE @d3 ?_
        refine stp trivial ?_
        refine ret1 trivial ?_
        exact (⟨_, rfl, rfl⟩)
  obtain ⟨v, H', h, b, rfl, rfl⟩ := key
  exact ⟨b, h⟩

@[reducible] def I30 (H0 : Heap) (m : Nat) (ts : T) (D : DS) (H' : Heap) : Prop :=
  D = [] ∧ Ext H0 H' ∧ ∃ p : Nat, m = 7 - p ∧ p ≤ 7 ∧ H'.get H0.next = some (.siter needles p) ∧ H0.next < H'.next ∧ ∃ z : Nat → SV, ts = (z 0 :: z 1 :: z 2 :: z 3 :: z 4 :: z 5 :: z 6 :: z 7 :: z 8 :: z 9 :: z 10 :: z 11 :: z 12 :: z 13 :: z 14 :: z 15 :: z 16 :: z 17 :: z 18 :: z 19 :: z 20 :: z 21 :: z 22 :: z 23 :: z 24 :: z 25 :: z 26 :: z 27 :: z 28 :: z 29 :: z 30 :: z 31 :: z 32 :: z 33 :: z 34 :: z 35 :: z 36 :: z 37 :: z 38 :: z 39 :: z 40 :: z 41 :: z 42 :: z 43 :: z 44 :: z 45 :: z 46 :: z 47 :: z 48 :: z 49 :: z 50 :: z 51 :: z 52 :: z 53 :: z 54 :: z 55 :: z 56 :: z 57 :: z 58 :: z 59 :: z 60 :: z 61 :: z 62 :: z 63 :: z 64 :: z 65 :: z 66 :: z 67 :: z 68 :: z 69 :: z 70 :: z 71 :: z 72 :: z 73 :: z 74 :: z 75 :: z 76 :: z 77 :: z 78 :: z 79 :: z 80 :: z 81 :: z 82 :: z 83 :: z 84 :: z 85 :: z 86 :: z 87 :: z 88 :: z 89 :: z 90 :: z 91 :: z 92 :: z 93 :: z 94 :: z 95 :: z 96 :: z 97 :: z 98 :: z 99 :: z 100 :: z 101 :: z 102 :: z 103 :: z 104 :: z 105 :: z 106 :: z 107 :: z 108 :: z 109 :: z 110 :: z 111 :: z 112 :: z 113 :: z 114 :: z 115 :: z 116 :: z 117 :: z 118 :: z 119 :: z 120 :: z 121 :: z 122 :: z 123 :: z 124 :: z 125 :: z 126 :: z 127 :: z 128 :: z 129 :: z 130 :: z 131 :: z 132 :: z 133 :: z 134 :: z 135 :: z 136 :: z 137 :: z 138 :: z 139 :: z 140 :: z 141 :: z 142 :: z 143 :: z 144 :: z 145 :: z 146 :: z 147 :: z 148 :: z 149 :: z 150 :: z 151 :: z 152 :: z 153 :: z 154 :: z 155 :: z 156 :: z 157 :: z 158 :: z 159 :: z 160 :: z 161 :: z 162 :: z 163 :: z 164 :: z 165 :: z 166 :: z 167 :: z 168 :: z 169 :: z 170 :: z 171 :: z 172 :: z 173 :: z 174 :: (.ptr H0.next 0) :: z 176 :: z 177 :: z 178 :: z 179 :: z 180 :: z 181 :: z 182 :: z 183 :: z 184 :: z 185 :: z 186 :: [] : T) ∧ (True)

theorem indexRune_ok {r : Nat} (hr : r < 1114112) (hn : 5 ≤ n) (hlf : 10 < lf) :
    ∃ (k : Int) (H' : Heap), callS tabT lf n 30 [.str needles, .int .i32 (r : Int)] H = some (.int .i64 k, H') ∧ Ext H H' ∧ (k < 0 → r ∉ needles) ∧ (128 ≤ r → k < 0) := by
  obtain ⟨n, rfl⟩ : ∃ m, n = m + 1 := ⟨n - 1, by omega⟩
  have hout : 128 ≤ r → r ∉ needles := fun h hm => by
    simp [needles] at hm
    omega
  have key : ∃ v H', callS tabT lf (n + 1) 30 [.str needles, .int .i32 (r : Int)] H = some (v, H') ∧ ∃ k : Int, v = .int .i64 k ∧ Ext H H' ∧ (k < 0 → r ∉ needles) ∧ (128 ≤ r → k < 0) := by
    have d1 : decide (((0 : Nat) : Int) ≤ (r : Int)) = true := by simp only [decide_eq_true_eq]; omega
    have nl : needles.length = 7 := rfl
    refine call_code tab30 (by simp only [c30, go_sem, List.reduceReplicate, Nat.reduceAdd, Nat.reduceSub]; exact rfl) ?_
    simp only [c30]
    by_cases c : r < 128
    · have d2 : decide ((r : Int) < ((128 : Nat) : Int)) = true := by simp only [decide_eq_true_eq]; omega
      have hib := indexByte_ok (lf := lf) (n := n) (H := H) (s := needles) (c := r) (by omega) (by omega)
      have hw : IntKind.wrap .u8 (r : Int) = (r : Int) := wrap_u8 (by omega) (by omega)
      refine stp (And.intro @d1 @d2) ?_
      refine cstT @d2 ?_
      refine stp trivial ?_
      refine kst trivial hib ?_
      refine stp trivial ?_
      refine ret1 trivial ?_
      exact (⟨_, rfl, Ext.refl _, ixb_neg, fun h => by omega⟩)
    · have d2 : decide ((r : Int) < ((128 : Nat) : Int)) = false := by simp only [decide_eq_false_iff_not]; omega
      by_cases c3 : r = 65533
      · have d3 : decide ((r : Int) = ((65533 : Nat) : Int)) = true := by simp only [decide_eq_true_eq]; omega
        refine stp (And.intro @d1 @d2) ?_
        refine cstE @d2 ?_
        refine stp @d3 ?_
        refine cstT @d3 ?_
        refine stp trivial ?_
        refine EC_loop (I := I30 H) ?_ 7 ?_ (by omega)
        · rintro m ts D H1 ⟨rfl, hE, p, rfl, hp, hit, hnx, ⟨z, rfl, -⟩⟩
          cases Nat.lt_or_ge p 7 with
          | inl hlt =>
            obtain ⟨b, hb, hb2⟩ : ∃ b, needles[p]? = some b ∧ b < 128 := by
              match p, hlt with
              | 0, _ => exact ⟨_, rfl, by decide⟩
              | 1, _ => exact ⟨_, rfl, by decide⟩
              | 2, _ => exact ⟨_, rfl, by decide⟩
              | 3, _ => exact ⟨_, rfl, by decide⟩
              | 4, _ => exact ⟨_, rfl, by decide⟩
              | 5, _ => exact ⟨_, rfl, by decide⟩
              | 6, _ => exact ⟨_, rfl, by decide⟩
            have hm := nxt_more hit (by rw [nl]; exact hlt) (dec_lo hb hb2)
            have d5 : decide ((b : Int) = ((65533 : Nat) : Int)) = false := by simp only [decide_eq_false_iff_not]; omega
            refine stp @hm ?_
            refine cstT trivial ?_
            refine stp trivial ?_
            refine cstE @d5 ?_
            refine stp trivial ?_
            refine loopR_normal (7 - (p + 1)) (by omega) ⟨rfl, hE.put (Nat.le_refl _) _, p + 1, rfl, by omega, get_put_self _ _, hnx, ?_⟩
            exact (frame_in (by rfl) (trivial))
          | inr hge =>
            have hm := nxt_done hit (by rw [nl]; exact hge)
            refine stp @hm ?_
            refine cstE trivial ?_
            refine stp trivial ?_
            refine ret1 trivial ?_
            exact (⟨_, rfl, hE, fun _ => hout (by omega), fun _ => by omega⟩)
        · refine ⟨rfl, (Ext.refl _).push _, 0, rfl, by omega, get_push_self _, by rw [next_push]; omega, ?_⟩
          exact (frame_in (by rfl) (trivial))
      · have d3 : decide ((r : Int) = ((65533 : Nat) : Int)) = false := by simp only [decide_eq_false_iff_not]; omega
        obtain ⟨bv, hv⟩ := validRune_ok (lf := lf) (n := n) (H := H) hr (by omega)
        refine stp (And.intro @d1 @d2) ?_
        refine cstE @d2 ?_
        refine stp @d3 ?_
        refine cstE @d3 ?_
        refine stp trivial ?_
        refine kst trivial hv ?_
        cases bv with
        | false =>
          refine stp @Bool.not_false ?_
          refine cstT trivial ?_
          refine stp trivial ?_
          refine ret1 trivial ?_
          exact (⟨_, rfl, Ext.refl _, fun _ => hout (by omega), fun _ => by omega⟩)
        | true =>
          refine stp @Bool.not_true ?_
          refine cstE trivial ?_
          obtain ⟨u, c, he, hc1, hc2, hu1, hu2⟩ := enc_hi (r : Int) (by omega)
          have hcv := cvis_val (H := H) (k := .i32) he
          have hl1 : (u ++ [c]).length = u.length + 1 := by simp
          have hl2 : (((u.length + 1 : Nat) : Int) - ((1 : Nat) : Int)) = (u.length : Int) := by omega
          have hlc : (u ++ [c])[u.length]? = some c := by simp
          obtain ⟨k, hk⟩ : ∃ k, u.length = k := ⟨_, rfl⟩
          rw [hk] at hl1 hl2 hlc hu1 hu2
          obtain ⟨b, hb, hb2⟩ : ∃ b, needles[k]? = some b ∧ b < 128 := by
            match k, hu2 with
            | 0, _ => exact ⟨_, rfl, by decide⟩
            | 1, _ => exact ⟨_, rfl, by decide⟩
            | 2, _ => exact ⟨_, rfl, by decide⟩
            | 3, _ => exact ⟨_, rfl, by decide⟩
          have hcn : c ∉ needles.drop (k + 1) := fun hm => by
            have := List.mem_of_mem_drop hm
            simp [needles] at this
            omega
          have htk : (needles.drop (k + 1)).take (7 - (k + 1)) = needles.drop (k + 1) := List.take_of_length_le (by simp [needles])
          have hib := indexByte_ok (lf := lf) (n := n) (H := H) (s := needles.drop (k + 1)) (c := c) (by omega) (by omega)
          rw [ixb_out hcn] at hib
          have d5 : decide ((k : Int) < ((7 : Nat) : Int)) = true := by simp only [decide_eq_true_eq]; omega
          have d6 : decide ((b : Int) ≠ (c : Int)) = true := by simp only [decide_eq_true_eq]; omega
          have dm : decide ((-1 : Int) < ((0 : Nat) : Int)) = true := by decide
          refine stp (And.intro @hcv (And.intro @hl1 @hl2)) ?_
          refine EC_loop1 (by omega) ?_
          refine stp (And.intro @nl @d5) ?_
          refine cstT (And.intro @nl @d5) ?_
          refine stp (And.intro @hb (And.intro @hlc @d6)) ?_
          refine cstT @d6 ?_
          refine EC_seq ?_
          refine EC_draw rfl ?_
          have hk1 : ((k : Int) + ((1 : Nat) : Int)).toNat = k + 1 := by omega
          refine stp (And.intro @nl (And.intro @hlc (And.intro @hk1 @htk))) ?_
          refine ED_call (by (simp (disch := (first | omega | (simp only [List.length_cons, List.length_nil, List.length_append, List.length_take, List.length_drop, List.length_replicate, next_push, next_put, List.all_cons, List.all_nil, SV.one, Bool.and_self, hk1, htk]; done) | (simp only [List.length_cons, List.length_nil, List.length_append, List.length_take, List.length_drop, List.length_replicate, next_push, next_put, List.all_cons, List.all_nil, SV.one, Bool.and_self, hk1, htk]; omega) | fail)) only [go_sem, Nat.reduceAdd, Nat.reduceSub, Nat.reduceMul, Nat.zero_add, Nat.add_zero, Nat.mul_one, Nat.one_mul, Int.reduceToNat, Int.reduceAdd, Int.reduceSub, decide_true, decide_false, hk1, htk]; first | done | with_reducible rfl)) hib (by simp only [List.set_cons_zero, List.set_cons_succ]; with_reducible rfl) ?_
          refine stp trivial ?_
          refine ⟨?_, fun _ => ?_, _, (by simp only [List.getLast?_cons_cons, List.getLast?_singleton]; first | done | with_reducible rfl), ?_⟩
          · repeat (first | exact readsD_nil _ _ _ | apply readsD_pure | apply readsD_eff)
          · rename_i h
            exact (by cases h)
          · refine stp @dm ?_
            refine cstT @dm ?_
            refine stp trivial ?_
            refine ret1 trivial ?_
            exact (⟨_, rfl, Ext.refl _, fun _ => hout (by omega), fun _ => by omega⟩)
  obtain ⟨v, H', h, k, rfl, hE⟩ := key
  exact ⟨k, H', h, hE⟩
end
end Go.Sh
end
section
namespace Go.Sh
set_option maxRecDepth 10000
set_option linter.all false

/-- None of the set so far. -/
def Clean (t : List Nat) (i : Nat) : Prop := ∀ k, k < i → t.getD k 0 ∉ needles
theorem Clean.all {t : List Nat} (h : Clean t t.length) : ∀ c ∈ t, c ∉ needles := fun c hc => by
  obtain ⟨k, hk, rfl⟩ := List.mem_iff_getElem.1 hc
  have := h k hk
  rw [List.getD_eq_getElem?_getD, List.getElem?_eq_getElem hk] at this
  exact this
theorem hi_out {c : Nat} (h : 128 ≤ c) : c ∉ needles := fun hm => by
  simp [needles] at hm
  omega

@[reducible] def I16 (t : List Nat) (H0 : Heap) (b : Nat) (m : Nat) (ts : T) (D : DS) (H' : Heap) : Prop :=
  D = [] ∧ H' = H0 ∧ ∃ i : Nat, m = t.length - i ∧ i ≤ t.length ∧ Clean t i ∧ ∃ z : Nat → SV, ts = ((.str t) :: z 1 :: z 2 :: z 3 :: z 4 :: z 5 :: (.ptr b 0) :: z 7 :: (.int .i64 (i : Int)) :: z 9 :: z 10 :: z 11 :: z 12 :: z 13 :: z 14 :: z 15 :: z 16 :: z 17 :: z 18 :: z 19 :: z 20 :: z 21 :: z 22 :: z 23 :: z 24 :: z 25 :: z 26 :: z 27 :: z 28 :: z 29 :: z 30 :: z 31 :: z 32 :: z 33 :: z 34 :: z 35 :: z 36 :: z 37 :: z 38 :: z 39 :: z 40 :: z 41 :: z 42 :: z 43 :: z 44 :: z 45 :: z 46 :: z 47 :: z 48 :: z 49 :: z 50 :: z 51 :: z 52 :: z 53 :: z 54 :: [] : T) ∧ (True)
@[reducible] def J16 (t : List Nat) (H0 : Heap) (m : Nat) (ts : T) (D : DS) (H' : Heap) : Prop :=
  D = [] ∧ Ext H0 H' ∧ ∃ i : Nat, m = t.length - i ∧ i ≤ t.length ∧ Clean t i ∧ H0.next < H'.next ∧ H'.get H0.next = some (.siter t i) ∧ ∃ z : Nat → SV, ts = (z 0 :: (.str needles) :: z 2 :: z 3 :: z 4 :: z 5 :: z 6 :: z 7 :: z 8 :: z 9 :: z 10 :: z 11 :: z 12 :: z 13 :: z 14 :: z 15 :: z 16 :: z 17 :: z 18 :: z 19 :: z 20 :: z 21 :: z 22 :: z 23 :: z 24 :: z 25 :: z 26 :: z 27 :: z 28 :: z 29 :: z 30 :: z 31 :: z 32 :: z 33 :: z 34 :: z 35 :: z 36 :: z 37 :: z 38 :: z 39 :: z 40 :: z 41 :: z 42 :: z 43 :: z 44 :: (.ptr H0.next 0) :: z 46 :: z 47 :: z 48 :: z 49 :: z 50 :: z 51 :: z 52 :: z 53 :: z 54 :: [] : T) ∧ (True)

section
variable {lf n : Nat} {H : Heap}

theorem shouldUse_ok {k : Nat} (hn : 1 ≤ n) : callS tabT lf n 31 [.int .i64 (k : Int)] H = some (.bool (decide (8 < k)), H) := by
  obtain ⟨n, rfl⟩ : ∃ m, n = m + 1 := ⟨n - 1, by omega⟩
  have key : ∃ v H', callS tabT lf (n + 1) 31 [.int .i64 (k : Int)] H = some (v, H') ∧ v = .bool (decide (8 < k)) ∧ H' = H := by
    have d : decide ((k : Int) > ((8 : Nat) : Int)) = decide (8 < k) := by
      congr 1
      exact propext ⟨fun h => by omega, fun h => by omega⟩
    refine call_code tab31 (by simp only [c31, go_sem, List.reduceReplicate, Nat.reduceAdd, Nat.reduceSub]; exact rfl) ?_
    simp only [c31]
    refine stp @d ?_
    refine ret1 @d ?_
    exact (⟨rfl, rfl⟩)
  obtain ⟨v, H', h, rfl, rfl⟩ := key
  exact h

theorem indexAny_ok {t : List Nat} (hb : Bts t) (hlen : t.length ≤ 100) (hn : 6 ≤ n) (hlf : 200 < lf) :
    ∃ (k : Int) (H' : Heap), callS tabT lf n 16 [.str t, .str needles] H = some (.int .i64 k, H') ∧ Ext H H' ∧ (k < 0 → ∀ c ∈ t, c ∉ needles) := by
  obtain ⟨n, rfl⟩ : ∃ m, n = m + 1 := ⟨n - 1, by omega⟩
  have nl : needles.length = 7 := rfl
  have key : ∃ v H', callS tabT lf (n + 1) 16 [.str t, .str needles] H = some (v, H') ∧ ∃ k : Int, v = .int .i64 k ∧ Ext H H' ∧ (k < 0 → ∀ c ∈ t, c ∉ needles) := by
    have d1 : decide (needles = []) = false := rfl
    have d2 : decide (((7 : Nat) : Int) = ((1 : Nat) : Int)) = false := by decide
    have hsu := shouldUse_ok (lf := lf) (n := n) (H := H) (k := t.length) (by omega)
    refine call_code tab16 (by simp only [c16, go_sem, List.reduceReplicate, Nat.reduceAdd, Nat.reduceSub]; exact rfl) ?_
    simp only [c16]
    refine stp @d1 ?_
    refine cstE @d1 ?_
    refine stp (And.intro @nl @d2) ?_
    refine cstE @d2 ?_
    by_cases hsz : 8 < t.length
    · rw [decide_eq_true hsz] at hsu
      refine stp trivial ?_
      refine kst trivial hsu ?_
      refine stp trivial ?_
      refine cstT trivial ?_
      obtain ⟨H1, hcall, hE⟩ := makeSet_ok (lf := lf) (n := n) (H := H) (l := needles) (by simp [needles]) (by omega) (by simp [needles]; omega) (by simp [needles])
      refine stp trivial ?_
      refine kst trivial hcall ?_
      have hal := asc_length needles
      have hone : (asc needles).all SV.one = true := asc_one _
      have hdr : List.drop 256 (List.replicate 256 (SV.bool false)) = [] := by simp
      obtain ⟨H2, hH2⟩ : ∃ H2, (H1.push (SObj.row (List.replicate 256 (SV.bool false)) 88 true false 0)).put H1.next (SObj.row (asc needles) 88 true false 0) = H2 := ⟨_, rfl⟩
      have hg2 : H2.get H1.next = some (.row (asc needles) 88 true false 0) := by rw [← hH2]; exact get_put_self _ _
      have hE2 : Ext H H2 := by rw [← hH2]; exact (hE.push _).put hE.1 _
      refine stp (And.intro @hal (And.intro @hone (And.intro @hdr (And.intro @List.append_nil.{0} @hH2)))) ?_
      refine cstT trivial ?_
      refine stp trivial ?_
      refine EC_loop (I := I16 t H2 H1.next) ?_ t.length ?_ (by omega)
      · rintro m ts D H3 ⟨rfl, rfl, i, rfl, hi, hcl, ⟨z, rfl, -⟩⟩
        refine stp trivial ?_
        refine cst trivial (fun hc => ?_) (fun hc => ?_) <;> try simp only [decide_eq_true_eq, decide_eq_false_iff_not, not_true_eq_false, not_false_eq_true, Int.not_lt, Int.not_le, ge_iff_le, gt_iff_lt] at hc
        · have hlt : i < t.length := by omega
          have hti : t[i]? = some t[i] := List.getElem?_eq_getElem hlt
          have hbi : t[i] < 256 := hb _ (List.getElem_mem hlt)
          have hct := contains_ok (lf := lf) (n := n) (H := H3) hg2 hbi (by omega)
          refine stp @hti ?_
          refine kst trivial hct ?_
          cases hcv : needles.contains t[i] with
          | true =>
            refine stp trivial ?_
            refine cstT trivial ?_
            refine stp trivial ?_
            refine ret1 trivial ?_
            exact (⟨_, rfl, hE2, fun h => absurd h (by omega)⟩)
          | false =>
            refine stp trivial ?_
            refine cstE trivial ?_
            refine stp trivial ?_
            refine loopR_normal (t.length - (i + 1)) (by omega) ⟨rfl, rfl, i + 1, rfl, by omega, ?_, ?_⟩
            · intro k hk
              by_cases e : k = i
              · subst e
                rw [List.getD_eq_getElem?_getD, hti]
                intro hm
                have hm2 : t[k] ∈ needles := hm
                rw [List.contains_iff_mem.2 hm2] at hcv
                exact (by cases hcv)
              · exact hcl k (by omega)
            · exact (frame_in (by rfl) (trivial))
        · have hie : i = t.length := by omega
          subst hie
          refine stp trivial ?_
          refine ret1 trivial ?_
          exact (⟨_, rfl, hE2, fun _ => hcl.all⟩)
      · refine ⟨rfl, rfl, 0, rfl, by omega, fun k hk => absurd hk (by omega), ?_⟩
        exact (frame_in (by rfl) (trivial))
    · rw [decide_eq_false hsz] at hsu
      refine stp trivial ?_
      refine kst trivial hsu ?_
      refine stp trivial ?_
      refine cstE trivial ?_
      refine stp trivial ?_
      refine EC_loop (I := J16 t H) ?_ t.length ?_ (by omega)
      · rintro m ts D H1 ⟨rfl, hE, i, rfl, hi, hcl, hnx, hit, ⟨z, rfl, -⟩⟩
        cases Nat.lt_or_ge i t.length with
        | inl hlt =>
          have hti : t[i]? = some t[i] := List.getElem?_eq_getElem hlt
          have hbi : t[i] < 256 := hb _ (List.getElem_mem hlt)
          obtain ⟨r, w, hd, hr, hw1, hw2, hcl2⟩ : ∃ r w, decS t i = (r, w) ∧ r < 1114112 ∧ 1 ≤ w ∧ i + w ≤ t.length ∧ (r ∉ needles → Clean t (i + w)) := by
            cases Nat.lt_or_ge t[i] 128 with
            | inl hlo =>
              refine ⟨_, _, dec_lo hti hlo, by omega, by omega, by omega, fun hn k hk => ?_⟩
              by_cases e : k = i
              · subst e
                rw [List.getD_eq_getElem?_getD, hti]
                exact hn
              · exact hcl k (by omega)
            | inr hhi =>
              obtain ⟨r, w, h1, h2, h3, h4, h5, h6⟩ := dec_hi hti hhi hbi
              refine ⟨r, w, h1, h3, h4, h5, fun hn k hk => ?_⟩
              cases Nat.lt_or_ge k i with
              | inl h => exact hcl k h
              | inr h => exact hi_out (h6 k h hk)
          have hm := nxt_more hit hlt hd
          obtain ⟨H2, hH2⟩ : ∃ H2, H1.put H.next (.siter t (i + w)) = H2 := ⟨_, rfl⟩
          have hE2 : Ext H H2 := by rw [← hH2]; exact hE.put (Nat.le_refl _) _
          have hg2 : H2.get H.next = some (.siter t (i + w)) := by rw [← hH2]; exact get_put_self _ _
          have hn2 : H.next < H2.next := by rw [← hH2]; exact hnx
          obtain ⟨k, H3, hc3, hE3, hk3, _⟩ := indexRune_ok (lf := lf) (n := n) (H := H2) hr (by omega) (by omega)
          refine stp (And.intro @hm @hH2) ?_
          refine cstT trivial ?_
          refine stp trivial ?_
          refine kst trivial hc3 ?_
          refine stp trivial ?_
          refine cst trivial (fun hc => ?_) (fun hc => ?_) <;> try simp only [decide_eq_true_eq, decide_eq_false_iff_not, not_true_eq_false, not_false_eq_true, Int.not_lt, Int.not_le, ge_iff_le, gt_iff_lt] at hc
          · refine stp trivial ?_
            refine ret1 trivial ?_
            exact (⟨_, rfl, hE2.trans hE3, fun h => absurd h (by omega)⟩)
          · refine stp trivial ?_
            refine loopR_normal (t.length - (i + w)) (by omega) ⟨rfl, hE2.trans hE3, i + w, rfl, by omega, hcl2 (hk3 (by omega)), Nat.lt_of_lt_of_le hn2 hE3.1, by rw [hE3.2 _ hn2]; exact hg2, ?_⟩
            exact (frame_in (by rfl) (trivial))
        | inr hge =>
          have hie : i = t.length := by omega
          subst hie
          have hm := nxt_done hit (by omega)
          refine stp @hm ?_
          refine cstE trivial ?_
          refine stp trivial ?_
          refine ret1 trivial ?_
          exact (⟨_, rfl, hE, fun _ => hcl.all⟩)
      · refine ⟨rfl, (Ext.refl _).push _, 0, rfl, by omega, fun k hk => absurd hk (by omega), by rw [next_push]; omega, get_push_self _, ?_⟩
        exact (frame_in (by rfl) (trivial))
  obtain ⟨v, H', h, k, rfl, hE⟩ := key
  exact ⟨k, H', h, hE⟩

theorem containsAny_ok {t : List Nat} (hb : Bts t) (hlen : t.length ≤ 100) (hn : 7 ≤ n) (hlf : 200 < lf) :
    ∃ (b : Bool) (H' : Heap), callS tabT lf n 7 [.str t, .str needles] H = some (.bool b, H') ∧ Ext H H' ∧ (b = false → ∀ c ∈ t, c ∉ needles) := by
  obtain ⟨n, rfl⟩ : ∃ m, n = m + 1 := ⟨n - 1, by omega⟩
  have key : ∃ v H', callS tabT lf (n + 1) 7 [.str t, .str needles] H = some (v, H') ∧ ∃ b, v = .bool b ∧ Ext H H' ∧ (b = false → ∀ c ∈ t, c ∉ needles) := by
    obtain ⟨k, H1, hc, hE, hk⟩ := indexAny_ok (lf := lf) (n := n) (H := H) hb hlen (by omega) (by omega)
    refine call_code tab7 (by simp only [c7, go_sem, List.reduceReplicate, Nat.reduceAdd, Nat.reduceSub]; exact rfl) ?_
    simp only [c7]
    refine stp trivial ?_
    refine kst trivial hc ?_
    refine stp trivial ?_
    refine ret1 trivial ?_
    exact (⟨_, rfl, hE, fun h => hk (by simp only [decide_eq_false_iff_not] at h; omega)⟩)
  obtain ⟨v, H', h, b, rfl, hE⟩ := key
  exact ⟨b, H', h, hE⟩
end
end Go.Sh
end
