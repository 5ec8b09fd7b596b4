/-
  TopSections: the walk. (frame style z)
-/
import Derived.Test.YtahldjbgkkfdgaaGreatDoorShD1
set_option linter.all false
section
namespace Go.Sh
set_option maxRecDepth 10000
set_option linter.all false

/-- Calls in which runs() is known to answer true. -/
noncomputable def call2 (lf n : Nat) : CallS := fun f args H => match Nat.beq f 8 with
  | true => match args with
    | [] => some (.bool true, H)
    | _ => none
  | false => callS tabT lf n f args H
theorem call2_8 {lf n : Nat} {H : Heap} : call2 lf n 8 [] H = some (.bool true, H) := rfl
theorem call2_of {lf n f : Nat} {args : List SV} {H : Heap} {r : Option (SV × Heap)} (hf : Nat.beq f 8 = false) (h : callS tabT lf n f args H = r) : call2 lf n f args H = r := by
  rw [← h]
  unfold call2
  rw [hf]

section
variable {lf n : Nat} {H : Heap}
theorem new_ok {v : SV} (hv : SV.one v = true) (hn : 1 ≤ n) : callS tabT lf n 4 [v] H = some (.ptr H.next 0, H.push (.row [v, .int .i64 0] 48 true false 0)) := by
  obtain ⟨n, rfl⟩ : ∃ m, n = m + 1 := ⟨n - 1, by omega⟩
  have key : ∃ w H', callS tabT lf (n + 1) 4 [v] H = some (w, H') ∧ w = .ptr H.next 0 ∧ H' = H.push (.row [v, .int .i64 0] 48 true false 0) := by
    have hc : v.cells = [v] := by cases v <;> first | rfl | exact (by cases hv)
    refine call_code tab4 (by simp only [c4, go_sem, List.reduceReplicate, Nat.reduceAdd, Nat.reduceSub]; exact rfl) ?_
    simp only [c4]
    refine stp @hc ?_
    refine ret1 trivial ?_
    exact (⟨rfl, rfl⟩)
  obtain ⟨w, H', h, rfl, rfl⟩ := key
  exact h

theorem and_16 (x : Int) : ∃ r : Nat, r < 65536 ∧ IntKind.wrap .i64 ((BitVec.ofInt (IntKind.bits .i64) x &&& BitVec.ofInt (IntKind.bits .i64) ((65535 : Nat) : Int)).toNat : Int) = (r : Int) := by
  show ∃ r : Nat, r < 65536 ∧ IntKind.wrap .i64 ((BitVec.ofInt 64 x &&& BitVec.ofInt 64 ((65535 : Nat) : Int)).toNat : Int) = (r : Int)
  have h1 : (BitVec.ofInt 64 x &&& BitVec.ofInt 64 ((65535 : Nat) : Int)).toNat ≤ 65535 := by
    rw [BitVec.toNat_and]
    exact Nat.le_trans Nat.and_le_right (by decide)
  exact ⟨_, by omega, wrap_i64 (by omega) (by omega)⟩

/-- What is handed in: a list of whole numbers. -/
def DataOK (H : Heap) (v : SV) : Prop := v = .nils ∨ ∃ (lb lo len : Nat) (cap : Option Nat) (cs : List SV) (e : TypeId) (ex ro : Bool) (frz : Nat), v = .slice lb lo len cap 1 ∧ lb < H.next ∧ H.get lb = some (.row cs e ex ro frz) ∧ len < 140737488355328 ∧
    (∀ i, i < len → ∃ x : Int, cs[lo + i]? = some (.int .i64 x))
theorem DataOK.one {v : SV} (h : DataOK H v) : SV.one v = true := by
  rcases h with rfl | ⟨_, _, _, _, _, _, _, _, _, rfl, _⟩ <;> rfl
theorem DataOK.tape {v : SV} (h : DataOK H v) : TapeOK (H.push (.row [v, .int .i64 0] 48 true false 0)) H.next := by
  refine ⟨v, 0, get_push_self _, by omega, ?_⟩
  rcases h with rfl | ⟨lb, lo, len, cap, cs, e, ex, ro, frz, rfl, h1, h2, h3, h4⟩
  · exact .inl rfl
  · exact .inr ⟨lb, lo, len, cap, cs, e, ex, ro, frz, rfl, by omega, Nat.lt_succ_of_lt h1, by rw [get_push_old h1]; exact h2, h3, h4⟩

@[reducible] def I3 (s s' : List Nat) (b b' N N' i dr : Nat) (H0 : Heap) (m : Nat) (ts : T) (D : DS) (H' : Heap) : Prop :=
  D = [] ∧ H' = H0 ∧ ∃ k : Nat, m = dr - k ∧ k ≤ dr ∧ ∃ z : Nat → SV, ts = (z 0 :: z 1 :: z 2 :: z 3 :: z 4 :: z 5 :: z 6 :: z 7 :: (.str s) :: (.slice b 0 N none 5) :: z 10 :: (.int .i64 (i : Int)) :: z 12 :: (.str s') :: z 14 :: (.slice b' 0 N' none 5) :: z 16 :: (.int .i64 (k : Int)) :: (.int .i64 ((i + 1 + k : Nat) : Int)) :: z 19 :: z 20 :: z 21 :: z 22 :: z 23 :: z 24 :: z 25 :: z 26 :: z 27 :: z 28 :: z 29 :: z 30 :: z 31 :: z 32 :: z 33 :: z 34 :: z 35 :: z 36 :: z 37 :: z 38 :: z 39 :: z 40 :: z 41 :: z 42 :: z 43 :: z 44 :: z 45 :: z 46 :: z 47 :: z 48 :: z 49 :: z 50 :: z 51 :: z 52 :: z 53 :: z 54 :: z 55 :: z 56 :: z 57 :: z 58 :: z 59 :: z 60 :: z 61 :: z 62 :: z 63 :: z 64 :: z 65 :: z 66 :: z 67 :: z 68 :: z 69 :: z 70 :: z 71 :: z 72 :: z 73 :: z 74 :: z 75 :: z 76 :: z 77 :: z 78 :: z 79 :: z 80 :: z 81 :: z 82 :: z 83 :: z 84 :: z 85 :: z 86 :: z 87 :: z 88 :: z 89 :: z 90 :: z 91 :: z 92 :: z 93 :: z 94 :: z 95 :: z 96 :: z 97 :: z 98 :: z 99 :: z 100 :: z 101 :: z 102 :: z 103 :: z 104 :: z 105 :: z 106 :: z 107 :: z 108 :: z 109 :: z 110 :: z 111 :: z 112 :: z 113 :: z 114 :: z 115 :: z 116 :: z 117 :: z 118 :: z 119 :: z 120 :: z 121 :: z 122 :: z 123 :: z 124 :: z 125 :: z 126 :: z 127 :: z 128 :: z 129 :: z 130 :: z 131 :: z 132 :: z 133 :: z 134 :: z 135 :: z 136 :: z 137 :: z 138 :: z 139 :: z 140 :: z 141 :: z 142 :: z 143 :: z 144 :: z 145 :: z 146 :: z 147 :: z 148 :: z 149 :: z 150 :: z 151 :: z 152 :: z 153 :: z 154 :: z 155 :: z 156 :: z 157 :: z 158 :: z 159 :: z 160 :: z 161 :: z 162 :: z 163 :: z 164 :: z 165 :: z 166 :: z 167 :: z 168 :: z 169 :: z 170 :: z 171 :: z 172 :: z 173 :: z 174 :: z 175 :: z 176 :: z 177 :: z 178 :: z 179 :: z 180 :: [] : T) ∧ (True)

set_option maxHeartbeats 8000000 in
theorem top_walk {v : SV} {iv : Int} {t : List Nat} (hd : DataOK H v) (hb : Bts t) (hn : 13 ≤ n) (hlf : 30000 < lf) :
    EC (call2 lf n) lf c3.body ([v, .int .i64 iv, .str t] ++ List.replicate 178 .undef) [] H (funR c3.results fun r H' => r = .bool true) := by
  have hnew := call2_of (f := 4) rfl (new_ok (lf := lf) (n := n) (H := H) hd.one (by omega))
  obtain ⟨H1, hH1⟩ : ∃ H1, H.push (.row [v, .int .i64 0] 48 true false 0) = H1 := ⟨_, rfl⟩
  have hT1 := hd.tape
  have hE1 : Ext H H1 := by rw [← hH1]; exact (Ext.refl _).push _
  have hk1 : H.next < H1.next := by rw [← hH1, next_push]; omega
  rw [hH1] at hnew hT1
  obtain ⟨ls, last, H2, hl, hE2, hls, hmem, hlast⟩ := lines_ok (lf := lf) (n := n) hE1 (Nat.le_refl _) hk1 hT1 (by omega) (by omega)
  have hlines : call2 lf n 5 [.ptr H.next 0, .int .i64 ((12 : Nat) : Int)] H1 = some (.str (textL ls last), H2) := call2_of (f := 5) rfl hl
  have hTX : TextOK ls last := ⟨fun l h => .inl (hmem l h), by
    rcases hlast with rfl | rfl
    · exact .inr (by simp)
    · exact .inl rfl⟩
  have hlen : (textL ls last).length ≤ 113 := by
    have h1 := textL_len (last := last) fun l hl => menu_len l (hmem l hl)
    have h2 : last.length ≤ 3 := by rcases hlast with rfl | rfl <;> simp
    omega
  obtain ⟨s, hs⟩ : ∃ s, textL ls last = s := ⟨_, rfl⟩
  have hP : Plain s := by rw [← hs]; exact fun x hx => (hTX.chars x hx).2
  have hB : Bts s := by rw [← hs]; exact fun x hx => (hTX.chars x hx).1
  have hL : LinesOK s ls last := by rw [← hs]; exact hTX.lines
  rw [hs] at hlines hlen
  obtain ⟨w, H3, hsec, hE3, hsl⟩ := sections_ok (lf := lf) (n := n) (H := H2) hP hB hL (by omega) (by omega) (by omega)
  have hsec2 := call2_of (f := 6) rfl hsec
  obtain ⟨S, hS⟩ : ∃ S, secsF (headsL s.length 0 ls last) = S := ⟨_, rfl⟩
  rw [hS] at hsl
  have hSl : S.length ≤ 11 := by
    rw [← hS, secsF_length, headsL_len (.inr hTX.last)]
    exact Nat.le_trans (List.length_filter_le ..) hls
  have hrun := fun H => call2_8 (lf := lf) (n := n) (H := H)
  have d0 : decide ((0 : Int) ≠ ((0 : Nat) : Int)) = false := by decide
  simp only [c3, List.reduceReplicate, List.cons_append, List.nil_append]
  refine stp @hH1 ?_
  refine kst trivial hnew ?_
  refine stp trivial ?_
  refine kst trivial hlines ?_
  refine stp trivial ?_
  refine kst trivial hsec2 ?_
  rcases hsl with ⟨he, rfl⟩ | ⟨hne, b, hb1, hb2, rfl, hrow⟩
  · have e0 : decide ((0 : Int) = ((0 : Nat) : Int)) = true := by decide
    refine stp (And.intro @d0 @e0) ?_
    refine cstT trivial ?_
    refine stp trivial ?_
    refine kst trivial (hrun _) ?_
    refine stp trivial ?_
    refine ret1 trivial ?_
    exact (rfl)
  · have hSne : S ≠ [] := fun e => hne (by rw [e]; rfl)
    have hSp : 0 < S.length := List.length_pos_iff.2 hSne
    have e0 : decide ((S.length : Int) = ((0 : Nat) : Int)) = false := by simp only [decide_eq_false_iff_not]; omega
    rw [List.length_map]
    by_cases ht : 100 < t.length
    · have e1 : decide ((t.length : Int) > ((100 : Nat) : Int)) = true := by simp only [decide_eq_true_eq]; omega
      refine stp (And.intro @d0 (And.intro @e0 @e1)) ?_
      refine cstT trivial ?_
      refine stp trivial ?_
      refine kst trivial (hrun _) ?_
      refine stp trivial ?_
      refine ret1 trivial ?_
      exact (rfl)
    · have e1 : decide ((t.length : Int) > ((100 : Nat) : Int)) = false := by simp only [decide_eq_false_iff_not]; omega
      obtain ⟨cb, H4, hca, hE4, hcl⟩ := containsAny_ok (lf := lf) (n := n) (H := H3) hb (by omega) (by omega) (by omega)
      have hca2 := call2_of (f := 7) rfl hca
      simp only [needles] at hca2
      refine stp (And.intro @d0 (And.intro @e0 @e1)) ?_
      refine kst trivial hca2 ?_
      cases cb with
      | true =>
        refine stp trivial ?_
        refine cstT trivial ?_
        refine stp trivial ?_
        refine kst trivial (hrun _) ?_
        refine stp trivial ?_
        refine ret1 trivial ?_
        exact (rfl)
      | false =>
        obtain ⟨r, hr1, hr2⟩ := and_16 iv
        have hb64 : IntKind.bits .i64 = 64 := rfl
        obtain ⟨i, hi⟩ : ∃ i, r % S.length = i := ⟨_, rfl⟩
        have hil : i < S.length := by rw [← hi]; exact Nat.mod_lt _ hSp
        have hmod : Int.tmod (r : Int) (S.length : Int) = (i : Int) := by rw [← hi]; rfl
        have hand : some (SV.int .i64 (IntKind.wrap .i64 ((BitVec.ofInt 64 iv &&& BitVec.ofInt 64 ((65535 : Nat) : Int)).toNat : Int)), H4) = some (SV.int .i64 (r : Int), H4) := congrArg (fun y => some (SV.int .i64 y, H4)) hr2
        refine stp trivial ?_
        refine cstE trivial ?_
        repeat (first | refine EC_skip ?_ | refine seqR_normal ?_ | refine EC_seq ?_ | refine EC_reg ?_)
        refine EO_mv (by (simp (disch := (first | omega | (simp only [List.length_cons, List.length_nil, List.length_append, List.length_take, List.length_drop, List.length_replicate, next_push, next_put, List.all_cons, List.all_nil, SV.one, Bool.and_self]; done) | (simp only [List.length_cons, List.length_nil, List.length_append, List.length_take, List.length_drop, List.length_replicate, next_push, next_put, List.all_cons, List.all_nil, SV.one, Bool.and_self]; omega) | fail)) only [go_sem, Nat.reduceAdd, Nat.reduceSub, Nat.reduceMul, Nat.zero_add, Nat.add_zero, Nat.mul_one, Nat.one_mul, Int.reduceToNat, Int.reduceAdd, Int.reduceSub, decide_true, decide_false]; first | done | with_reducible rfl)) (by simp only [List.set_cons_zero, List.set_cons_succ]; with_reducible rfl) ?_
        refine ast trivial hand ?_
        have hxi : S[i]? = some S[i] := List.getElem?_eq_getElem hil
        obtain ⟨x, hx⟩ : ∃ x, S[i]? = some x := ⟨_, hxi⟩
        obtain ⟨ls', last', dr, hTX', hls', hlen', hlaw⟩ := law_of hTX (t := t) (fun c hc => ⟨hcl rfl c hc, hb c hc⟩) (i := i) (x := x) (by rw [hs, hS]; exact hx)
        rw [hs] at hlaw hlen'
        rw [hS] at hlaw
        obtain ⟨s', hs'⟩ : ∃ s', textL ls' last' = s' := ⟨_, rfl⟩
        have hP' : Plain s' := by rw [← hs']; exact fun x hx => (hTX'.chars x hx).2
        have hB' : Bts s' := by rw [← hs']; exact fun x hx => (hTX'.chars x hx).1
        have hL' : LinesOK s' ls' last' := by rw [← hs']; exact hTX'.lines
        rw [hs'] at hlaw hlen'
        obtain ⟨S', hS'⟩ : ∃ S', secsF (headsL s'.length 0 ls' last') = S' := ⟨_, rfl⟩
        rw [hS'] at hlaw
        obtain ⟨fb, bt, tl, nl, new, ⟨x', hx', htt, hll⟩, drop1, drop2, drop3, hlen2⟩ := hlaw
        have hrow4 : H4.get b = some (.row (S.map secC).flatten 33 false false 0) := by rw [hE4.2 b hb2]; exact hrow
        have hcell := fun (j k : Nat) (y : Sec) (c : SV) (hj : S[j]? = some y) (hc : (secC y)[k]? = some c) (hk : k < 5) => rowL_one (e := 33) (ex := false) (ro := false) (frz := 0) (sec_cell hj k hc hk)
        have hfl : (S.map secC).flatten.length = S.length * 5 := by rw [flatten_len (secC_all _), List.length_map]
        obtain ⟨cs, hcs⟩ : ∃ cs, (S.map secC).flatten = cs := ⟨_, rfl⟩
        rw [hcs] at hrow4 hcell hfl
        obtain ⟨c, hc, hct⟩ : ∃ c, (c = 115 ∨ c = 116) ∧ x.title = [c] := by
          have hx2 := hx
          rw [← hS] at hx2
          obtain ⟨x0, h1, h2, _⟩ := secsF_mem (List.mem_of_getElem? hx2)
          rw [h2]
          rcases hTX.title h1 with e | e
          · exact ⟨115, .inl rfl, e⟩
          · exact ⟨116, .inr rfl, e⟩
        have r0 := hcell i 0 x (.int .i64 (x.level : Int)) hx rfl (by omega)
        have r1 := hcell i 1 x (.str x.title) hx rfl (by omega)
        have r2 := hcell i 2 x (.int .i64 (x.frm : Int)) hx rfl (by omega)
        have r3 := hcell i 3 x (.int .i64 (x.body : Int)) hx rfl (by omega)
        have r4 := hcell i 4 x (.int .i64 (x.to : Int)) hx rfl (by omega)
        rw [Nat.add_zero] at r0
        obtain ⟨hd2, hhd⟩ : ∃ hd2, (s.drop x.frm).take (x.body - x.frm) ++ t = hd2 := ⟨_, rfl⟩
        rw [hhd] at new
        have hd2n : hd2 ≠ [] := by
          intro e
          have e2 := congrArg List.length (hhd.trans e)
          simp at e2
          omega
        obtain ⟨H5, hrep, hE5⟩ := replace_ok (lf := lf) (n := n) (H := H4) (t := hd2) hP hB hL (by omega) (i := i) (x := x) (by rw [hS]; exact hx) (by omega) tl hd2n (by rw [new]; omega) (by omega) (by omega)
        rw [new] at hrep
        have hrep2 := call2_of (f := 9) rfl hrep
        obtain ⟨w', H6, hsec', hE6, hsl'⟩ := sections_ok (lf := lf) (n := n) (H := H5) hP' hB' hL' (by omega) (by omega) (by omega)
        have hsec3 := call2_of (f := 6) rfl hsec'
        rw [hS'] at hsl'
        obtain ⟨b', hb1', hb2', rfl, hrow'⟩ := hsl'.at (i := i) (x := secC x') (by rw [List.getElem?_map, hx']; rfl)
        rw [List.length_map] at hsec3
        have hrow6 : H6.get b = some (.row cs 33 false false 0) := by
          have hb4 : b < H4.next := Nat.lt_of_lt_of_le hb2 hE4.1
          rw [hE6.2 b (Nat.lt_of_lt_of_le hb4 hE5.1), hE5.2 b hb4]; exact hrow4
        refine stp (And.intro @hmod (And.intro @hrow4 (And.intro @r2 (And.intro @r3 @hhd)))) ?_
        refine kst trivial hrep2 ?_
        refine stp trivial ?_
        refine kst trivial hsec3 ?_
        have dbf : decide ((x.body : Int) = (x.frm : Int)) = false := by simp only [decide_eq_false_iff_not]; omega
        refine stp (And.intro @d0 (And.intro @hrow6 (And.intro @r2 (And.intro @r3 @dbf)))) ?_
        refine cstE @dbf ?_
        have hbs : ((x.body : Int) - ((1 : Nat) : Int)) = ((x.body - 1 : Nat) : Int) := by omega
        have d10 : decide (((10 : Nat) : Int) ≠ ((10 : Nat) : Int)) = false := by decide
        refine stp (And.intro @hrow6 (And.intro @r3 (And.intro @hbs @nl))) ?_
        refine cstE @d10 ?_
        refine stp trivial ?_
        refine EC_loop (I := I3 s s' b b' S.length S'.length i dr H6) ?_ dr ?_ (by omega)
        · rintro m ts D H7 ⟨rfl, rfl, k, rfl, hk, ⟨z, rfl, -⟩⟩
          by_cases hkd : k < dr
          · obtain ⟨y, hy, hyl⟩ := drop1 (i + 1 + k) (by omega) (by omega)
            have ry := hcell (i + 1 + k) 2 y (.int .i64 (y.frm : Int)) hy rfl (by omega)
            have dj : decide (((i + 1 + k : Nat) : Int) < (S.length : Int)) = true := by simp only [decide_eq_true_eq]; omega
            have dy : decide ((y.frm : Int) < (x.to : Int)) = true := by simp only [decide_eq_true_eq]; omega
            refine stp (And.intro @dj (And.intro @hrow6 (And.intro @ry (And.intro @r4 @dy)))) ?_
            refine cstT @dy ?_
            refine stp trivial ?_
            refine loopR_normal (dr - (k + 1)) (by omega) ⟨rfl, rfl, k + 1, rfl, by omega, ?_⟩
            exact (frame_in (by rfl) (trivial))
          · have hke : k = dr := by omega
            subst hke
            have hlq : ((S.length : Int) - (k : Int)) = (S'.length : Int) := by omega
            have he0 : decide ((S'.length : Int) ≠ (S'.length : Int)) = false := by simp
            have hrowS : H7.get b' = some (.row (S'.map secC).flatten 33 false false 0) := hrow'
            have q0 := rowL_one (e := 33) (ex := false) (ro := false) (frz := 0) (sec_cell hx' 0 (c := .int .i64 (x.level : Int)) (by rw [← hll]; rfl) (by omega))
            have q1 := rowL_one (e := 33) (ex := false) (ro := false) (frz := 0) (sec_cell hx' 1 (c := .str x.title) (by rw [← htt]; rfl) (by omega))
            obtain ⟨cs', hcs'⟩ : ∃ cs', (S'.map secC).flatten = cs' := ⟨_, rfl⟩
            rw [hcs'] at hrowS q0 q1
            rw [Nat.add_zero] at q0
            rw [hct] at q1 r1
            have et : decide ([c] ≠ [c]) = false := by simp
            have d11 : decide ((1 : Int) = ((1 : Nat) : Int)) = true := by decide
            have hcx : [c] ++ [120] = [c, 120] := rfl
            obtain ⟨HP, hHP⟩ : ∃ HP, ((H7.push (.row [.bool true, .str [115, 116, 97, 102, 102], .int .i64 ((0 : Nat) : Int), .str [65], .str [c, 120]] 39 true false 0)).push (.row [.nils, .nils, .nils] 44 true false 0)).put (H7.next + 1) (.row [.nils, .nils, .slice H7.next 0 1 (some 1) 5] 44 true false 0) = HP := ⟨_, rfl⟩
            have hbP : HP.get H7.next = some (.row [.bool true, .str [115, 116, 97, 102, 102], .int .i64 0, .str [65], .str [c, 120]] 39 true false 0) := by
              rw [← hHP, Heap.get_put, if_neg (by omega), get_push_old (by rw [next_push]; omega), get_push_self]
              rfl
            have hqP : HP.get (H7.next + 1) = some (.row [.nils, .nils, .slice H7.next 0 1 (some 1) 5] 44 true false 0) := by rw [← hHP]; exact get_put_self _ _
            have hltP : H7.next < HP.next := by rw [← hHP, next_put, next_push, next_push]; omega
            obtain ⟨H9, hcg, _⟩ := change_ok (lf := lf) (n := n) (H := HP) (c0 := some 1) (s := s) (s' := s') (name := [c, 120]) (by rw [← hs]; exact hTX.noSec (by rw [hs]; omega) (by omega) hc) (by rw [← hs']; exact hTX'.noSec (by rw [hs']; omega) (by omega) hc) (by simp) (by
              intro z hz
              simp only [List.mem_cons, List.mem_nil_iff, or_false] at hz
              omega) (by simp) hltP hbP (by omega) (by omega)
            have hcg2 : call2 lf n 10 [.agg [.nils, .nils, .slice H7.next 0 1 (some 1) 5], .nils, .agg [.int .i64 ((0 : Nat) : Int), .str [65]], .str s, .str s'] HP = some (.int .i64 1, H9) := call2_of (f := 10) rfl hcg
            have el : decide ((x.level : Int) ≠ (x.level : Int)) = false := by simp
            by_cases hjl : i + 1 + k < S.length
            · obtain ⟨y, hy⟩ : ∃ y, S[i + 1 + k]? = some y := ⟨_, List.getElem?_eq_getElem hjl⟩
              have hyl := drop2 y hy
              have ry := hcell (i + 1 + k) 2 y (.int .i64 (y.frm : Int)) hy rfl (by omega)
              have dj : decide (((i + 1 + k : Nat) : Int) < (S.length : Int)) = true := by simp only [decide_eq_true_eq]; omega
              have dy : decide ((y.frm : Int) < (x.to : Int)) = false := by simp only [decide_eq_false_iff_not]; omega
              refine stp (And.intro @dj (And.intro @hrow6 (And.intro @ry (And.intro @r4 @dy)))) ?_
              refine cstE @dy ?_
              refine stp (And.intro @hlq (And.intro @he0 (And.intro @hrowS (And.intro @hrow6 (And.intro @q0 (And.intro @q1 (And.intro @r0 (And.intro @r1 (And.intro @et @el))))))))) ?_
              refine cstE trivial ?_
              refine stp (And.intro @hrow6 (And.intro @r1 (And.intro @hcx (And.intro @hHP @hqP)))) ?_
              refine kst trivial hcg2 ?_
              refine stp @d11 ?_
              refine kst trivial (hrun _) ?_
              refine stp trivial ?_
              refine ret1 trivial ?_
              exact (rfl)
            · have dj : decide (((i + 1 + k : Nat) : Int) < (S.length : Int)) = false := by simp only [decide_eq_false_iff_not]; omega
              refine stp @dj ?_
              refine cstE @dj ?_
              refine stp (And.intro @hlq (And.intro @he0 (And.intro @hrowS (And.intro @hrow6 (And.intro @q0 (And.intro @q1 (And.intro @r0 (And.intro @r1 (And.intro @et @el))))))))) ?_
              refine cstE trivial ?_
              refine stp (And.intro @hrow6 (And.intro @r1 (And.intro @hcx (And.intro @hHP @hqP)))) ?_
              refine kst trivial hcg2 ?_
              refine stp @d11 ?_
              refine kst trivial (hrun _) ?_
              refine stp trivial ?_
              refine ret1 trivial ?_
              exact (rfl)
        · refine ⟨rfl, rfl, 0, rfl, by omega, ?_⟩
          exact (frame_in (by rfl) (trivial))
end
end Go.Sh
end
