/-
  Differences: the lines of a text. (frame style z)
-/
import Derived.Test.YtpcpmplkblbpbaaGreatDoorShD3
set_option linter.all false
section
namespace Go.Sh
set_option maxRecDepth 10000
set_option linter.all false
section
variable {ts : T} {H : Heap}
def slvS (z : Nat) (lo hi : Option SV) (v : SV) : Option SV := match v with
  | .nils => match (match hi with | none => some 0 | some x => idx x 0), (match lo with | none => some 0 | some x => idx x 0) with
    | some _, some _ => some .nils
    | _, _ => none
  | .slice b o n cap z' => match Nat.beq z z' with
    | false => none
    | true => match (match hi with | none => some n | some x => idx x (limS cap n)) with
      | some h => match (match lo with | none => some 0 | some x => idx x h) with
        | some l => some (resl b o z l h cap)
        | none => none
      | none => none
  | _ => none
theorem op_slv (z : Nat) (lo hi : Option X) (x : X) : evalOp (.slv z lo hi none x) ts H = okS (slvS z (lo.map (X.ev ts)) (hi.map (X.ev ts)) (x.ev ts)) H := by
  simp only [evalOp]
  cases x.ev ts with
  | nils => cases lo <;> cases hi <;> simp only [idxOpt, slvS, Option.map] <;> (repeat' split) <;> simp_all [okS]
  | slice b o n cap z' =>
    simp only [slvS, mxS]
    cases Nat.beq z z' with
    | false => rfl
    | true =>
      cases hi with
      | none =>
        cases lo with
        | none => rfl
        | some l =>
          simp only [idxOpt, Option.map]
          cases idx (l.ev ts) n <;> rfl
      | some h =>
        simp only [idxOpt, Option.map]
        cases idx (h.ev ts) (limS cap n) with
        | none => rfl
        | some h' =>
          cases lo with
          | none => rfl
          | some l =>
            dsimp only
            cases idx (l.ev ts) h' <;> rfl
  | _ => rfl
theorem slv_hi {z b o n : Nat} {cap : Option Nat} {k : IntKind} {h : Int} (h0 : 0 ≤ h) (hh : h ≤ (limS cap n : Nat)) : slvS z none (some (.int k h)) (.slice b o n cap z) = some (resl b o z 0 h.toNat cap) := by
  simp only [slvS, Nat.beq_refl, idx_int h0 hh]
theorem slv_lo {z b o n : Nat} {cap : Option Nat} {k : IntKind} {l : Int} (h0 : 0 ≤ l) (hh : l ≤ (n : Nat)) : slvS z (some (.int k l)) none (.slice b o n cap z) = some (resl b o z l.toNat n cap) := by
  simp only [slvS, Nat.beq_refl, idx_int h0 hh]
theorem xcn_op (x c : X) : evalOp (.xcn x c) ts H = okS (match x.ev ts, c.ev ts with
    | .str l, .int .u8 n => some (.int .i64 (Int.ofNat (cnb l (n.toNat % 256))))
    | _, _ => none) H := by
  simp only [evalOp]
  cases x.ev ts <;> try rfl
  cases c.ev ts <;> try rfl
  rename_i k n
  cases k <;> rfl
end
def xcnV (x c : SV) : Option SV := match x, c with
  | .str l, .int .u8 n => some (.int .i64 (Int.ofNat (cnb l (n.toNat % 256))))
  | _, _ => none
theorem op_xcn {ts : T} {H : Heap} (x c : X) : evalOp (.xcn x c) ts H = okS (xcnV (x.ev ts) (c.ev ts)) H := xcn_op x c
theorem xcn_str (l : List Nat) (n : Int) : xcnV (.str l) (.int .u8 n) = some (.int .i64 ((cnb l (n.toNat % 256) : Nat) : Int)) := rfl
attribute [go_sem] op_slv op_xcn xcn_str Option.map_none Option.map_some
def N10 (l : List Nat) : Prop := 10 ∉ l
theorem N10.ne {l : List Nat} (h : N10 l) : ∀ x ∈ l, x ≠ 10 := fun x hx e => h (e ▸ hx)
theorem N10.tail {a : Nat} {l : List Nat} (h : N10 (a :: l)) : N10 l := fun hx => h (List.mem_cons_of_mem _ hx)
theorem cnb_n10 {l r : List Nat} (h : N10 l) : cnb (l ++ r) 10 = cnb r 10 := by
  induction l with
  | nil => rfl
  | cons a l ih =>
    have ha : Nat.beq a 10 = false := by
      have := h.ne a (List.mem_cons_self ..)
      cases hb : Nat.beq a 10 with
      | false => rfl
      | true => exact absurd (Nat.eq_of_beq_eq_true hb) this
    rw [List.cons_append, cnb, ha]
    exact ih h.tail
theorem cnb_text : ∀ {ls : List (List Nat)} {last : List Nat}, (∀ l ∈ ls, N10 l) → N10 last → cnb (textL ls last) 10 = ls.length
  | [], last, _, h => by
    have := cnb_n10 (r := []) h
    simp only [List.append_nil] at this
    have e0 : cnb [] 10 = 0 := by simp [cnb]
    rw [e0] at this
    exact this
  | l :: ls, last, h, h' => by
    have e : textL (l :: ls) last = l ++ (10 :: textL ls last) := by simp [textL]
    rw [e, cnb_n10 (h l (List.mem_cons_self ..)), cnb, List.length_cons]
    show cnb (textL ls last) 10 + 1 = _
    rw [cnb_text (fun x hx => h x (List.mem_cons_of_mem _ hx)) h']
theorem ixs_n10 {l r : List Nat} (h : N10 l) : ∀ i, ixs (l ++ 10 :: r) [10] i = Int.ofNat (i + l.length) := by
  induction l with
  | nil =>
    intro i
    simp [ixs, pre]
  | cons a l ih =>
    intro i
    have ha : Nat.beq 10 a = false := by
      have := h.ne a (List.mem_cons_self ..)
      cases hb : Nat.beq 10 a with
      | false => rfl
      | true => exact absurd (Nat.eq_of_beq_eq_true hb).symm this
    rw [List.cons_append, ixs]
    simp only [pre, ha, Bool.false_and]
    rw [ih h.tail, List.length_cons, Nat.add_assoc, Nat.add_comm 1]
theorem tab104 : tabT 104 = some (.native natIndex) := by kernel_rfl
theorem tab103 : tabT 103 = some (.code c103) := by kernel_rfl
theorem tab58 : tabT 58 = some (.code c58) := by kernel_rfl
theorem tab41 : tabT 41 = some (.code c41) := by kernel_rfl
theorem tab19 : tabT 19 = some (.code c19) := by kernel_rfl
section
variable {lf n : Nat} {H : Heap}
theorem index_ok {s sub : List Nat} (hl : s.length < 1000000) (hn : 1 ≤ n) : callS tabT lf n 104 [.str s, .str sub] H = some (.int .i64 (ixs s sub 0), H) := by
  obtain ⟨n, rfl⟩ : ∃ m, n = m + 1 := ⟨n - 1, by omega⟩
  have hb : Nat.blt s.length 4294967281 = true := by
    rw [Nat.blt_eq]; omega
  simp only [callS, tab104, natIndex, hb]
theorem count_ok {s : List Nat} (hn : 1 ≤ n) : callS tabT lf n 103 [.str s, .str [10]] H = some (.int .i64 ((cnb s 10 : Nat) : Int), H) := by
  obtain ⟨n, rfl⟩ : ∃ m, n = m + 1 := ⟨n - 1, by omega⟩
  have key : ∃ v H', callS tabT lf (n + 1) 103 [.str s, .str [10]] H = some (v, H') ∧ v = .int .i64 ((cnb s 10 : Nat) : Int) ∧ H' = H := by
    have hx : (([10] : List Nat)[0]? : Option Nat) = some 10 := rfl
    have d0 : decide (((1 : Nat) : Int) = ((0 : Nat) : Int)) = false := by decide
    refine call_code tab103 (by simp only [c103, go_sem, List.reduceReplicate, Nat.reduceAdd, Nat.reduceSub]; exact rfl) ?_
    simp only [c103]
    refine stp @d0 ?_
    refine cstE @d0 ?_
    refine stp @d_one' ?_
    refine cstT @d_one' ?_
    refine stp @hx ?_
    refine ret1 trivial ?_
    exact (⟨rfl, rfl⟩)
  obtain ⟨v, H', h, rfl, rfl⟩ := key
  exact h
def splF (ls : List (List Nat)) (last : List Nat) : List (List Nat) := ls.map (· ++ [10]) ++ [last]
theorem splF_len (ls : List (List Nat)) (last : List Nat) : (splF ls last).length = ls.length + 1 := by simp [splF]
theorem rep1 (c : Nat) (v : SV) : (List.replicate c [v]).flatten = List.replicate c v := by
  induction c with
  | zero => rfl
  | succ c ih => rw [List.replicate_succ, List.flatten_cons, ih, List.replicate_succ]; rfl
def r58 (ls : List (List Nat)) (i : Nat) : List SV := ((ls.take i).map (· ++ [10])).map SV.str ++ List.replicate (ls.length + 1 - i) (.str [])
theorem r58_len {ls : List (List Nat)} {i : Nat} (h : i ≤ ls.length) : (r58 ls i).length = ls.length + 1 := by
  simp [r58]
  omega
theorem one_strs (L : List (List Nat)) : (L.map SV.str).all SV.one = true := by
  rw [List.all_eq_true]
  intro x hx
  obtain ⟨c, _, rfl⟩ := List.mem_map.1 hx
  rfl
theorem r58_one (ls : List (List Nat)) (i : Nat) : (r58 ls i).all SV.one = true := by
  rw [r58, List.all_append, one_strs, Bool.true_and, List.all_eq_true]
  intro x hx
  obtain ⟨_, rfl⟩ := List.mem_replicate.1 hx
  rfl
theorem r58_set {ls : List (List Nat)} {i : Nat} {l : List Nat} (hi : ls[i]? = some l) : (r58 ls i).take i ++ ([SV.str (l ++ [10])] ++ (r58 ls i).drop (i + 1)) = r58 ls (i + 1) := by
  have hl : i < ls.length := (List.getElem?_eq_some_iff.1 hi).1
  have e0 : (((ls.take i).map (· ++ [10])).map SV.str).length = i := by simp; omega
  have e1 : ls.take (i + 1) = ls.take i ++ [l] := by rw [List.take_succ, hi]; rfl
  have e2 : ls.length + 1 - i = (ls.length + 1 - (i + 1)) + 1 := by omega
  unfold r58
  rw [e1, e2, List.replicate_succ, List.take_append_of_le_length (by omega), List.take_of_length_le (by omega)]
  rw [List.drop_append, List.drop_eq_nil_of_le (by omega), e0, Nat.add_sub_cancel_left]
  simp
theorem r58_end {ls : List (List Nat)} {last : List Nat} : (r58 ls ls.length).take ls.length ++ ([SV.str last] ++ (r58 ls ls.length).drop (ls.length + 1)) = (splF ls last).map SV.str := by
  have e0 : ((ls.map (· ++ [10])).map SV.str).length = ls.length := by simp
  unfold r58 splF
  rw [List.take_length, Nat.add_sub_cancel_left, List.take_append_of_le_length (by omega), List.take_of_length_le (by omega)]
  rw [List.drop_append, List.drop_eq_nil_of_le (by omega), e0, Nat.add_sub_cancel_left]
  simp
theorem textL_drop {ls : List (List Nat)} {last : List Nat} {i : Nat} {l : List Nat} (hi : ls[i]? = some l) : textL (ls.drop i) last = l ++ 10 :: textL (ls.drop (i + 1)) last := by
  obtain ⟨h, rfl⟩ := List.getElem?_eq_some_iff.1 hi
  rw [List.drop_eq_getElem_cons h]
  simp only [textL, List.map_cons, List.flatten_cons, List.append_assoc, List.cons_append, List.nil_append]
@[reducible] def I58 (ls : List (List Nat)) (last : List Nat) (H0 : Heap) (m : Nat) (ts : T) (D : DS) (H' : Heap) : Prop :=
  D = [] ∧ Ext H0 H' ∧ H0.next < H'.next ∧ ∃ i : Nat, m = ls.length - i ∧ i ≤ ls.length ∧ H'.get H0.next = some (.row (r58 ls i) 9 true false 0) ∧
    ∃ z : Nat → SV, ts = ((.str (textL (ls.drop i) last)) :: (.str [10]) :: (.int .i64 1) :: (.int .i64 (ls.length : Int)) :: z 4 :: z 5 :: z 6 :: z 7 :: z 8 :: (.slice H0.next 0 (ls.length + 1) (some (ls.length + 1)) 1) :: (.int .i64 (i : Int)) :: z 11 :: z 12 :: z 13 :: z 14 :: z 15 :: z 16 :: z 17 :: z 18 :: z 19 :: z 20 :: z 21 :: z 22 :: z 23 :: z 24 :: z 25 :: z 26 :: z 27 :: z 28 :: z 29 :: z 30 :: z 31 :: z 32 :: z 33 :: z 34 :: z 35 :: z 36 :: z 37 :: z 38 :: z 39 :: z 40 :: z 41 :: z 42 :: z 43 :: z 44 :: z 45 :: z 46 :: z 47 :: z 48 :: z 49 :: z 50 :: z 51 :: z 52 :: z 53 :: z 54 :: z 55 :: z 56 :: z 57 :: z 58 :: z 59 :: z 60 :: z 61 :: z 62 :: z 63 :: z 64 :: z 65 :: [] : T) ∧ (True)
theorem genSplit_ok {s : List Nat} {ls : List (List Nat)} {last : List Nat} (hs : LinesOK s ls last) (hl : s.length < 1000000) (hn : 2 ≤ n) (hlf : s.length < lf) :
    ∃ H', callS tabT lf n 58 [.str s, .str [10], .int .i64 1, .int .i64 (-1)] H = some (.slice H.next 0 (ls.length + 1) (some (ls.length + 1)) 1, H') ∧ Ext H H' ∧ H.next < H'.next ∧ H'.get H.next = some (.row ((splF ls last).map SV.str) 9 true false 0) := by
  obtain ⟨n, rfl⟩ : ∃ m, n = m + 1 := ⟨n - 1, by omega⟩
  obtain ⟨rfl, hnl, hlast⟩ := hs
  have key : ∃ v H', callS tabT lf (n + 1) 58 [.str (textL ls last), .str [10], .int .i64 1, .int .i64 (-1)] H = some (v, H') ∧ v = .slice H.next 0 (ls.length + 1) (some (ls.length + 1)) 1 ∧ Ext H H' ∧ H.next < H'.next ∧ H'.get H.next = some (.row ((splF ls last).map SV.str) 9 true false 0) := by
    have hc := count_ok (lf := lf) (n := n) (H := H) (s := textL ls last) (by omega)
    rw [cnb_text hnl hlast] at hc
    have d0 : decide ((-1 : Int) = ((0 : Nat) : Int)) = false := by decide
    have d1 : decide (([10] : List Nat) = []) = false := by decide
    have d2 : decide ((-1 : Int) < ((0 : Nat) : Int)) = true := by decide
    have hll : ∀ (l : List (List Nat)), l.length ≤ (textL l last).length := by
      intro l
      induction l with
      | nil => simp
      | cons a l ih =>
        have e : textL (a :: l) last = a ++ (10 :: textL l last) := by simp [textL]
        rw [e]
        simp
        omega
    have hl0 := hll ls
    have hc1 : (ls.length : Int) + ((1 : Nat) : Int) = ((ls.length + 1 : Nat) : Int) := by omega
    have hmn : mnxV false [.int .i64 ((ls.length + 1 : Nat) : Int), .int .i64 (((textL ls last).length : Int) + ((1 : Nat) : Int))] = some (.int .i64 ((ls.length + 1 : Nat) : Int)) := by
      have : ¬ (((textL ls last).length : Int) + ((1 : Nat) : Int) < ((ls.length + 1 : Nat) : Int)) := by omega
      simp only [mnxV, minmax, if_true, Bool.false_eq_true, if_false, if_neg this]
    have hsub : ((ls.length + 1 : Nat) : Int) - ((1 : Nat) : Int) = (ls.length : Int) := by omega
    have hmk : mksV 9 1 16 [.str []] (.int .i64 ((ls.length + 1 : Nat) : Int)) (.int .i64 ((ls.length + 1 : Nat) : Int)) H = some (.slice H.next 0 (ls.length + 1) (some (ls.length + 1)) 1, H.push (.row (List.replicate (ls.length + 1) (.str [])) 9 true false 0)) := by
      rw [mks_int (Nat.le_refl _) (by omega) (by omega), rep1]
    refine call_code tab58 (by simp only [c58, go_sem, List.reduceReplicate, Nat.reduceAdd, Nat.reduceSub]; exact rfl) ?_
    simp only [c58]
    refine stp @d0 ?_
    refine cstE @d0 ?_
    refine stp @d1 ?_
    refine cstE @d1 ?_
    refine stp @d2 ?_
    refine cstT @d2 ?_
    refine stp trivial ?_
    refine kst trivial hc ?_
    refine stp @hc1 ?_
    refine stp @hmn ?_
    obtain ⟨H1, hH1⟩ : ∃ H1, H.push (.row (List.replicate (ls.length + 1) (.str [])) 9 true false 0) = H1 := ⟨_, rfl⟩
    have hg1 : H1.get H.next = some (.row (r58 ls 0) 9 true false 0) := by
      rw [← hH1, get_push_self]
      simp [r58]
    have hE1 : Ext H H1 := by rw [← hH1]; exact (Ext.refl _).push _
    have hn1 : H.next < H1.next := by rw [← hH1]; exact Nat.lt_succ_self _
    refine stp (And.intro @op_mks (And.intro @hmk (And.intro @hH1 @hsub))) ?_
    refine EC_loop (I := I58 ls last H) ?_ ls.length ?_ (by omega)
    · rintro m ts D H2 ⟨rfl, hE2, hn2, i, rfl, hi, hg2, ⟨z, rfl, -⟩⟩
      refine stp trivial ?_
      refine cst trivial (fun hc => ?_) (fun hc => ?_) <;> try simp only [decide_eq_true_eq, decide_eq_false_iff_not, not_true_eq_false, not_false_eq_true, Int.not_lt, Int.not_le, ge_iff_le, gt_iff_lt] at hc
      · obtain ⟨l, hli⟩ : ∃ l, ls[i]? = some l := ⟨_, List.getElem?_eq_getElem (by omega)⟩
        have hnl' := hnl l (List.mem_of_getElem? hli)
        have htx := textL_drop (last := last) hli
        have hlt := hll (ls.drop i)
        have hlen : (textL (ls.drop i) last).length ≤ (textL ls last).length := by
          have : ∀ (l : List (List Nat)) (k : Nat), (textL (l.drop k) last).length ≤ (textL l last).length := by
            intro l
            induction l with
            | nil => intro k; simp
            | cons a l ih =>
              intro k
              cases k with
              | zero => simp
              | succ k =>
                have := ih k
                have e : textL (a :: l) last = a ++ (10 :: textL l last) := by simp [textL]
                rw [List.drop_succ_cons, e]
                simp
                omega
          exact this ls i
        obtain ⟨r, hr⟩ : ∃ r, textL (ls.drop (i + 1)) last = r := ⟨_, rfl⟩
        rw [hr] at htx
        rw [htx] at hlen
        have hix := index_ok (lf := lf) (n := n) (H := H2) (s := l ++ 10 :: r) (sub := [10]) (by omega) (by omega)
        rw [ixs_n10 (r := r) hnl' 0, Nat.zero_add] at hix
        have hix' : callS tabT lf n 104 [.str (l ++ 10 :: r), .str [10]] H2 = some (.int .i64 (l.length : Int), H2) := hix
        have dn : decide ((l.length : Int) < ((0 : Nat) : Int)) = false := by simp only [decide_eq_false_iff_not]; omega
        rw [htx]
        obtain ⟨s, hs⟩ : ∃ s, l ++ 10 :: r = s := ⟨_, rfl⟩
        rw [hs] at hix' htx hlen
        rw [hs]
        have hsl : s.length = l.length + 1 + r.length := by rw [← hs]; simp; omega
        have k1 : s.take (l.length + 1 - 0) = l ++ [10] := by
          rw [← hs]
          have : l ++ 10 :: r = (l ++ [10]) ++ r := by simp
          rw [this, Nat.sub_zero, List.take_append_of_le_length (by simp), List.take_of_length_le (by simp)]
        have k2 : (s.drop (l.length + 1)).take (s.length - (l.length + 1)) = r := by
          rw [← hs]
          have : l ++ 10 :: r = (l ++ [10]) ++ r := by simp
          rw [this, List.drop_append, List.drop_eq_nil_of_le (by simp), List.nil_append, List.take_of_length_le (by simp; omega)]
          simp
        have hq : (l.length : Int) + (1 : Int) = ((l.length + 1 : Nat) : Int) := by omega
        have hq2 : (l.length : Int) + ((0 + 1 : Nat) : Int) = ((l.length + 1 : Nat) : Int) := by omega
        have hr1 := r58_len hi
        have ho := r58_one ls i
        have hst := r58_set hli
        obtain ⟨cs, hcs⟩ : ∃ cs, r58 ls i = cs := ⟨_, rfl⟩
        rw [hcs] at hg2 hr1 ho hst
        refine stp trivial ?_
        refine kst trivial hix' ?_
        refine stp @dn ?_
        refine cstE @dn ?_
        refine stp (And.intro @hq (And.intro @hq2 (And.intro @k1 (And.intro @k2 @hg2)))) ?_
        refine loopR_normal (ls.length - (i + 1)) (by omega) ⟨rfl, hE2.put (Nat.le_refl _) _, hn2, i + 1, rfl, by omega, ?_, ?_⟩
        · rw [get_put_self, ← hst]
          rfl
        · rw [hr]
          exact (frame_in (by rfl) (trivial))
      · have hie : i = ls.length := by omega
        subst hie
        have hr1 := r58_len (Nat.le_refl ls.length)
        have ho := r58_one ls ls.length
        have hst := r58_end (ls := ls) (last := last)
        have hdr : textL (ls.drop ls.length) last = last := by simp [textL]
        rw [hdr]
        obtain ⟨cs, hcs⟩ : ∃ cs, r58 ls ls.length = cs := ⟨_, rfl⟩
        rw [hcs] at hg2 hr1 ho hst
        have hsv : slvS 1 none (some (.int .i64 ((ls.length + 1 : Nat) : Int))) (.slice H.next 0 (ls.length + 1) (some (ls.length + 1)) 1) = some (.slice H.next 0 (ls.length + 1) (some (ls.length + 1)) 1) := by
          rw [slv_hi (by omega) (by show _ ≤ ((ls.length + 1 : Nat) : Int); omega)]
          rfl
        refine stp (And.intro @hg2 (And.intro @hc1 @hsv)) ?_
        refine ret1 trivial ?_
        exact (⟨rfl, hE2.put (Nat.le_refl _) _, hn2, by rw [get_put_self, ← hst]; rfl⟩)
    · refine ⟨rfl, hE1, hn1, 0, by omega, by omega, hg1, ?_⟩
      rw [List.drop_zero]
      exact (frame_in (by rfl) (trivial))
  obtain ⟨v, H', h, rfl, hr⟩ := key
  exact ⟨H', h, hr⟩
theorem splitAfter_ok {s : List Nat} {ls : List (List Nat)} {last : List Nat} (hs : LinesOK s ls last) (hl : s.length < 1000000) (hn : 3 ≤ n) (hlf : s.length < lf) :
    ∃ H', callS tabT lf n 41 [.str s, .str [10]] H = some (.slice H.next 0 (ls.length + 1) (some (ls.length + 1)) 1, H') ∧ Ext H H' ∧ H.next < H'.next ∧ H'.get H.next = some (.row ((splF ls last).map SV.str) 9 true false 0) := by
  obtain ⟨n, rfl⟩ : ∃ m, n = m + 1 := ⟨n - 1, by omega⟩
  have key : ∃ v H', callS tabT lf (n + 1) 41 [.str s, .str [10]] H = some (v, H') ∧ v = .slice H.next 0 (ls.length + 1) (some (ls.length + 1)) 1 ∧ Ext H H' ∧ H.next < H'.next ∧ H'.get H.next = some (.row ((splF ls last).map SV.str) 9 true false 0) := by
    obtain ⟨H1, hc, hE, hn1, hg⟩ := genSplit_ok (n := n) (H := H) hs hl (by omega) hlf
    have hc' : callS tabT lf n 58 [.str s, .str [10], .int .i64 ((1 : Nat) : Int), .int .i64 (Int.negSucc 0)] H = some (.slice H.next 0 (ls.length + 1) (some (ls.length + 1)) 1, H1) := hc
    refine call_code tab41 (by simp only [c41, go_sem, List.reduceReplicate, Nat.reduceAdd, Nat.reduceSub]; exact rfl) ?_
    simp only [c41]
    refine stp trivial ?_
    refine kst trivial hc' ?_
    refine stp trivial ?_
    refine ret1 trivial ?_
    exact (⟨rfl, hE, hn1, hg⟩)
  obtain ⟨v, H', h, rfl, hr⟩ := key
  exact ⟨H', h, hr⟩
def linF (ls : List (List Nat)) (last : List Nat) : List (List Nat) := ls.map (· ++ [10]) ++ (if last = [] then [] else [last])
theorem linF_text (ls : List (List Nat)) (last : List Nat) : (linF ls last).flatten = textL ls last := by
  unfold linF textL
  split
  · rename_i h; rw [h]; simp
  · simp
theorem textL_le (last : List Nat) : ∀ (l : List (List Nat)), l.length ≤ (textL l last).length
  | [] => by simp
  | a :: l => by
    have e : textL (a :: l) last = a ++ (10 :: textL l last) := by simp [textL]
    have := textL_le last l
    rw [e]
    simp
    omega
theorem linF_len (ls : List (List Nat)) (last : List Nat) : (linF ls last).length = ls.length + (if last = [] then 0 else 1) := by
  unfold linF
  split <;> simp
theorem linF_spl {ls : List (List Nat)} {last : List Nat} {i : Nat} {x : List Nat} (h : (linF ls last)[i]? = some x) : (splF ls last)[i]? = some x := by
  unfold linF splF at *
  split at h
  · rw [List.append_nil] at h
    rw [List.getElem?_append_left (List.getElem?_eq_some_iff.1 h).1]
    exact h
  · exact h
def Ls (B0 : Nat) (H : Heap) (v : SV) (L : List (List Nat)) : Prop :=
  ∃ (b o : Nat) (cap : Option Nat) (cs : List SV) (ex ro : Bool) (frz : Nat), v = .slice b o L.length cap 1 ∧ B0 ≤ b ∧ b < H.next ∧ H.get b = some (.row cs 9 ex ro frz) ∧ (∀ c, cap = some c → o + c ≤ cs.length ∧ L.length ≤ c) ∧ o + L.length ≤ cs.length ∧ ∀ j x, L[j]? = some x → cs[o + j]? = some (.str x)
theorem lines19_ok {s : List Nat} {ls : List (List Nat)} {last : List Nat} (hs : LinesOK s ls last) (hl : s.length < 1000000) (hn : 4 ≤ n) (hlf : s.length < lf) :
    ∃ v H', callS tabT lf n 19 [.str s] H = some (v, H') ∧ Ext H H' ∧ Ls H.next H' v (linF ls last) := by
  obtain ⟨n, rfl⟩ : ∃ m, n = m + 1 := ⟨n - 1, by omega⟩
  have key : ∃ v H', callS tabT lf (n + 1) 19 [.str s] H = some (v, H') ∧ Ext H H' ∧ Ls H.next H' v (linF ls last) := by
    obtain ⟨H1, hc, hE, hn1, hg⟩ := splitAfter_ok (n := n) (H := H) hs hl (by omega) hlf
    have hll := textL_le last ls
    rw [← hs.eq] at hll
    have hsub : ((ls.length + 1 : Nat) : Int) - ((1 : Nat) : Int) = (ls.length : Int) := by omega
    have hlast : (splF ls last)[ls.length]? = some last := by
      unfold splF
      rw [List.getElem?_append_right (by simp)]
      simp
    have hcell : rowL (some (.row ((splF ls last).map SV.str) 9 true false 0)) ls.length 1 = some [.str last] := rowL_one (by rw [List.getElem?_map, hlast]; rfl)
    obtain ⟨cs, hcs⟩ : ∃ cs, (splF ls last).map SV.str = cs := ⟨_, rfl⟩
    have hcl : cs.length = ls.length + 1 := by rw [← hcs, List.length_map, splF_len]
    have hat : ∀ j x, (linF ls last)[j]? = some x → cs[0 + j]? = some (.str x) := fun j x h => by
      rw [Nat.zero_add, ← hcs, List.getElem?_map, linF_spl h]
      rfl
    rw [hcs] at hg hcell
    have hmn : mnxV false [.int .i64 ((1 : Nat) : Int), .int .i64 (last.length : Int)] = some (.int .i64 ((if last = [] then 0 else 1 : Nat) : Int)) := by
      simp only [mnxV, minmax, if_true, Bool.false_eq_true, if_false]
      by_cases h : last = []
      · subst h; rfl
      · have : last.length ≠ 0 := by simpa using h
        have h2 : ¬ ((last.length : Int) < ((1 : Nat) : Int)) := by omega
        rw [if_neg h2, if_neg h]
    have hadd : (ls.length : Int) + ((if last = [] then 0 else 1 : Nat) : Int) = (((linF ls last).length : Nat) : Int) := by rw [linF_len]; omega
    have hle : (linF ls last).length ≤ ls.length + 1 := by rw [linF_len]; split <;> omega
    have hsv : slvS 1 none (some (.int .i64 (((linF ls last).length : Nat) : Int))) (.slice H.next 0 (ls.length + 1) (some (ls.length + 1)) 1) = some (.slice H.next 0 (linF ls last).length (some (ls.length + 1)) 1) := by
      rw [slv_hi (by omega) (by show _ ≤ ((ls.length + 1 : Nat) : Int); omega)]
      rfl
    refine call_code tab19 (by simp only [c19, go_sem, List.reduceReplicate, Nat.reduceAdd, Nat.reduceSub]; exact rfl) ?_
    simp only [c19]
    refine stp trivial ?_
    refine kst trivial hc ?_
    refine stp (And.intro @hsub (And.intro @hg @hcell)) ?_
    refine stp @hmn ?_
    refine stp (And.intro @hadd @hsv) ?_
    refine ret1 trivial ?_
    exact (⟨hE, H.next, 0, some (ls.length + 1), cs, true, false, 0, rfl, Nat.le_refl _, hn1, hg, fun c h => by cases h; omega, by omega, hat⟩)
  obtain ⟨v, H', h, hr⟩ := key
  exact ⟨v, H', h, hr⟩
end
end Go.Sh
end
