/-
  Symbolic reckoning: section.plain at texts without calls, tags and links.
  Symbolic reckoning: section.heading.
  Symbolic reckoning: section.Sections.
-/
import Derived.Test.YtpcpmplkblbpbaaGreatDoorShC3
set_option linter.all false
section
namespace Go.Sh
set_option maxRecDepth 10000
set_option linter.all false
section
variable {ts : T} {H : Heap}
def mksV (elem : TypeId) (z bytes : Nat) (zero : List SV) (l c : SV) (H : Heap) : Option (SV × Heap) := evalOp (.mks elem z bytes zero (.t 0) (.t 1)) [l, c] H
theorem op_mks (elem : TypeId) (z bytes : Nat) (zero : List SV) (l c : X) : evalOp (.mks elem z bytes zero l c) ts H = mksV elem z bytes zero (l.ev ts) (c.ev ts) H := by
  simp only [evalOp, mksV]
  rfl
theorem mks_int {elem : TypeId} {z bytes : Nat} {zero : List SV} {k k' : IntKind} {l c : Nat} (h1 : l ≤ c) (h2 : c * bytes ≤ 35184372088832) (h3 : c ≤ 35184372088832) :
    mksV elem z bytes zero (.int k (l : Int)) (.int k' (c : Int)) H = some (.slice H.next 0 l (some c) z, H.push (.row ((List.replicate c zero).flatten) elem true false 0)) := by
  show (match Nat.ble l c && Nat.ble (c * bytes) roomS && Nat.ble c roomS with
      | true => some (SV.slice H.next 0 l (some c) z, H.push (.row ((List.replicate c zero).flatten) elem true false 0))
      | false => none) = _
  rw [ble_true h1, ble_true (show c * bytes ≤ roomS from h2), ble_true (show c ≤ roomS from h3)]
  rfl
theorem app_room {e z bytes b len cp : Nat} {cs x : List SV} {b' : Nat} {e' e2 : TypeId} {ex ex2 ro2 : Bool} {frz2 : Nat} {c : Option Nat} (hx : x.length = z) (hone : x.all SV.one = true) (hb' : H.get b' = some (.row x e' ex2 ro2 frz2))
    (hb : H.get b = some (.row cs e2 ex false 0)) (hlen : cp * z ≤ cs.length) (hl : len < cp) (h1 : (len + 1) * bytes ≤ 35184372088832) (h2 : len + 1 ≤ 35184372088832) :
    appV H false e z bytes (.slice b 0 len (some cp) z) (.slice b' 0 1 c z) = some (.slice b 0 (len + 1) (some cp) z, H.put b (.row (cs.take (len * z) ++ (x ++ cs.drop (len * z + z))) e2 ex false 0)) := by
  have hsrc := srcS_one (c := c) hx hb'
  have hle : (len + 1) * z ≤ cp * z := Nat.mul_le_mul_right z hl
  rw [Nat.add_mul, Nat.one_mul] at hle
  have hload : ∃ old, loadC H b 0 (len * z) = some old := by
    rw [loadC_eq, hb, rowL_row (by omega)]
    exact ⟨_, rfl⟩
  obtain ⟨old, hload⟩ := hload
  have hst : storeC H b (0 + len * z) x = some (H.put b (.row (cs.take (len * z) ++ (x ++ cs.drop (len * z + z))) e2 ex false 0)) := by
    rw [storeC_eq, hb, Nat.zero_add, sto_row (by omega) (Nat.zero_le _) hone, hx]
  unfold appV
  simp only [appS, hsrc, roomS, beq_self, ble_true h1, ble_true h2, hload, Bool.and_self]
  rw [ble_true (by omega), hst]
end
theorem flat1 (c : Nat) : (List.replicate c [SV.bool false]).flatten = List.replicate c (SV.bool false) := by
  induction c with
  | zero => rfl
  | succ c ih => rw [List.replicate_succ, List.flatten_cons, ih, List.replicate_succ]; rfl
theorem fillT (k n : Nat) (h : k < n) : (List.replicate k (SV.bool true) ++ List.replicate (n - k) (SV.bool false)).take k ++ ([SV.bool true] ++ (List.replicate k (SV.bool true) ++ List.replicate (n - k) (SV.bool false)).drop (k + 1)) =
    List.replicate (k + 1) (SV.bool true) ++ List.replicate (n - (k + 1)) (SV.bool false) := by
  have e1 : (List.replicate k (SV.bool true) ++ List.replicate (n - k) (SV.bool false)).take k = List.replicate k (SV.bool true) := by
    rw [List.take_append_of_le_length (by simp)]
    simp
  have e2 : (List.replicate k (SV.bool true) ++ List.replicate (n - k) (SV.bool false)).drop (k + 1) = List.replicate (n - (k + 1)) (SV.bool false) := by
    rw [show n - k = (n - (k + 1)) + 1 by omega, List.replicate_succ, List.drop_append, List.drop_of_length_le (by simp), List.length_replicate, show k + 1 - k = 1 by omega]
    rfl
  rw [e1, e2, List.replicate_succ', List.append_assoc]
def Trues (H : Heap) (v : SV) (n : Nat) : Prop := ∃ b, v = .slice b 0 n (some n) 1 ∧ b < H.next ∧ H.get b = some (.row (List.replicate n (.bool true)) 4 true false 0)
theorem tab52 : tabT 52 = some (.code c52) := by kernel_rfl
@[reducible] def I13 (s : List Nat) (nb0 : Nat) (H1 : Heap) (m : Nat) (ts : T) (D : DS) (H' : Heap) : Prop :=
  D = [] ∧ Ext H1 H' ∧ H1.next < H'.next ∧ ((m = 1 ∧ H'.get H1.next = some (.row (List.replicate s.length (.bool false)) 4 true false 0) ∧
    ∃ z1 z2 z3 z5 z7 z8 z9 z10 z11 z12 z13 z14 z15 z16 z17 z18 z19 z23 z24 z25 z26 z27 z28 z29 z30 z31 z32 z33 z34 z35 z36 z37 z38 z39 z40, ts = ([(.str s), z1, z2, z3, (.slice nb0 0 1 none 5), z5, (.slice H1.next 0 0 (some s.length) 1), z7, z8, z9, z10, z11, z12, z13, z14, z15, z16, z17, z18, z19, (.slice nb0 0 1 none 5), (.int .i64 ((1 : Nat) : Int)), (.int .i64 ((0 : Nat) : Int)), z23, z24, z25, z26, z27, z28, z29, z30, z31, z32, z33, z34, z35, z36, z37, z38, z39, z40] : T) ∧ (True)) ∨
   (m = 0 ∧ H'.get H1.next = some (.row (List.replicate s.length (.bool true)) 4 true false 0) ∧
    ∃ z1 z2 z3 z5 z7 z8 z9 z10 z11 z12 z13 z14 z15 z16 z17 z18 z19 z23 z24 z25 z26 z27 z28 z29 z30 z31 z32 z33 z34 z35 z36 z37 z38 z39 z40, ts = ([(.str s), z1, z2, z3, (.slice nb0 0 1 none 5), z5, (.slice H1.next 0 s.length (some s.length) 1), z7, z8, z9, z10, z11, z12, z13, z14, z15, z16, z17, z18, z19, (.slice nb0 0 1 none 5), (.int .i64 ((1 : Nat) : Int)), (.int .i64 ((1 : Nat) : Int)), z23, z24, z25, z26, z27, z28, z29, z30, z31, z32, z33, z34, z35, z36, z37, z38, z39, z40] : T) ∧ (True)))
@[reducible] def J13 (s : List Nat) (nb0 : Nat) (H1 : Heap) (nb : Nat) (m : Nat) (ts : T) (D : DS) (H' : Heap) : Prop :=
  D = [] ∧ Ext H1 H' ∧ ∃ k : Nat, m = s.length - k ∧ k ≤ s.length ∧ H1.next < nb ∧ nb < H'.next ∧ H'.get nb = some (.row (nodeC s) 214 true false 0) ∧
    H'.get H1.next = some (.row (List.replicate k (.bool true) ++ List.replicate (s.length - k) (.bool false)) 4 true false 0) ∧
    ∃ z1 z2 z3 z5 z7 z9 z10 z11 z12 z13 z14 z15 z16 z17 z18 z19 z23 z24 z25 z26 z27 z28 z31 z32 z33 z34 z35 z36 z37 z38 z39 z40, ts = ([(.str s), z1, z2, z3, (.slice nb0 0 1 none 5), z5, (.slice H1.next 0 k (some s.length) 1), z7, (.ptr nb 0), z9, z10, z11, z12, z13, z14, z15, z16, z17, z18, z19, (.slice nb0 0 1 none 5), (.int .i64 ((1 : Nat) : Int)), (.int .i64 ((0 : Nat) : Int)), z23, z24, z25, z26, z27, z28, (.int .i64 (s.length : Int)), (.int .i64 (k : Int)), z31, z32, z33, z34, z35, z36, z37, z38, z39, z40] : T) ∧ (True)
section
variable {lf n : Nat} {H : Heap}
theorem plain_ok {s : List Nat} (hp : Plain s) (hs : Bts s) (hlen : s.length ≤ 8192) (hn : 7 ≤ n) (hlf : s.length + 2 < lf) :
    ∃ (v : SV) (H' : Heap), callS tabT lf n 52 [.str s] H = some (.tup [v, .int .i64 0], H') ∧ Ext H H' ∧ Trues H' v s.length := by
  obtain ⟨n, rfl⟩ : ∃ m, n = m + 1 := ⟨n - 1, by omega⟩
  have key : ∃ v H', callS tabT lf (n + 1) 52 [.str s] H = some (v, H') ∧ ∃ w, v = .tup [w, .int .i64 0] ∧ Ext H H' ∧ Trues H' w s.length := by
    refine call_code tab52 (by simp only [c52, go_sem, List.reduceReplicate, Nat.reduceAdd, Nat.reduceSub]; exact rfl) ?_
    simp only [c52]
    refine stp trivial ?_
    obtain ⟨lv, H1, hparse, hE, hN⟩ := parse_ok (lf := lf) (n := n) (H := H) hp hlen (by omega) (by omega)
    refine kst trivial hparse ?_
    have d0 : decide ((0 : Int) ≠ ((0 : Nat) : Int)) = false := by decide
    refine stp @d0 ?_
    refine cstE trivial ?_
    have hmk : mksV 4 1 1 [SV.bool false] (.int .i64 ((0 : Nat) : Int)) (.int .i64 (s.length : Int)) H1 = some (.slice H1.next 0 0 (some s.length) 1, H1.push (.row (List.replicate s.length (SV.bool false)) 4 true false 0)) := by
      rw [mks_int (Nat.zero_le _) (by omega) (by omega), flat1]
    rcases hN with ⟨rfl, rfl⟩ | ⟨h0, nb0, rfl, hnb1, hnb⟩
    · have hmk' : mksV 4 1 1 [SV.bool false] (.int .i64 ((0 : Nat) : Int)) (.int .i64 ((0 : Nat) : Int)) H1 = some (.slice H1.next 0 0 (some 0) 1, H1.push (.row [] 4 true false 0)) := hmk
      refine stp (And.intro @op_mks @hmk') ?_
      refine EC_loop1 (by omega) ?_
      have d1 : decide (((0 : Nat) : Int) < (0 : Int)) = false := by decide
      refine stp @d1 ?_
      refine cstE trivial ?_
      refine stp trivial ?_
      refine ret2 trivial ?_
      exact (⟨_, rfl, hE.push _, ⟨H1.next, rfl, Nat.lt_succ_self _, get_push_self _⟩⟩)
    · refine stp (And.intro @op_mks @hmk) ?_
      have hl0 : s.length ≠ 0 := by simpa using h0
      refine EC_loop (I := I13 s nb0 H1) ?_ 1 ?_ (by omega)
      · rintro m ts D H' ⟨rfl, hE1, hnx, ⟨rfl, hrow, ⟨z1, z2, z3, z5, z7, z8, z9, z10, z11, z12, z13, z14, z15, z16, z17, z18, z19, z23, z24, z25, z26, z27, z28, z29, z30, z31, z32, z33, z34, z35, z36, z37, z38, z39, z40, rfl, -⟩⟩ | ⟨rfl, hrow, ⟨z1, z2, z3, z5, z7, z8, z9, z10, z11, z12, z13, z14, z15, z16, z17, z18, z19, z23, z24, z25, z26, z27, z28, z29, z30, z31, z32, z33, z34, z35, z36, z37, z38, z39, z40, rfl, -⟩⟩⟩
        · have d1 : decide (((0 : Nat) : Int) < ((1 : Nat) : Int)) = true := by decide
          have hnbr : H'.get nb0 = some (.row (nodeC s) 214 false false 0) := (hE1.2 nb0 hnb1).trans hnb
          have hlen5 : (nodeC s).length = 5 := rfl
          have htk : List.take 5 (nodeC s) = nodeC s := rfl
          have hdr : List.drop 5 (nodeC s) = [] := rfl
          have hone : (nodeC s).all SV.one = true := rfl
          refine stp @d1 ?_
          refine cstT trivial ?_
          refine stp (And.intro @hnbr (And.intro @hlen5 (And.intro @htk (And.intro @hdr (And.intro @hone @List.append_nil.{0}))))) ?_
          have hEa : Ext H' ((H'.push (.row [.int .i64 ((0 : Nat) : Int), .int .i64 ((0 : Nat) : Int), .str [], .nils, .nils] 214 true false 0)).put H'.next (.row (nodeC s) 214 true false 0)) := ((Ext.refl H').push _).put (Nat.le_refl _) _
          generalize hHa : ((H'.push (.row [.int .i64 ((0 : Nat) : Int), .int .i64 ((0 : Nat) : Int), .str [], .nils, .nils] 214 true false 0)).put H'.next (.row (nodeC s) 214 true false 0)) = Ha at hEa ⊢
          have hna : Ha.next = H'.next + 1 := by rw [← hHa]; rfl
          have hga : Ha.get H'.next = some (.row (nodeC s) 214 true false 0) := by rw [← hHa, get_put_self]
          rw [← hna]
          obtain ⟨H2, hsrc, hE2⟩ := source_ok (lf := lf) (n := n) (H := Ha.push (.row (nodeC s) 214 true false 0)) hs h0 (by omega) (get_push_self _) (by rw [next_push]; omega) (by omega) (by omega)
          refine kst trivial hsrc ?_
          refine stp trivial ?_
          have hE3 : Ext Ha H2 := ((Ext.refl Ha).push _).trans hE2
          have hE4 : Ext H' H2 := hEa.trans hE3
          have hn2 : H'.next + 1 < H2.next := by have := hE2.1; rw [next_push] at this; omega
          refine EC_loop (I := J13 s nb0 H1 H'.next) ?_ s.length ?_ (by omega)
          · rintro m ts D H3 ⟨rfl, hF, k, rfl, hk, hn3, hn4, hnode, hrow3, ⟨z1, z2, z3, z5, z7, z9, z10, z11, z12, z13, z14, z15, z16, z17, z18, z19, z23, z24, z25, z26, z27, z28, z31, z32, z33, z34, z35, z36, z37, z38, z39, z40, rfl, -⟩⟩
            refine stp trivial ?_
            refine cst trivial (fun hc => ?_) (fun hc => ?_) <;> try simp only [decide_eq_true_eq, decide_eq_false_iff_not, not_true_eq_false, not_false_eq_true, Int.not_lt, Int.not_le, ge_iff_le, gt_iff_lt] at hc
            · have hk' : k < s.length := by omega
              have hnode' : H3.get H'.next = some (.row [.int .i64 ((1 : Nat) : Int), .int .i64 ((0 : Nat) : Int), .str s, .nils, .nils] 214 true false 0) := hnode
              have e11 : decide (((1 : Nat) : Int) = ((1 : Nat) : Int)) = true := by decide
              have happ := app_room (H := H3.push (.row [SV.bool true] 4 true false 0)) (e := 4) (z := 1) (bytes := 1) (b := H1.next) (len := k) (cp := s.length) (x := [SV.bool true]) (b' := H3.next) (c := some 1) rfl rfl (get_push_self _) (by rw [get_push_old (by omega)]; exact hrow3) (by simp; omega) hk' (by omega) (by omega)
              rw [Nat.mul_one, fillT k s.length hk'] at happ
              refine stp (And.intro @hnode' (And.intro @e11 @happ)) ?_
              refine loopR_normal (s.length - (k + 1)) (by omega) ⟨rfl, ?_, k + 1, rfl, by omega, hn3, ?_, ?_, get_put_self _ _, ?_⟩
              · exact (hF.push _).put (Nat.le_refl _) _
              · rw [next_put, next_push]; omega
              · rw [get_put_other (by omega), get_push_old (by omega)]; exact hnode
              · exact ⟨_, _, _, _, _, _, _, _, _, _, _, _, _, _, _, _, _, _, _, _, _, _, _, _, _, _, _, _, _, _, _, _, rfl, trivial⟩
            · have hkk : k = s.length := by omega
              subst hkk
              rw [Nat.sub_self, List.replicate_zero, List.append_nil] at hrow3
              refine stp trivial ?_
              refine loopR_normal 0 (by omega) ⟨rfl, hF, by omega, .inr ⟨rfl, hrow3, ?_⟩⟩
              exact ⟨_, _, _, _, _, _, _, _, _, _, _, _, _, _, _, _, _, _, _, _, _, _, _, _, _, _, _, _, _, _, _, _, _, _, _, rfl, trivial⟩
          · refine ⟨rfl, hE1.trans hE4, 0, by omega, Nat.zero_le _, hnx, by omega, ?_, ?_, ?_⟩
            · rw [hE3.2 _ (by omega)]; exact hga
            · rw [hE4.2 _ hnx, hrow]
              simp
            · exact ⟨_, _, _, _, _, _, _, _, _, _, _, _, _, _, _, _, _, _, _, _, _, _, _, _, _, _, _, _, _, _, _, _, rfl, trivial⟩
        · have d1 : decide (((1 : Nat) : Int) < ((1 : Nat) : Int)) = false := by decide
          refine stp @d1 ?_
          refine cstE trivial ?_
          refine stp trivial ?_
          refine ret2 trivial ?_
          exact (⟨_, rfl, hE.trans hE1, ⟨H1.next, rfl, hnx, hrow⟩⟩)
      · refine ⟨rfl, (Ext.refl _).push _, by rw [next_push]; omega, .inl ⟨rfl, get_push_self _, ?_⟩⟩
        exact ⟨_, _, _, _, _, _, _, _, _, _, _, _, _, _, _, _, _, _, _, _, _, _, _, _, _, _, _, _, _, _, _, _, _, _, _, rfl, trivial⟩
  obtain ⟨v, H', h, w, rfl, h1, h2⟩ := key
  exact ⟨w, H', h, h1, h2⟩
end
end Go.Sh
end
section
namespace Go.Sh
set_option maxRecDepth 10000
set_option linter.all false
def headF (line : List Nat) : Nat × List Nat × Bool :=
  let l := trimR isSp line
  let f := l.length - (l.dropWhile isEq).length
  let b := l.length - (trimR isEq l).length
  if f = 0 ∨ b = 0 ∨ f = l.length then (0, [], false)
  else
    let v := min (min 6 f) b
    let name := (trimR isSp ((l.drop v).take (l.length - v - v))).dropWhile isSp
    (v, name, decide (name ≠ []))
theorem dropWhile_nil {p : Nat → Bool} : ∀ {l : List Nat}, l.dropWhile p = [] → ∀ x ∈ l, p x = true
  | [], _, x, hx => by simp at hx
  | y :: l, h, x, hx => by
    rw [List.dropWhile_cons] at h
    split at h
    · rcases List.mem_cons.1 hx with rfl | hx
      · assumption
      · exact dropWhile_nil h x hx
    · cases h
theorem res_three {ts : T} {H : Heap} (r q o : SRes) (v w u : SV) (h : resOne ts H r = some v) (h2 : resOne ts H q = some w) (h3 : resOne ts H o = some u) : resS [r, q, o] ts H = some (.tup [v, w, u]) := by simp only [resS, mapO, h, h2, h3]
theorem trimR_longer {p : Nat → Bool} {l : List Nat} (h : l.dropWhile p ≠ []) : (l.length - (l.dropWhile p).length) + 1 ≤ (trimR p l).length := by
  obtain ⟨A, B, hl, hA, hB⟩ : ∃ A B, l = A ++ B ∧ A.length = l.length - (l.dropWhile p).length ∧ B = l.dropWhile p := by
    refine ⟨l.takeWhile p, l.dropWhile p, (List.takeWhile_append_dropWhile ..).symm, ?_, rfl⟩
    have := congrArg List.length (List.takeWhile_append_dropWhile (p := p) (l := l))
    rw [List.length_append] at this
    omega
  rw [← hA]
  have hne : B ≠ [] := by rw [hB]; exact h
  obtain ⟨x, r, hxr⟩ : ∃ x r, B = x :: r := by
    cases B with
    | nil => exact absurd rfl hne
    | cons x r => exact ⟨x, r, rfl⟩
  have hx : p x = false := by
    have := List.head_dropWhile_not p (l := l) h
    simp only [← hB, hxr, List.head_cons] at this
    simpa using this
  unfold trimR
  rw [List.length_reverse, hl, List.reverse_append, List.dropWhile_append]
  have hd : B.reverse.dropWhile p ≠ [] := by
    intro e
    have hall := dropWhile_nil e
    have := hall x (by rw [hxr]; simp)
    rw [hx] at this
    cases this
  have hie : (B.reverse.dropWhile p).isEmpty = false := by
    cases hq : B.reverse.dropWhile p with
    | nil => exact absurd hq hd
    | cons a b => rfl
  rw [hie]
  simp only [Bool.false_eq_true, if_false, List.length_append, List.length_reverse]
  have : (B.reverse.dropWhile p).length ≠ 0 := by
    intro e
    exact hd (List.eq_nil_of_length_eq_zero e)
  omega
section
variable {ts : T} {H : Heap}
def mnxV (isMax : Bool) (vs : List SV) : Option SV := match vs with
  | [] => none
  | v :: rest => minmax isMax v rest
theorem op_mnx (isMax : Bool) (xs : List X) : evalOp (.mnx isMax xs) ts H = okS (mnxV isMax (evs ts xs)) H := by
  simp only [evalOp, mnxV]
  cases evs ts xs with
  | nil => rfl
  | cons v rest => rfl
theorem mnx_min3 (a b c : Nat) : mnxV false [.int .i64 (a : Int), .int .i64 (b : Int), .int .i64 (c : Int)] = some (.int .i64 ((min (min a b) c : Nat) : Int)) := by
  simp only [mnxV, minmax, if_true, Bool.false_eq_true, if_false]
  congr 2
  have h1 : (if (b : Int) < (a : Int) then (b : Int) else (a : Int)) = ((min a b : Nat) : Int) := by
    split <;> omega
  rw [h1]
  split <;> omega
end
attribute [go_sem] op_mnx mnx_min3
theorem tab54 : tabT 54 = some (.code c54) := by kernel_rfl
section
variable {lf n : Nat} {H : Heap}
theorem heading_ok {line : List Nat} (hs : Bts line) (hlen : line.length < 100000) (hn : 4 ≤ n) (hlf : line.length + 2 < lf) :
    ∃ H', callS tabT lf n 54 [.str line] H = some (.tup [.int .i64 ((headF line).1 : Int), .str (headF line).2.1, .bool (headF line).2.2], H') ∧ Ext H H' := by
  obtain ⟨n, rfl⟩ : ∃ m, n = m + 1 := ⟨n - 1, by omega⟩
  have key : ∃ v H', callS tabT lf (n + 1) 54 [.str line] H = some (v, H') ∧ (v = .tup [.int .i64 ((headF line).1 : Int), .str (headF line).2.1, .bool (headF line).2.2] ∧ Ext H H') := by
    refine call_code tab54 (by simp only [c54, go_sem, List.reduceReplicate, Nat.reduceAdd, Nat.reduceSub]; exact rfl) ?_
    simp only [c54]
    refine stp trivial ?_
    obtain ⟨H1, h1, hE1⟩ := trimRight_sp (lf := lf) (n := n) (H := H) hs (by omega) (by omega) (by omega) (by omega)
    refine kst trivial h1 ?_
    refine stp trivial ?_
    have hbl : Bts (trimR isSp line) := trimR_bts hs
    have hll := trimR_len isSp line
    have hgoal : headF line = (let l := trimR isSp line
      let f := l.length - (l.dropWhile isEq).length
      let b := l.length - (trimR isEq l).length
      if f = 0 ∨ b = 0 ∨ f = l.length then (0, [], false)
      else
        let v := min (min 6 f) b
        let name := (trimR isSp ((l.drop v).take (l.length - v - v))).dropWhile isSp
        (v, name, decide (name ≠ []))) := rfl
    generalize trimR isSp line = l at hbl hll hgoal ⊢
    have hdl : (l.dropWhile isEq).length ≤ l.length := (List.dropWhile_sublist _).length_le
    have htl := trimR_len isEq l
    have h2 := trimLeft_eq (lf := lf) (n := n) (H := H1) hbl (by omega) (by omega) (by omega)
    have h3 := trimRight_eq (lf := lf) (n := n) (H := H1) hbl (by omega) (by omega) (by omega)
    obtain ⟨f, hfd⟩ : ∃ f, l.length - (l.dropWhile isEq).length = f := ⟨_, rfl⟩
    obtain ⟨b, hbd⟩ : ∃ b, l.length - (trimR isEq l).length = b := ⟨_, rfl⟩
    have hf : ((l.length : Int) - ((l.dropWhile isEq).length : Int)) = (f : Int) := by omega
    have hb : ((l.length : Int) - ((trimR isEq l).length : Int)) = (b : Int) := by omega
    simp only [hfd, hbd] at hgoal
    refine kst trivial h2 ?_
    refine stp @hf ?_
    refine kst trivial h3 ?_
    by_cases c1 : f = 0
    · rw [if_pos (.inl c1)] at hgoal
      rw [hgoal]
      have d1 : decide ((f : Int) = ((0 : Nat) : Int)) = true := by simp only [decide_eq_true_eq]; omega
      refine stp (And.intro @hf (And.intro @hb @d1)) ?_
      refine cstT trivial ?_
      refine stp trivial ?_
      refine funR_ret (res_three _ _ _ _ _ _ (by exact sfc trivial) (by exact sfc trivial) (by exact sfc trivial)) ?_
      exact ⟨rfl, hE1⟩
    · have d1 : decide ((f : Int) = ((0 : Nat) : Int)) = false := by simp only [decide_eq_false_iff_not]; omega
      by_cases c2 : b = 0
      · rw [if_pos (.inr (.inl c2))] at hgoal
        rw [hgoal]
        have d2 : decide ((b : Int) = ((0 : Nat) : Int)) = true := by simp only [decide_eq_true_eq]; omega
        refine stp (And.intro @hf (And.intro @hb (And.intro @d1 @d2))) ?_
        refine cstT trivial ?_
        refine stp trivial ?_
        refine funR_ret (res_three _ _ _ _ _ _ (by exact sfc trivial) (by exact sfc trivial) (by exact sfc trivial)) ?_
        exact ⟨rfl, hE1⟩
      · have d2 : decide ((b : Int) = ((0 : Nat) : Int)) = false := by simp only [decide_eq_false_iff_not]; omega
        by_cases c3 : f = l.length
        · rw [if_pos (.inr (.inr c3))] at hgoal
          rw [hgoal]
          have d3 : decide ((f : Int) = (l.length : Int)) = true := by simp only [decide_eq_true_eq]; omega
          refine stp (And.intro @hf (And.intro @hb (And.intro @d1 (And.intro @d2 @d3)))) ?_
          refine cstT trivial ?_
          refine stp trivial ?_
          refine funR_ret (res_three _ _ _ _ _ _ (by exact sfc trivial) (by exact sfc trivial) (by exact sfc trivial)) ?_
          exact ⟨rfl, hE1⟩
        · have d3 : decide ((f : Int) = (l.length : Int)) = false := by simp only [decide_eq_false_iff_not]; omega
          rw [if_neg (by simp only [c1, c2, c3, or_self, not_false_eq_true])] at hgoal
          rw [hgoal]
          have hlong := trimR_longer (p := isEq) (l := l) (by
            intro e
            rw [e] at hfd
            simp at hfd
            omega)
          rw [hfd] at hlong
          obtain ⟨v, hv⟩ : ∃ v, min (min 6 f) b = v := ⟨_, rfl⟩
          have hv1 : v + v ≤ l.length := by omega
          have hv2 : v ≤ 6 := by omega
          rw [hv]
          refine stp (And.intro @hf (And.intro @hb (And.intro @d1 (And.intro @d2 @d3)))) ?_
          refine cstE trivial ?_
          have hsub : ((l.length : Int) - (v : Int)) = ((l.length - v : Nat) : Int) := by omega
          refine stp (And.intro @hf (And.intro @hb (And.intro @hv @hsub))) ?_
          have hb4 : Bts ((l.drop v).take (l.length - v - v)) := fun x hx => hbl x (List.mem_of_mem_drop (List.mem_of_mem_take hx))
          have hl4 : ((l.drop v).take (l.length - v - v)).length ≤ l.length := by simp; omega
          obtain ⟨H2, h4, hE2⟩ := trim_sp (lf := lf) (n := n) (H := H1) hb4 (by omega) (by omega) (by omega) (by omega)
          refine kst trivial h4 ?_
          refine stp trivial ?_
          refine funR_ret (res_three _ _ _ _ _ _ (by exact sfc trivial) (by exact sfc trivial) (by exact sfc trivial)) ?_
          exact ⟨rfl, hE1.trans hE2⟩
  obtain ⟨v, H', h, rfl, hE⟩ := key
  exact ⟨H', h, hE⟩
end
end Go.Sh
end
section
namespace Go.Sh
set_option maxRecDepth 10000
set_option linter.all false
structure Sec where
  level : Nat
  title : List Nat
  frm : Nat
  body : Nat
  to : Nat
def secC (x : Sec) : List SV := [.int .i64 (x.level : Int), .str x.title, .int .i64 (x.frm : Int), .int .i64 (x.body : Int), .int .i64 (x.to : Int)]
theorem secC_all (L : List Sec) : AllL 5 (L.map secC) := fun x hx => by
  obtain ⟨t, _, rfl⟩ := List.mem_map.1 hx
  rfl
def textL (ls : List (List Nat)) (last : List Nat) : List Nat := (ls.map (· ++ [10])).flatten ++ last
def headsL (tot : Nat) : Nat → List (List Nat) → List Nat → List Sec
  | at_, [], last => if last = [] then [] else if (headF last).2.2 = true then [⟨(headF last).1, (headF last).2.1, at_, at_ + last.length, tot⟩] else []
  | at_, l :: ls, last => if (headF l).2.2 = true then ⟨(headF l).1, (headF l).2.1, at_, at_ + l.length + 1, tot⟩ :: headsL tot (at_ + l.length + 1) ls last else headsL tot (at_ + l.length + 1) ls last
def secsF : List Sec → List Sec
  | [] => []
  | x :: L => { x with to := match L.find? (fun y => decide (y.level ≤ x.level)) with | some y => y.frm | none => x.to } :: secsF L
theorem ixb_no : ∀ {l : List Nat} {i : Nat}, 10 ∉ l → ixb l 10 i = -1
  | [], _, _ => rfl
  | x :: l, i, h => by
    have hx : Nat.beq x 10 = false := beq_false (by intro e; subst e; exact h (List.mem_cons_self ..))
    rw [ixb, hx]
    exact ixb_no fun hm => h (List.mem_cons_of_mem _ hm)
theorem ixb_mid : ∀ {l r : List Nat} {i : Nat}, 10 ∉ l → ixb (l ++ 10 :: r) 10 i = ((i + l.length : Nat) : Int)
  | [], r, i, _ => by simp [ixb]
  | x :: l, r, i, h => by
    have hx : Nat.beq x 10 = false := beq_false (by intro e; subst e; exact h (List.mem_cons_self ..))
    rw [List.cons_append, ixb, hx]
    dsimp only
    rw [ixb_mid fun hm => h (List.mem_cons_of_mem _ hm), List.length_cons]
    congr 1
    omega
theorem textL_cons (l : List Nat) (ls : List (List Nat)) (last : List Nat) : textL (l :: ls) last = l ++ 10 :: textL ls last := by
  simp [textL]
theorem secsF_length : ∀ L, (secsF L).length = L.length
  | [] => rfl
  | x :: L => by simp [secsF, secsF_length L]
theorem secsF_get : ∀ (L : List Sec) (i : Nat) (x : Sec), L[i]? = some x → (secsF L)[i]? = some { x with to := match (L.drop (i + 1)).find? (fun y => decide (y.level ≤ x.level)) with | some y => y.frm | none => x.to }
  | y :: L, 0, x, h => by
    simp at h
    subst h
    simp [secsF]
  | y :: L, i + 1, x, h => by
    have := secsF_get L i x (by simpa using h)
    simpa [secsF] using this
theorem flat_cell {z i j : Nat} {L : List (List SV)} {x : List SV} {c : SV} (h : AllL z L) (hi : L[i]? = some x) (hj : x[j]? = some c) (hjz : j < z) : L.flatten[i * z + j]? = some c := by
  have h1 := flatten_at h hi
  have h2 : ((L.flatten.drop (i * z)).take z)[j]? = some c := by rw [h1]; exact hj
  rw [List.getElem?_take, if_pos hjz, List.getElem?_drop] at h2
  exact h2
theorem flat_set {z j : Nat} {v : SV} : ∀ {L : List (List SV)} {i : Nat} {x : List SV}, AllL z L → L[i]? = some x → j < z → L.flatten.take (i * z + j) ++ ([v] ++ L.flatten.drop (i * z + j + 1)) = (L.set i (x.set j v)).flatten
  | y :: L, 0, x, h, hi, hj => by
    simp at hi
    subst hi
    have hy := h y (List.mem_cons_self ..)
    rw [Nat.zero_mul, Nat.zero_add, List.flatten_cons, List.set_cons_zero, List.flatten_cons, List.take_append_of_le_length (by omega), List.drop_append_of_le_length (by omega)]
    rw [List.set_eq_take_append_cons_drop, if_pos (by omega)]
    simp
  | y :: L, i + 1, x, h, hi, hj => by
    have hy := h y (List.mem_cons_self ..)
    have ih := flat_set (v := v) (L := L) (i := i) (x := x) (fun w hw => h w (List.mem_cons_of_mem _ hw)) (by simpa using hi) hj
    rw [List.flatten_cons, List.set_cons_succ, List.flatten_cons, ← ih]
    have e1 : (i + 1) * z + j = y.length + (i * z + j) := by rw [Nat.add_mul, Nat.one_mul, hy]; omega
    rw [e1, Nat.add_assoc, List.take_append, List.drop_append, List.take_of_length_le (by omega), List.drop_of_length_le (by omega), Nat.add_sub_cancel_left, List.nil_append, show y.length + (i * z + j + 1) - y.length = i * z + j + 1 by omega]
    simp
theorem app_sec {B0 : Nat} {H0 H' : Heap} {w : SV} {L : List Sec} (t : Sec) (hsl : Sl B0 110 5 H' w (L.map secC)) (hB : B0 ≤ H'.next) (hE : Ext H0 H') (hB0 : H0.next ≤ B0) (hlen : L.length < 10000) :
    ∃ w1 H1, appV (H'.push (.row (secC t) 110 true false 0)) false 110 5 48 w (.slice H'.next 0 1 (some 1) 5) = some (w1, H1) ∧ Sl B0 110 5 H1 w1 ((L ++ [t]).map secC) ∧ Ext H0 H1 ∧ H1.next = H'.next + 2 ∧ (∀ c, c < B0 → H1.get c = H'.get c) := by
  have hE1 : Ext H' (H'.push (.row (secC t) 110 true false 0)) := (Ext.refl _).push _
  obtain ⟨w1, H1, h1, h2, h3, h4⟩ := app_one (H := H'.push (.row (secC t) 110 true false 0)) (B0 := B0) (x := secC t) (b' := H'.next) (bytes := 48) (c := some 1) (hsl.keep hE1) (secC_all L) rfl rfl (get_push_self _) (by rw [next_push]; omega) (by rw [List.length_map]; omega) (by rw [List.length_map]; omega)
  rw [next_push] at h3
  refine ⟨w1, H1, h1, by rw [List.map_append]; exact h2, ⟨?_, fun b hb => ?_⟩, h3, fun c hc => ?_⟩
  · have := hE.1
    omega
  · rw [h4 b (by omega), get_push_old (Nat.lt_of_lt_of_le hb hE.1)]
    exact hE.2 b hb
  · rw [h4 c hc, get_push_old (by omega)]
theorem tab32 : tabT 32 = some (.code c32) := by kernel_rfl
end Go.Sh
end
