/-
  Symbolic reckoning: slices that grow.
  Symbolic reckoning: strings.Trim, HasSuffix, IndexByte; the tape; tokens.
  Symbolic reckoning: token.Text, token.Scan.
-/
import Derived.Test.YtpcpmplkblbpbaaGreatDoorShC1
set_option linter.all false
section
namespace Go.Sh
set_option maxRecDepth 10000
set_option linter.all false
def AllL (z : Nat) (L : List (List SV)) : Prop := ∀ x ∈ L, x.length = z
theorem flatten_len {z : Nat} : ∀ {L : List (List SV)}, AllL z L → L.flatten.length = L.length * z
  | [], _ => by simp
  | x :: L, h => by
    rw [List.flatten_cons, List.length_append, flatten_len (fun y hy => h y (List.mem_cons_of_mem _ hy)), h x (List.mem_cons_self ..), List.length_cons, Nat.add_mul, Nat.one_mul, Nat.add_comm]
theorem flatten_at {z : Nat} : ∀ {L : List (List SV)} {i : Nat} {x : List SV}, AllL z L → L[i]? = some x → (L.flatten.drop (i * z)).take z = x
  | y :: L, 0, x, h, e => by
    simp at e
    subst e
    have := h y (List.mem_cons_self ..)
    simp [← this]
  | y :: L, i + 1, x, h, e => by
    have hy := h y (List.mem_cons_self ..)
    rw [List.flatten_cons, Nat.add_mul, Nat.one_mul, Nat.add_comm, ← hy, List.drop_append, List.drop_of_length_le (by omega), Nat.add_sub_cancel_left, List.nil_append, hy]
    exact flatten_at (fun w hw => h w (List.mem_cons_of_mem _ hw)) (by simpa using e)
theorem rowL_at {z i : Nat} {L : List (List SV)} {x : List SV} {e : TypeId} {ex ro : Bool} {frz : Nat} (h : AllL z L) (hi : L[i]? = some x) : rowL (some (.row L.flatten e ex ro frz)) (i * z) z = some x := by
  have hlt : i < L.length := (List.getElem?_eq_some_iff.1 hi).1
  rw [rowL_row, flatten_at h hi]
  rw [flatten_len h]
  have : (i + 1) * z ≤ L.length * z := Nat.mul_le_mul_right z hlt
  rw [Nat.add_mul, Nat.one_mul] at this
  exact this
def Sl (B0 : Nat) (e z : Nat) (H : Heap) (v : SV) (L : List (List SV)) : Prop :=
  (L = [] ∧ v = .nils) ∨ (L ≠ [] ∧ ∃ b, B0 ≤ b ∧ b < H.next ∧ v = .slice b 0 L.length none z ∧ H.get b = some (.row L.flatten e false false 0))
theorem srcS_one {H : Heap} {b z : Nat} {x : List SV} {e : TypeId} {ex ro : Bool} {frz : Nat} {c : Option Nat} (hx : x.length = z) (hb : H.get b = some (.row x e ex ro frz)) : srcS H false z (.slice b 0 1 c z) = some (1, x) := by
  show (match Nat.beq z z with | true => (match loadC H b 0 (1 * z) with | some cs => some (1, cs) | none => none) | false => none) = _
  rw [beq_self, loadC_eq, hb, rowL_row (by omega)]
  simp [← hx]
theorem app_one {H : Heap} {B0 e z bytes : Nat} {v : SV} {L : List (List SV)} {x : List SV} {b' : Nat} {e' : TypeId} {ex ro : Bool} {frz : Nat} {c : Option Nat}
    (hS : Sl B0 e z H v L) (hL : AllL z L) (hx : x.length = z) (hone : x.all SV.one = true) (hb' : H.get b' = some (.row x e' ex ro frz)) (hB : B0 ≤ H.next)
    (h1 : (L.length + 1) * bytes ≤ 35184372088832) (h2 : L.length + 1 ≤ 35184372088832) :
    ∃ v' H', appS H false e z bytes v (.slice b' 0 1 c z) = some (v', H') ∧ Sl B0 e z H' v' (L ++ [x]) ∧ H'.next = H.next + 1 ∧ (∀ k, k < B0 → H'.get k = H.get k) := by
  have hsrc := srcS_one (c := c) hx hb'
  rcases hS with ⟨rfl, rfl⟩ | ⟨hne, b, hb0, hbn, rfl, hrow⟩
  · refine ⟨.slice H.next 0 1 none z, H.push (.row x e false false 0), ?_, ?_, rfl, fun k hk => get_push_old (by omega)⟩
    · simp only [appS, hsrc, roomS]
      rw [ble_true (by simpa using h1), ble_true (by omega)]
      rfl
    · exact .inr ⟨by simp, H.next, hB, Nat.lt_succ_self _, rfl, by rw [get_push_self]; simp⟩
  · have hlen := flatten_len hL
    have hload : loadC H b 0 (L.length * z) = some L.flatten := by
      rw [loadC_eq, hrow, rowL_row (by omega), List.drop_zero, ← hlen, List.take_length]
    refine ⟨.slice H.next 0 (L.length + 1) none z, (H.put b .dead).push (.row (L.flatten ++ x) e false false 0), ?_, ?_, rfl, fun k hk => ?_⟩
    · simp only [appS, hsrc, roomS, beq_self, ble_true h1, ble_true h2, hload, hrow, hone, Bool.and_self]
      rw [ble_true (Nat.zero_le _)]
      rfl
    · refine .inr ⟨by simp, H.next, hB, Nat.lt_succ_self _, by simp, ?_⟩
      have : (H.put b .dead).next = H.next := rfl
      rw [← this, get_push_self]
      simp
    · rw [get_push_old (by rw [next_put]; omega), get_put_other (by omega)]
def appV (H : Heap) (str : Bool) (elem : TypeId) (z bytes : Nat) (s x : SV) : Option (SV × Heap) := appS H str elem z bytes s x
theorem op_app {ts : T} {H : Heap} (str : Bool) (elem : TypeId) (z bytes : Nat) (s x : X) : evalOp (.app str elem z bytes s x) ts H = appV H str elem z bytes (s.ev ts) (x.ev ts) := rfl
theorem Sl.lenl {B0 e z : Nat} {H : Heap} {v : SV} {L : List (List SV)} (h : Sl B0 e z H v L) : lenlS v = some (.int .i64 (L.length : Int)) := by
  rcases h with ⟨rfl, rfl⟩ | ⟨_, b, _, _, rfl, _⟩ <;> rfl
theorem Sl.keep {B0 e z : Nat} {H H' : Heap} {v : SV} {L : List (List SV)} (h : Sl B0 e z H v L) (hE : Ext H H') : Sl B0 e z H' v L := by
  rcases h with h | ⟨hne, b, h1, h2, h3, h4⟩
  · exact .inl h
  · exact .inr ⟨hne, b, h1, Nat.lt_of_lt_of_le h2 hE.1, h3, by rw [hE.2 b h2]; exact h4⟩
attribute [go_sem] op_app
end Go.Sh
end
section
namespace Go.Sh
set_option maxRecDepth 10000
set_option linter.all false
theorem tab97 : tabT 97 = some (.code c97) := by kernel_rfl
theorem tab53 : tabT 53 = some (.code c53) := by kernel_rfl
theorem tab57 : tabT 57 = some (.code c57) := by kernel_rfl
theorem tab39 : tabT 39 = some (.code c39) := by kernel_rfl
theorem tab11 : tabT 11 = some (.code c11) := by kernel_rfl
theorem tab12 : tabT 12 = some (.code c12) := by kernel_rfl
theorem tab191 : tabT 191 = some (.code c191) := by kernel_rfl
theorem tab192 : tabT 192 = some (.code c192) := by kernel_rfl
theorem tab120 : tabT 120 = some (.code c120) := by kernel_rfl
theorem trimR_bts {p : Nat → Bool} {s : List Nat} (h : Bts s) : Bts (trimR p s) := fun x hx => h x (by
  unfold trimR at hx
  have h1 := List.mem_reverse.1 hx
  exact List.mem_reverse.1 ((List.dropWhile_sublist p).subset h1))
theorem trimR_len (p : Nat → Bool) (s : List Nat) : (trimR p s).length ≤ s.length := by
  unfold trimR
  rw [List.length_reverse]
  have := (List.dropWhile_sublist p (l := s.reverse)).length_le
  rwa [List.length_reverse] at this
section
variable {lf n : Nat} {H : Heap}
theorem trim_sp {s : List Nat} (hs : Bts s) (hlen : s.length < 1000000) (hn : 3 ≤ n) (hlf : s.length < lf) (hlf2 : 2 < lf) :
    ∃ H', callS tabT lf n 100 [.str s, .str [32, 9]] H = some (.str ((trimR isSp s).dropWhile isSp), H') ∧ Ext H H' := by
  obtain ⟨n, rfl⟩ : ∃ m, n = m + 1 := ⟨n - 1, by omega⟩
  have key : ∃ v H', callS tabT lf (n + 1) 100 [.str s, .str [32, 9]] H = some (v, H') ∧ (v = .str ((trimR isSp s).dropWhile isSp) ∧ Ext H H') := by
    refine call_code tab100 (by simp only [c100, go_sem, List.reduceReplicate, Nat.reduceAdd, Nat.reduceSub]; exact rfl) ?_
    simp only [c100]
    cases s with
    | nil =>
      refine stp @d_nn ?_
      refine cstT trivial ?_
      refine stp trivial ?_
      refine ret1 trivial ?_
      exact (⟨rfl, Ext.refl _⟩)
    | cons x r =>
      refine stp @d_cn ?_
      refine cstE trivial ?_
      refine stp (And.intro @d_two (And.intro @d_two' @d_two'')) ?_
      refine cstE trivial ?_
      refine stp trivial ?_
      obtain ⟨H1, hcall, hE⟩ := makeSet_ok (lf := lf) (n := n) (H := H) (l := [32, 9]) (by simp) (by omega) (by simpa using hlf2) (by simp)
      refine kst trivial hcall ?_
      have hal := asc_length [32, 9]
      have hone : (asc [32, 9]).all SV.one = true := asc_one _
      have hdr : List.drop 256 (List.replicate 256 (SV.bool false)) = [] := by simp
      refine stp (And.intro @hal (And.intro @hone (And.intro @hdr @List.append_nil.{0}))) ?_
      refine cstT trivial ?_
      refine stp trivial ?_
      have hcall2 := trimRightASCII_ok (lf := lf) (n := n) (H := (H1.push (SObj.row (List.replicate 256 (SV.bool false)) 300 true false 0)).put H1.next (SObj.row (asc [32, 9]) 300 true false 0)) (get_put_self _ _) hs hlen (by omega) hlf
      refine kst trivial hcall2 ?_
      have hle := trimR_len (fun c => [32, 9].contains c) (x :: r)
      have hcall3 := trimLeftASCII_ok (lf := lf) (n := n) (H := (H1.push (SObj.row (List.replicate 256 (SV.bool false)) 300 true false 0)).put H1.next (SObj.row (asc [32, 9]) 300 true false 0)) (get_put_self _ _) (trimR_bts (p := fun c => [32, 9].contains c) hs) (by omega) (by omega) (by omega)
      refine kst trivial hcall3 ?_
      refine stp trivial ?_
      refine ret1 trivial ?_
      exact (⟨rfl, (hE.push _).put hE.1 _⟩)
  obtain ⟨v, H', h, rfl, hE⟩ := key
  exact ⟨H', h, hE⟩
theorem indexByte_ok {s : List Nat} {c : Nat} (hc : c < 256) (hn : 2 ≤ n) : callS tabT lf n 53 [.str s, .int .u8 (c : Int)] H = some (.int .i64 (ixb s c 0), H) := by
  obtain ⟨n, rfl⟩ : ∃ m, n = m + 2 := ⟨n - 2, by omega⟩
  have hm : c % 256 = c := Nat.mod_eq_of_lt hc
  have k1 : ∃ v H', callS tabT lf (n + 1) 97 [.str s, .int .u8 (c : Int)] H = some (v, H') ∧ (v = .int .i64 (ixb s c 0) ∧ H' = H) := by
    refine call_code tab97 (by simp only [c97, go_sem, List.reduceReplicate, Nat.reduceAdd, Nat.reduceSub]; exact rfl) ?_
    simp only [c97]
    refine stp @hm ?_
    refine ret1 trivial ?_
    exact (⟨rfl, rfl⟩)
  obtain ⟨v, H', h1, rfl, rfl⟩ := k1
  have key : ∃ v H'', callS tabT lf (n + 1 + 1) 53 [.str s, .int .u8 (c : Int)] H' = some (v, H'') ∧ (v = .int .i64 (ixb s c 0) ∧ H'' = H') := by
    refine call_code tab53 (by simp only [c53, go_sem, List.reduceReplicate, Nat.reduceAdd, Nat.reduceSub]; exact rfl) ?_
    simp only [c53]
    refine stp trivial ?_
    refine kst trivial h1 ?_
    refine stp trivial ?_
    refine ret1 trivial ?_
    exact (⟨rfl, rfl⟩)
  obtain ⟨v, H'', h, rfl, rfl⟩ := key
  exact h
def TapeOK (H : Heap) (kb : Nat) : Prop := ∃ (lv : SV) (at_ : Int), H.get kb = some (.row [lv, .int .i64 at_] 40 true false 0) ∧ 0 ≤ at_ ∧
  ((lv = .nils) ∨ ∃ (lb lo len : Nat) (cap : Option Nat) (cs : List SV) (e : TypeId) (ex ro : Bool) (frz : Nat), lv = .slice lb lo len cap 1 ∧ lb ≠ kb ∧ lb < H.next ∧ H.get lb = some (.row cs e ex ro frz) ∧ len < 140737488355328 ∧
    (∀ i, i < len → ∃ x : Int, cs[lo + i]? = some (.int .i64 x)))
def TapeStep (H H' : Heap) (kb : Nat) : Prop := H'.next = H.next ∧ (∀ b, b ≠ kb → H'.get b = H.get b) ∧ TapeOK H' kb
theorem and_small (x : Int) : ∃ r : Int, 0 ≤ r ∧ r < 16777216 ∧ IntKind.wrap .i64 ((BitVec.ofInt 64 x &&& BitVec.ofInt 64 ((16777215 : Nat) : Int)).toNat : Int) = r := by
  have h1 : (BitVec.ofInt 64 x &&& BitVec.ofInt 64 ((16777215 : Nat) : Int)).toNat ≤ 16777215 := by
    rw [BitVec.toNat_and]
    exact Nat.le_trans Nat.and_le_right (by decide)
  exact ⟨_, by omega, by omega, wrap_i64 (by omega) (by omega)⟩
theorem next_ok {kb : Nat} (hT : TapeOK H kb) {m : Int} (hm : 0 < m) (hm2 : m < 1000000) (hn : 1 ≤ n) :
    ∃ (r : Int) (H' : Heap), callS tabT lf n 11 [.ptr kb 0, .int .i64 m] H = some (.int .i64 r, H') ∧ 0 ≤ r ∧ r < m ∧ TapeStep H H' kb := by
  obtain ⟨n, rfl⟩ : ∃ m, n = m + 1 := ⟨n - 1, by omega⟩
  have key : ∃ v H', callS tabT lf (n + 1) 11 [.ptr kb 0, .int .i64 m] H = some (v, H') ∧ ∃ r : Int, v = .int .i64 r ∧ 0 ≤ r ∧ r < m ∧ TapeStep H H' kb := by
    obtain ⟨lv, at_, hk, hat, hl⟩ := hT
    refine call_code tab11 (by simp only [c11, go_sem, List.reduceReplicate, Nat.reduceAdd, Nat.reduceSub]; exact rfl) ?_
    simp only [c11]
    rcases hl with rfl | ⟨lb, lo, len, cap, cs, e, ex, ro, frz, rfl, hne, hbn, hlb, hlen, hcs⟩
    · refine stp @hk ?_
      refine cst trivial (fun hc => ?_) (fun hc => ?_) <;> try simp only [decide_eq_true_eq, decide_eq_false_iff_not, not_true_eq_false, not_false_eq_true, Int.not_lt, Int.not_le, ge_iff_le, gt_iff_lt] at hc
      · refine stp trivial ?_
        refine ret1 trivial ?_
        exact (⟨0, rfl, by omega, by omega, rfl, fun _ _ => rfl, .nils, at_, hk, hat, .inl rfl⟩)
      · omega
    · refine stp @hk ?_
      refine cst trivial (fun hc => ?_) (fun hc => ?_) <;> try simp only [decide_eq_true_eq, decide_eq_false_iff_not, not_true_eq_false, not_false_eq_true, Int.not_lt, Int.not_le, ge_iff_le, gt_iff_lt] at hc
      · refine stp trivial ?_
        refine ret1 trivial ?_
        exact (⟨0, rfl, by omega, by omega, rfl, fun _ _ => rfl, _, at_, hk, hat, .inr ⟨lb, lo, len, cap, cs, e, ex, ro, frz, rfl, hne, hbn, hlb, hlen, hcs⟩⟩)
      · obtain ⟨x, hx⟩ := hcs at_.toNat (by omega)
        have hx1 : rowL (some (.row cs e ex ro frz)) (lo + at_.toNat) 1 = some [.int .i64 x] := rowL_one hx
        obtain ⟨r, hr0, hr1, hr⟩ := and_small x
        refine stp (And.intro @hk (And.intro @hlb (And.intro @hx1 @hr))) ?_
        have hb1 : IntKind.bits .i64 = 64 := rfl
        refine ret1 (And.intro @hb1 @hr) ?_
        exact (⟨r.tmod m, congrArg (fun y => SV.int .i64 (Int.tmod y m)) hr, Int.tmod_nonneg _ hr0, Int.tmod_lt_of_pos _ hm, rfl, fun b hb => get_put_other hb, _, _, get_put_self _ _, (by omega : (0 : Int) ≤ at_ + 1), .inr ⟨lb, lo, len, cap, cs, e, ex, ro, frz, rfl, hne, hbn, by rw [get_put_other hne]; exact hlb, hlen, hcs⟩⟩)
  obtain ⟨v, H', h, r, rfl, h1, h2, h3⟩ := key
  exact ⟨r, H', h, h1, h2, h3⟩
theorem of_ok {kb : Nat} (hT : TapeOK H kb) {b : Nat} {L : List (List Nat)} {c : Option Nat} {e : TypeId} {ex ro : Bool} {frz : Nat} (hb : H.get b = some (.row (L.map SV.str) e ex ro frz)) (hbk : b ≠ kb) (h0 : 0 < L.length) (hL : L.length < 1000) (hn : 2 ≤ n) :
    ∃ (s : List Nat) (H' : Heap), callS tabT lf n 12 [.ptr kb 0, .slice b 0 L.length c 1] H = some (.str s, H') ∧ s ∈ L ∧ TapeStep H H' kb := by
  obtain ⟨n, rfl⟩ : ∃ m, n = m + 1 := ⟨n - 1, by omega⟩
  have key : ∃ v H', callS tabT lf (n + 1) 12 [.ptr kb 0, .slice b 0 L.length c 1] H = some (v, H') ∧ ∃ s, v = .str s ∧ s ∈ L ∧ TapeStep H H' kb := by
    refine call_code tab12 (by simp only [c12, go_sem, List.reduceReplicate, Nat.reduceAdd, Nat.reduceSub]; exact rfl) ?_
    simp only [c12]
    refine stp trivial ?_
    obtain ⟨r, H1, hcall, hr0, hr1, hst⟩ := next_ok (lf := lf) (n := n) hT (m := (L.length : Int)) (by omega) (by omega) (by omega)
    refine kst trivial hcall ?_
    have hlt : r.toNat < L.length := by omega
    have hget : (L.map SV.str)[r.toNat]? = some (.str L[r.toNat]) := by simp [hlt]
    have hb1 : H1.get b = some (.row (L.map SV.str) e ex ro frz) := by rw [hst.2.1 b hbk]; exact hb
    have hrow : rowL (some (.row (L.map SV.str) e ex ro frz)) r.toNat 1 = some [.str L[r.toNat]] := rowL_one hget
    refine stp (And.intro @hb1 @hrow) ?_
    refine ret1 trivial ?_
    exact (⟨_, rfl, List.getElem_mem hlt, hst⟩)
  obtain ⟨v, H', h, s, rfl, h1, h2⟩ := key
  exact ⟨s, H', h, h1, h2⟩
/-! tokens -/
def tokK (c : Nat) : Nat := if c = 124 then 7 else if c = 61 then 8 else if c = 10 then 2 else 0
theorem hne_dec {c k : Nat} (h : c ≠ k) : decide ((c : Int) = ((k : Nat) : Int)) = false := by
  simp only [decide_eq_false_iff_not]; omega
theorem heq_dec (c : Nat) : decide ((c : Int) = ((c : Nat) : Int)) = true := by simp
theorem first_ok {c : Nat} {r : List Nat} (h1 : c ≠ 60) (h2 : c ≠ 123) (h3 : c ≠ 125) (h4 : c ≠ 91) (h5 : c ≠ 93) (hn : 1 ≤ n) :
    callS tabT lf n 191 [.str (c :: r)] H = some (.tup [.int .i64 (tokK c : Int), .int .i64 (if tokK c = 0 then 0 else 1)], H) := by
  obtain ⟨n, rfl⟩ : ∃ m, n = m + 1 := ⟨n - 1, by omega⟩
  have key : ∃ v H', callS tabT lf (n + 1) 191 [.str (c :: r)] H = some (v, H') ∧ (v = .tup [.int .i64 (tokK c : Int), .int .i64 (if tokK c = 0 then 0 else 1)] ∧ H' = H) := by
    refine call_code tab191 (by simp only [c191, go_sem, List.reduceReplicate, Nat.reduceAdd, Nat.reduceSub]; exact rfl) ?_
    simp only [c191]
    have d1 := hne_dec h1
    have d2 := hne_dec h2
    have d3 := hne_dec h3
    have d4 := hne_dec h4
    have d5 := hne_dec h5
    refine stp @d1 ?_
    refine cstE trivial ?_
    refine stp @d2 ?_
    refine cstE trivial ?_
    refine stp @d3 ?_
    refine cstE trivial ?_
    refine stp @d4 ?_
    refine cstE trivial ?_
    refine stp @d5 ?_
    refine cstE trivial ?_
    refine stp trivial ?_
    refine cst trivial (fun hc => ?_) (fun hc => ?_) <;> try simp only [decide_eq_true_eq, decide_eq_false_iff_not, not_true_eq_false, not_false_eq_true, Int.not_lt, Int.not_le, ge_iff_le, gt_iff_lt] at hc
    · have hc' : c = 124 := by omega
      subst hc'
      refine stp trivial ?_
      refine ret2 trivial ?_
      exact (⟨rfl, rfl⟩)
    · have k1 : c ≠ 124 := by omega
      refine stp trivial ?_
      refine cst trivial (fun hc => ?_) (fun hc => ?_) <;> try simp only [decide_eq_true_eq, decide_eq_false_iff_not, not_true_eq_false, not_false_eq_true, Int.not_lt, Int.not_le, ge_iff_le, gt_iff_lt] at hc
      · have hc' : c = 61 := by omega
        subst hc'
        refine stp trivial ?_
        refine ret2 trivial ?_
        exact (⟨rfl, rfl⟩)
      · have k2 : c ≠ 61 := by omega
        refine stp trivial ?_
        refine cst trivial (fun hc => ?_) (fun hc => ?_) <;> try simp only [decide_eq_true_eq, decide_eq_false_iff_not, not_true_eq_false, not_false_eq_true, Int.not_lt, Int.not_le, ge_iff_le, gt_iff_lt] at hc
        · have hc' : c = 10 := by omega
          subst hc'
          refine stp trivial ?_
          refine ret2 trivial ?_
          exact (⟨rfl, rfl⟩)
        · have k3 : c ≠ 10 := by omega
          have hk : tokK c = 0 := by simp [tokK, k1, k2, k3]
          rw [hk]
          refine stp trivial ?_
          refine ret2 trivial ?_
          exact (⟨rfl, rfl⟩)
  obtain ⟨v, H', h, rfl, rfl⟩ := key
  exact h
end
end Go.Sh
end
section
namespace Go.Sh
set_option maxRecDepth 10000
set_option linter.all false
abbrev Tok := Nat × Nat × Nat
def tokC (t : Tok) : List SV := [.int .i64 (t.1 : Int), .int .i64 (t.2.1 : Int), .int .i64 (t.2.2 : Int)]
theorem tokC_all (L : List Tok) : AllL 3 (L.map tokC) := fun x hx => by
  obtain ⟨t, _, rfl⟩ := List.mem_map.1 hx
  rfl
def okTok (s : List Nat) (k a b : Nat) : Prop := k = 1 ∨ k = 2 ∨ (k = 7 ∧ (s.drop a).take (b - a) = [124]) ∨ (k = 8 ∧ (s.drop a).take (b - a) = [61])
def Chain (s : List Nat) : Nat → List Tok → Nat → Prop
  | p, [], q => p = q
  | p, (k, a, b) :: L, q => a = p ∧ p < b ∧ b ≤ s.length ∧ okTok s k a b ∧ Chain s b L q
theorem Chain.snoc {s : List Nat} : ∀ {L : List Tok} {p q b k : Nat}, Chain s p L q → q < b → b ≤ s.length → okTok s k q b → Chain s p (L ++ [(k, q, b)]) b
  | [], p, q, b, k, h, h1, h2, h3 => by
    have h : p = q := h
    subst h
    exact ⟨rfl, h1, h2, h3, rfl⟩
  | (k', a', b') :: L, p, q, b, k, h, h1, h2, h3 => ⟨h.1, h.2.1, h.2.2.1, h.2.2.2.1, h.2.2.2.2.snoc h1 h2 h3⟩
theorem Chain.len {s : List Nat} : ∀ {L : List Tok} {p q : Nat}, Chain s p L q → L.length + p ≤ q
  | [], p, q, h => by have h : p = q := h; simp [h]
  | (k, a, b) :: L, p, q, h => by
    have := h.2.2.2.2.len
    have h2 := h.2.1
    simp only [List.length_cons]
    omega
section
variable {lf n : Nat} {H : Heap}
theorem text_ok {s : List Nat} {k a b : Nat} (h1 : a ≤ b) (h2 : b ≤ s.length) (hlen : s.length < 1000000) (hn : 1 ≤ n) :
    ∃ H', callS tabT lf n 192 [.str s, .agg [.int .i64 (k : Int), .int .i64 (a : Int), .int .i64 (b : Int)]] H = some (.str ((s.drop a).take (b - a)), H') ∧ Ext H H' := by
  obtain ⟨n, rfl⟩ : ∃ m, n = m + 1 := ⟨n - 1, by omega⟩
  have key : ∃ v H', callS tabT lf (n + 1) 192 [.str s, .agg [.int .i64 (k : Int), .int .i64 (a : Int), .int .i64 (b : Int)]] H = some (v, H') ∧ (v = .str ((s.drop a).take (b - a)) ∧ Ext H H') := by
    refine call_code tab192 (by simp only [c192, go_sem, List.reduceReplicate, Nat.reduceAdd, Nat.reduceSub]; exact rfl) ?_
    simp only [c192]
    have d1 : decide ((a : Int) < ((0 : Nat) : Int)) = false := by simp only [decide_eq_false_iff_not]; omega
    have d2 : decide ((a : Int) > (b : Int)) = false := by simp only [decide_eq_false_iff_not]; omega
    have d3 : decide ((b : Int) > (s.length : Int)) = false := by simp only [decide_eq_false_iff_not]; omega
    refine stp (And.intro @d1 (And.intro @d2 @d3)) ?_
    refine cstE trivial ?_
    refine stp trivial ?_
    refine ret1 trivial ?_
    exact (⟨rfl, (Ext.refl H).push _⟩)
  obtain ⟨v, H', h, rfl, hE⟩ := key
  exact ⟨H', h, hE⟩
def Plain (s : List Nat) : Prop := ∀ x ∈ s, x ≠ 60 ∧ x ≠ 123 ∧ x ≠ 125 ∧ x ≠ 91 ∧ x ≠ 93
theorem tokK_ok {s : List Nat} {c a : Nat} (hc : s[a]? = some c) (hk : tokK c ≠ 0) : okTok s (tokK c) a (a + 1) := by
  have hlt : a < s.length := (List.getElem?_eq_some_iff.1 hc).1
  have he := (List.getElem?_eq_some_iff.1 hc).2
  have hone : (s.drop a).take (a + 1 - a) = [c] := by
    rw [List.drop_eq_getElem_cons hlt, he]
    simp
  unfold tokK at hk ⊢
  split
  · rename_i h; subst h; exact .inr (.inr (.inl ⟨rfl, hone⟩))
  · split
    · rename_i h; subst h; exact .inr (.inr (.inr ⟨rfl, hone⟩))
    · split
      · exact .inr (.inl rfl)
      · simp_all
end
@[reducible] def I45 (s : List Nat) (H0 : Heap) (m : Nat) (ts : T) (D : DS) (H' : Heap) : Prop :=
  ∃ (w : SV) (L : List Tok) (p a : Nat), m = s.length - a ∧ a ≤ s.length ∧ p ≤ a ∧ Chain s 0 L p ∧ Sl H0.next 250 3 H' w (L.map tokC) ∧ D = [] ∧ Ext H0 H' ∧ ∃ z1 z2 z3 z7 z8 z9 z10 z11 z12 z13 z14 z15 z16 z17 z18 z19 z20 z21 z22 z23 z24 z25 z26 z27 z28 z29 z30 z31 z32 z33 z34 z35 z36 z37 z38 z39 z40 z41 z42 z43 z44 z45 z46 z47 z48 z49 z50 z51 z52 z53 z54 z55 z56 z57 z58 z59 z60, ts = ([(.str s), z1, z2, z3, (w), (.int .i64 (p : Int)), (.int .i64 (a : Int)), z7, z8, z9, z10, z11, z12, z13, z14, z15, z16, z17, z18, z19, z20, z21, z22, z23, z24, z25, z26, z27, z28, z29, z30, z31, z32, z33, z34, z35, z36, z37, z38, z39, z40, z41, z42, z43, z44, z45, z46, z47, z48, z49, z50, z51, z52, z53, z54, z55, z56, z57, z58, z59, z60] : T) ∧ (True)
theorem app_tok {H0 H' : Heap} {w : SV} {L : List Tok} (t : Tok) (hsl : Sl H0.next 250 3 H' w (L.map tokC)) (hE : Ext H0 H') (hlen : L.length < 10000) :
    ∃ w1 H1, appS (H'.push (.row (tokC t) 250 true false 0)) false 250 3 24 w (.slice H'.next 0 1 (some 1) 3) = some (w1, H1) ∧ Sl H0.next 250 3 H1 w1 ((L ++ [t]).map tokC) ∧ Ext H0 H1 := by
  have hE1 : Ext H' (H'.push (.row (tokC t) 250 true false 0)) := (Ext.refl _).push _
  obtain ⟨w1, H1, h1, h2, h3, h4⟩ := app_one (H := H'.push (.row (tokC t) 250 true false 0)) (B0 := H0.next) (x := tokC t) (b' := H'.next) (bytes := 24) (c := some 1) (hsl.keep hE1) (tokC_all L) rfl rfl (get_push_self _) (by rw [next_push]; have := hE.1; omega) (by rw [List.length_map]; omega) (by rw [List.length_map]; omega)
  refine ⟨w1, H1, h1, by rw [List.map_append]; exact h2, ?_, fun b hb => ?_⟩
  · rw [h3, next_push]
    have := hE.1
    omega
  · rw [h4 b hb, get_push_old (Nat.lt_of_lt_of_le hb hE.1)]
    exact hE.2 b hb
section
variable {lf n : Nat} {H : Heap}
theorem scan_ok {s : List Nat} (hp : Plain s) (hlen : s.length ≤ 8192) (hn : 2 ≤ n) (hlf : s.length < lf) :
    ∃ (v : SV) (L : List Tok) (H' : Heap), callS tabT lf n 120 [.str s] H = some (.tup [v, .int .i64 0], H') ∧ Ext H H' ∧ Chain s 0 L s.length ∧ Sl H.next 250 3 H' v (L.map tokC) := by
  obtain ⟨n, rfl⟩ : ∃ m, n = m + 1 := ⟨n - 1, by omega⟩
  have key : ∃ v H', callS tabT lf (n + 1) 120 [.str s] H = some (v, H') ∧ ∃ (w : SV) (L : List Tok), v = .tup [w, .int .i64 0] ∧ Ext H H' ∧ Chain s 0 L s.length ∧ Sl H.next 250 3 H' w (L.map tokC) := by
    refine call_code tab120 (by simp only [c120, go_sem, List.reduceReplicate, Nat.reduceAdd, Nat.reduceSub]; exact rfl) ?_
    simp only [c120]
    have d0 : decide ((s.length : Int) > ((8192 : Nat) : Int)) = false := by simp only [decide_eq_false_iff_not]; omega
    refine stp @d0 ?_
    refine cstE trivial ?_
    refine stp trivial ?_
    refine EC_loop (I := I45 s H) ?_ s.length ?_ (by omega)
    · rintro m ts D H' ⟨w, L, p, a, rfl, ha, hpa, hch, hsl, rfl, hE, ⟨z1, z2, z3, z7, z8, z9, z10, z11, z12, z13, z14, z15, z16, z17, z18, z19, z20, z21, z22, z23, z24, z25, z26, z27, z28, z29, z30, z31, z32, z33, z34, z35, z36, z37, z38, z39, z40, z41, z42, z43, z44, z45, z46, z47, z48, z49, z50, z51, z52, z53, z54, z55, z56, z57, z58, z59, z60, rfl, -⟩⟩
      have hLp := hch.len
      refine stp trivial ?_
      refine cst trivial (fun hc => ?_) (fun hc => ?_) <;> try simp only [decide_eq_true_eq, decide_eq_false_iff_not, not_true_eq_false, not_false_eq_true, Int.not_lt, Int.not_le, ge_iff_le, gt_iff_lt] at hc
      · have hlt : a < s.length := by omega
        have hdrop : s.drop a = s[a] :: s.drop (a + 1) := List.drop_eq_getElem_cons hlt
        obtain ⟨h1, h2, h3, h4, h5⟩ := hp s[a] (List.getElem_mem hlt)
        have htk : (s.drop a).take (s.length - a) = s[a] :: s.drop (a + 1) := by rw [List.take_of_length_le (by simp), hdrop]
        refine stp @htk ?_
        have hcall := first_ok (lf := lf) (n := n) (H := H') (r := s.drop (a + 1)) h1 h2 h3 h4 h5 (by omega)
        by_cases hk : tokK s[a] = 0
        · rw [hk] at hcall
          refine kst trivial hcall ?_
          refine stp trivial ?_
          refine cstT trivial ?_
          refine stp trivial ?_
          refine loopR_normal (s.length - (a + 1)) (by omega) ⟨w, L, p, a + 1, rfl, by omega, by omega, hch, hsl, rfl, hE, ?_⟩
          exact ⟨_, _, _, _, _, _, _, _, _, _, _, _, _, _, _, _, _, _, _, _, _, _, _, _, _, _, _, _, _, _, _, _, _, _, _, _, _, _, _, _, _, _, _, _, _, _, _, _, _, _, _, _, _, _, _, _, _, rfl, trivial⟩
        · rw [if_neg hk] at hcall
          have hok := tokK_ok (List.getElem?_eq_getElem hlt) hk
          have dk : decide (((tokK s[a] : Nat) : Int) = ((0 : Nat) : Int)) = false := by simp only [decide_eq_false_iff_not]; omega
          have htk8 : tokK s[a] ≤ 8 := by unfold tokK; split <;> (try split) <;> (try split) <;> omega
          refine kst trivial hcall ?_
          refine stp @dk ?_
          refine cstE trivial ?_
          refine stp trivial ?_
          refine cst trivial (fun hc => ?_) (fun hc => ?_) <;> try simp only [decide_eq_true_eq, decide_eq_false_iff_not, not_true_eq_false, not_false_eq_true, Int.not_lt, Int.not_le, ge_iff_le, gt_iff_lt] at hc
          · refine stp trivial ?_
            obtain ⟨w1, H1, ha1, hs1, hE1⟩ := app_tok (1, p, a) hsl hE (by omega)
            refine ast trivial ha1 ?_
            refine stp trivial ?_
            obtain ⟨w2, H2, ha2, hs2, hE2⟩ := app_tok (tokK s[a], a, a + 1) hs1 hE1 (by simp; omega)
            refine ast trivial ha2 ?_
            refine stp trivial ?_
            refine loopR_normal (s.length - (a + 1)) (by omega) ⟨w2, (L ++ [(1, p, a)]) ++ [(tokK s[a], a, a + 1)], a + 1, a + 1, rfl, by omega, by omega, (hch.snoc (by omega) (by omega) (.inl rfl)).snoc (by omega) (by omega) hok, hs2, rfl, hE2, ?_⟩
            exact ⟨_, _, _, _, _, _, _, _, _, _, _, _, _, _, _, _, _, _, _, _, _, _, _, _, _, _, _, _, _, _, _, _, _, _, _, _, _, _, _, _, _, _, _, _, _, _, _, _, _, _, _, _, _, _, _, _, _, rfl, trivial⟩
          · have hpa' : p = a := by omega
            subst hpa'
            refine stp trivial ?_
            obtain ⟨w2, H2, ha2, hs2, hE2⟩ := app_tok (tokK s[p], p, p + 1) hsl hE (by omega)
            refine ast trivial ha2 ?_
            refine stp trivial ?_
            refine loopR_normal (s.length - (p + 1)) (by omega) ⟨w2, L ++ [(tokK s[p], p, p + 1)], p + 1, p + 1, rfl, by omega, by omega, hch.snoc (by omega) (by omega) hok, hs2, rfl, hE2, ?_⟩
            exact ⟨_, _, _, _, _, _, _, _, _, _, _, _, _, _, _, _, _, _, _, _, _, _, _, _, _, _, _, _, _, _, _, _, _, _, _, _, _, _, _, _, _, _, _, _, _, _, _, _, _, _, _, _, _, _, _, _, _, rfl, trivial⟩
      · have haa : a = s.length := by omega
        subst haa
        refine stp trivial ?_
        refine cst trivial (fun hc => ?_) (fun hc => ?_) <;> try simp only [decide_eq_true_eq, decide_eq_false_iff_not, not_true_eq_false, not_false_eq_true, Int.not_lt, Int.not_le, ge_iff_le, gt_iff_lt] at hc
        · refine stp trivial ?_
          obtain ⟨w1, H1, ha1, hs1, hE1⟩ := app_tok (1, p, s.length) hsl hE (by omega)
          refine ast trivial ha1 ?_
          refine stp trivial ?_
          refine ret2 trivial ?_
          exact (⟨w1, L ++ [(1, p, s.length)], rfl, hE1, hch.snoc (by omega) (by omega) (.inl rfl), hs1⟩)
        · have hpa' : p = s.length := by omega
          subst hpa'
          refine stp trivial ?_
          refine ret2 trivial ?_
          exact (⟨w, L, rfl, hE, hch, hsl⟩)
    · refine ⟨.nils, [], 0, 0, by omega, by omega, by omega, rfl, .inl ⟨rfl, rfl⟩, rfl, Ext.refl H, ?_⟩
      exact ⟨_, _, _, _, _, _, _, _, _, _, _, _, _, _, _, _, _, _, _, _, _, _, _, _, _, _, _, _, _, _, _, _, _, _, _, _, _, _, _, _, _, _, _, _, _, _, _, _, _, _, _, _, _, _, _, _, _, rfl, trivial⟩
  obtain ⟨v, H', h, w, L, rfl, h1, h2, h3⟩ := key
  exact ⟨w, L, H', h, h1, h2, h3⟩
end
end Go.Sh
end
