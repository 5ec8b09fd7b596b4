/-
  Symbolic reckoning: more operations; texts; heaps that have grown.
  Symbolic reckoning: sets of bytes, and what trims texts.
  Symbolic reckoning: what trims texts.
  Symbolic reckoning: strings.TrimRight, TrimLeft, Trim at the sets of the program.
-/
import Derived.Test.YtpcpmplkblbpbaaGreatDoorShA7
import Derived.Test.YtpcpmplkblbpbaaGreatDoorShB3
set_option linter.all false
section
namespace Go.Sh
def Ext (H H' : Heap) : Prop := H.next ≤ H'.next ∧ ∀ b, b < H.next → H'.get b = H.get b
theorem Ext.refl (H : Heap) : Ext H H := ⟨Nat.le_refl _, fun _ _ => rfl⟩
theorem Ext.trans {H1 H2 H3 : Heap} (h : Ext H1 H2) (k : Ext H2 H3) : Ext H1 H3 := ⟨Nat.le_trans h.1 k.1, fun b hb => (k.2 b (Nat.lt_of_lt_of_le hb h.1)).trans (h.2 b hb)⟩
theorem Ext.push {H1 H2 : Heap} (h : Ext H1 H2) (o : SObj) : Ext H1 (H2.push o) := ⟨by rw [next_push]; have := h.1; omega, fun b hb => by rw [get_push_old (by have := h.1; omega)]; exact h.2 b hb⟩
theorem Ext.put {H1 H2 : Heap} (h : Ext H1 H2) {b : Nat} (hb : H1.next ≤ b) (o : SObj) : Ext H1 (H2.put b o) := ⟨h.1, fun c hc => by rw [get_put_other (by omega)]; exact h.2 c hc⟩
section
variable {ts : T} {H : Heap}
def iaaS (n z : Nat) (v i : SV) : Option SV := match v, i with
  | .ptr b o, .int _ (.ofNat k) => match Nat.blt k n with
    | true => some (.ptr b (o + k * z))
    | false => none
  | _, _ => none
theorem op_iaa (n z : Nat) (x i : X) : evalOp (.iaa n z x i) ts H = okS (iaaS n z (x.ev ts) (i.ev ts)) H := by
  simp only [evalOp]
  generalize x.ev ts = v
  generalize i.ev ts = u
  cases v with
  | ptr b o =>
    cases u with
    | int k m =>
      cases m with
      | ofNat m => simp only [iaaS]; generalize Nat.blt m n = p; cases p <;> rfl
      | negSucc m => rfl
    | _ => rfl
  | _ => rfl
theorem iaa_ptr {n z b o : Nat} {kk : IntKind} {i : Int} (hi : 0 ≤ i) (h : i < n) : iaaS n z (.ptr b o) (.int kk i) = some (.ptr b (o + i.toNat * z)) := by
  obtain ⟨k, rfl, hk⟩ := toNat_of hi
  rw [hk]
  show (match Nat.blt k n with | true => some (SV.ptr b (o + k * z)) | false => none) = _
  rw [blt_true (by omega)]
def slsS (lo hi : Option Nat) (v : SV) : Option SV := match v, lo, hi with
  | .str s, some l, some h => some (.str ((s.drop l).take (h - l)))
  | _, _, _ => none
def loS (ts : T) (lo : Option X) (h : Option Nat) : Option Nat := match h with
  | some h => idxOpt ts lo 0 h
  | none => none
def hiS (ts : T) (hi : Option X) (v : SV) : Option Nat := match v with
  | .str s => idxOpt ts hi s.length s.length
  | _ => none
theorem op_sls (lo hi : Option X) (x : X) : evalOp (.sls lo hi x) ts H = okS (slsS (loS ts lo (hiS ts hi (x.ev ts))) (hiS ts hi (x.ev ts)) (x.ev ts)) H := by
  simp only [evalOp, hiS, loS, slsS]
  generalize x.ev ts = v
  cases v with
  | str s =>
    dsimp only
    cases idxOpt ts hi s.length s.length with
    | none => rfl
    | some h => dsimp only; cases idxOpt ts lo 0 h <;> rfl
  | _ => rfl
theorem hi_none (s : List Nat) : hiS ts none (.str s) = some s.length := rfl
theorem hi_some (s : List Nat) (x : X) : hiS ts (some x) (.str s) = idx (x.ev ts) s.length := rfl
theorem lo_none (h : Nat) : loS ts none (some h) = some 0 := rfl
theorem lo_some (h : Nat) (x : X) : loS ts (some x) (some h) = idx (x.ev ts) h := rfl
theorem idx_int {k : IntKind} {n : Int} {lim : Nat} (hn : 0 ≤ n) (h : n ≤ lim) : idx (.int k n) lim = some n.toNat := by
  obtain ⟨m, rfl, hm⟩ := toNat_of hn
  rw [hm]
  show (match Nat.ble m lim with | true => some m | false => none) = _
  rw [ble_true (by omega)]
theorem sls_str (s : List Nat) (l h : Nat) : slsS (some l) (some h) (.str s) = some (.str ((s.drop l).take (h - l))) := rfl
def xibS (x c : SV) : Option SV := match x, c with
  | .str l, .int .u8 n => some (.int .i64 (ixb l (n.toNat % 256) 0))
  | _, _ => none
theorem op_xib (x c : X) : evalOp (.xib x c) ts H = okS (xibS (x.ev ts) (c.ev ts)) H := by
  simp only [evalOp]
  generalize x.ev ts = v
  generalize c.ev ts = u
  cases v with
  | str l => cases u with
    | int k n => cases k <;> rfl
    | _ => rfl
  | _ => rfl
theorem xib_str (l : List Nat) (n : Int) : xibS (.str l) (.int .u8 n) = some (.int .i64 (ixb l (n.toNat % 256) 0)) := rfl
theorem rowL_one {cs : List SV} {e : TypeId} {ex ro : Bool} {frz p : Nat} {v : SV} (h : cs[p]? = some v) : rowL (some (.row cs e ex ro frz)) p 1 = some [v] := by
  have hlt : p < cs.length := (List.getElem?_eq_some_iff.1 h).1
  rw [rowL_row (by omega)]
  have := (List.getElem?_eq_some_iff.1 h).2
  rw [List.drop_eq_getElem_cons hlt, this]
  rfl
theorem resOne_cell (t : Nat) (agg : Bool) (n : Nat) : resOne ts H (.cell t agg n) = loadS agg n (ts.getD t SV.undef) H := by
  simp only [resOne, loadS, outS]
  generalize ts.getD t SV.undef = v
  cases v with
  | ptr b o =>
    dsimp only
    cases loadC H b o n with
    | none => rfl
    | some cs =>
      cases agg
      · match cs with
        | [] => rfl
        | [v] => rfl
        | _ :: _ :: _ => rfl
      · rfl
  | _ => rfl
end
attribute [go_sem] resOne_cell op_iaa iaa_ptr op_sls hi_none hi_some lo_none lo_some idx_int sls_str op_xib xib_str
end Go.Sh
end
section
namespace Go.Sh
set_option maxRecDepth 10000
set_option linter.all false
def asc (l : List Nat) : List SV := (List.range 256).map fun c => .bool (l.contains c)
theorem asc_length (l : List Nat) : (asc l).length = 256 := by simp [asc]
theorem asc_get (l : List Nat) {c : Nat} (h : c < 256) : (asc l)[c]? = some (.bool (l.contains c)) := by
  simp [asc, List.getElem?_map, List.getElem?_range h]
theorem asc_nil : asc [] = List.replicate 256 (.bool false) := by
  unfold asc
  apply List.ext_getElem
  · simp
  · intro i h1 h2
    rw [List.getElem_map, List.getElem_replicate]
    rfl
theorem asc_snoc (l : List Nat) {k : Nat} (h : k < 256) : (asc l).take k ++ ([SV.bool true] ++ (asc l).drop (k + 1)) = asc (l ++ [k]) := by
  apply List.ext_getElem?
  intro i
  have hlen := asc_length l
  by_cases hi : i < 256
  · rw [asc_get _ hi]
    rw [List.getElem?_append]
    by_cases h1 : i < k
    · rw [if_pos (by simp [hlen]; omega), List.getElem?_take, if_pos h1, asc_get _ hi]
      have : ¬ i = k := by omega
      simp [this]
    · rw [if_neg (by simp [hlen]; omega)]
      rw [List.length_take, hlen, Nat.min_eq_left (by omega)]
      by_cases h2 : i = k
      · subst h2
        simp
      · obtain ⟨j, rfl⟩ : ∃ j, i = k + 1 + j := ⟨i - (k + 1), by omega⟩
        rw [show k + 1 + j - k = j + 1 by omega]
        rw [List.singleton_append, List.getElem?_cons_succ, List.getElem?_drop, asc_get _ hi]
        have : ¬ k + 1 + j = k := by omega
        simp [this]
  · rw [List.getElem?_eq_none (by simp [asc_length]; omega), List.getElem?_eq_none (by rw [asc_length]; omega)]
theorem asc_one (l : List Nat) : (asc l).all SV.one = true := by
  rw [List.all_eq_true]
  intro x hx
  obtain ⟨c, _, rfl⟩ := List.mem_map.1 hx
  rfl
theorem one_bool (b : Bool) : SV.one (.bool b) = true := rfl
theorem tab255 : tabT 255 = some (.code c255) := by kernel_rfl
theorem tab165 : tabT 165 = some (.code c165) := by kernel_rfl
theorem tab166 : tabT 166 = some (.code c166) := by kernel_rfl
theorem tab169 : tabT 169 = some (.code c169) := by kernel_rfl
theorem tab164 : tabT 164 = some (.code c164) := by kernel_rfl
theorem tab168 : tabT 168 = some (.code c168) := by kernel_rfl
section
variable {lf n : Nat} {H : Heap}
theorem contains_ok {l : List Nat} {b : Nat} {e : TypeId} {ex ro : Bool} {frz : Nat} (hb : H.get b = some (.row (asc l) e ex ro frz)) {k : Nat} (hk : k < 256) (hn : 1 ≤ n) :
    callS tabT lf n 255 [.ptr b 0, .int .u8 (k : Int)] H = some (.bool (l.contains k), H) := by
  obtain ⟨n, rfl⟩ : ∃ m, n = m + 1 := ⟨n - 1, by omega⟩
  have hl : rowL (some (.row (asc l) e ex ro frz)) k 1 = some [.bool (l.contains k)] := rowL_one (asc_get l hk)
  have key : ∃ v H', callS tabT lf (n + 1) 255 [.ptr b 0, .int .u8 (k : Int)] H = some (v, H') ∧ (v = .bool (l.contains k) ∧ H' = H) := by
    refine call_code tab255 (by simp only [c255, go_sem, List.reduceReplicate, Nat.reduceAdd, Nat.reduceSub]; exact rfl) ?_
    simp only [c255]
    refine stp (And.intro @hb @hl) ?_
    exact funR_ret (res_one _ _ (by simp only [go_sem])) ⟨rfl, rfl⟩
  obtain ⟨v, H', h, rfl, rfl⟩ := key
  exact h
theorem makeSet_ok {l : List Nat} (hl : ∀ x ∈ l, x < 128) (hn : 1 ≤ n) (hlf : l.length < lf) (hlen : l.length < 1000000) :
    ∃ H', callS tabT lf n 165 [.str l] H = some (.tup [.agg (asc l), .bool true], H') ∧ Ext H H' := by
  obtain ⟨n, rfl⟩ : ∃ m, n = m + 1 := ⟨n - 1, by omega⟩
  have key : ∃ v H', callS tabT lf (n + 1) 165 [.str l] H = some (v, H') ∧ (v = .tup [.agg (asc l), .bool true] ∧ Ext H H') := by
    refine call_code tab165 (by simp only [c165, go_sem, List.reduceReplicate, Nat.reduceAdd, Nat.reduceSub]; exact rfl) ?_
    simp only [c165]
    refine stp trivial ?_
    refine EC_loop (I := fun m ts D H' => ∃ i, i ≤ l.length ∧ m = l.length - i ∧ D = [] ∧ Ext H H' ∧ H'.get H.next = some (.row (asc (l.take i)) 300 true false 0) ∧ ∃ z1 z3 z5 z6 z7 z8 z9 z10 z11 z12 z13 z14 z15 z16 z17 z18 z19 z20, ts = ([(.str l), z1, (.ptr H.next 0), z3, (.int .i64 (i : Int)), z5, z6, z7, z8, z9, z10, z11, z12, z13, z14, z15, z16, z17, z18, z19, z20] : T) ∧ (True)) ?_ (l.length - 0) ?_ (by omega)
    · rintro m ts D H' ⟨i, hi, rfl, rfl, hE, hrow, ⟨z1, z3, z5, z6, z7, z8, z9, z10, z11, z12, z13, z14, z15, z16, z17, z18, z19, z20, rfl, -⟩⟩
      refine stp trivial ?_
      refine cst trivial (fun hc => ?_) (fun hc => ?_) <;> try simp only [decide_eq_true_eq, decide_eq_false_iff_not, not_true_eq_false, not_false_eq_true, Int.not_lt, Int.not_le, ge_iff_le, gt_iff_lt] at hc
      · obtain ⟨x, hx⟩ : ∃ x, l[i]? = some x := ⟨l[i], List.getElem?_eq_getElem (by omega)⟩
        have hx128 : x < 128 := hl x (List.mem_of_getElem? hx)
        have hal := asc_length (l.take i)
        refine stp @hx ?_
        refine cst trivial (fun hc => ?_) (fun hc => ?_) <;> try simp only [decide_eq_true_eq, decide_eq_false_iff_not, not_true_eq_false, not_false_eq_true, Int.not_lt, Int.not_le, ge_iff_le, gt_iff_lt] at hc
        · omega
        · refine stp (And.intro @hrow @hal) ?_
          refine loopR_normal (l.length - (i + 1)) (by omega) ⟨i + 1, by omega, rfl, rfl, ?_, ?_, ?_⟩
          · exact hE.put (Nat.le_refl _) _
          · rw [get_put_self]
            congr 2
            rw [List.take_succ, hx]
            exact asc_snoc (l.take i) (by omega)
          · exact ⟨_, _, _, _, _, _, _, _, _, _, _, _, _, _, _, _, _, _, rfl, trivial⟩
      · have hi' : i = l.length := by omega
        subst hi'
        rw [List.take_length] at hrow
        have hal := asc_length l
        have hput : H'.get H.next = some (.row (asc l) 300 true false 0) := hrow
        have htk : List.take 256 (asc l) = asc l := List.take_of_length_le (by omega)
        have hdr : List.drop 256 (asc l) = [] := List.drop_eq_nil_of_le (by omega)
        have hone : (asc l).all SV.one = true := asc_one l
        refine stp (And.intro @hrow (And.intro @hal (And.intro @htk (And.intro @hdr (And.intro @hone @List.append_nil.{0}))))) ?_
        refine ret2 (And.intro @hrow (And.intro @hal @htk)) ?_
        exact (⟨rfl, hE.put (Nat.le_refl _) _⟩)
    · refine ⟨0, Nat.zero_le _, rfl, rfl, (Ext.refl H).push _, ?_, ?_⟩
      · rw [get_push_self, List.take_zero, asc_nil]
      · exact ⟨_, _, _, _, _, _, _, _, _, _, _, _, _, _, _, _, _, _, rfl, trivial⟩
  obtain ⟨v, H', h, rfl, hE⟩ := key
  exact ⟨H', h, hE⟩
end
end Go.Sh
end
section
namespace Go.Sh
set_option maxRecDepth 10000
set_option linter.all false
def trimR (p : Nat → Bool) (s : List Nat) : List Nat := (s.reverse.dropWhile p).reverse
theorem trimR_nil (p : Nat → Bool) : trimR p [] = [] := rfl
theorem trimR_true {p : Nat → Bool} {x : Nat} (s : List Nat) (h : p x = true) : trimR p (s ++ [x]) = trimR p s := by
  simp [trimR, h]
theorem trimR_false {p : Nat → Bool} {x : Nat} (s : List Nat) (h : p x = false) : trimR p (s ++ [x]) = s ++ [x] := by
  simp [trimR, h]
def Bts (s : List Nat) : Prop := ∀ x ∈ s, x < 256
section
variable {lf n : Nat} {H : Heap}
theorem trimLeftASCII_ok {l : List Nat} {b : Nat} {e : TypeId} {ex ro : Bool} {frz : Nat} (hb : H.get b = some (.row (asc l) e ex ro frz)) {s : List Nat} (hs : Bts s) (hlen : s.length < 1000000) (hn : 2 ≤ n) (hlf : s.length < lf) :
    callS tabT lf n 169 [.str s, .ptr b 0] H = some (.str (s.dropWhile fun c => l.contains c), H) := by
  obtain ⟨n, rfl⟩ : ∃ m, n = m + 1 := ⟨n - 1, by omega⟩
  have key : ∃ v H', callS tabT lf (n + 1) 169 [.str s, .ptr b 0] H = some (v, H') ∧ (v = .str (s.dropWhile fun c => l.contains c) ∧ H' = H) := by
    refine call_code tab169 (by simp only [c169, go_sem, List.reduceReplicate, Nat.reduceAdd, Nat.reduceSub]; exact rfl) ?_
    simp only [c169]
    refine stp trivial ?_
    refine EC_loop (I := fun m ts D H' => ∃ s' : List Nat, m = s'.length ∧ s'.length ≤ s.length ∧ Bts s' ∧ (s'.dropWhile fun c => l.contains c) = (s.dropWhile fun c => l.contains c) ∧ D = [] ∧ H' = H ∧ ∃ z2 z3 z4 z5 z6 z7 z8 z9 z10 z11 z12 z13 z14 z15, ts = ([(.str s'), (.ptr b 0), z2, z3, z4, z5, z6, z7, z8, z9, z10, z11, z12, z13, z14, z15] : T) ∧ (True)) ?_ s.length ?_ (by omega)
    · rintro m ts D H' ⟨s', rfl, hle, hbs, hdw, rfl, rfl, ⟨z2, z3, z4, z5, z6, z7, z8, z9, z10, z11, z12, z13, z14, z15, rfl, -⟩⟩
      refine stp trivial ?_
      refine cst trivial (fun hc => ?_) (fun hc => ?_) <;> try simp only [decide_eq_true_eq, decide_eq_false_iff_not, not_true_eq_false, not_false_eq_true, Int.not_lt, Int.not_le, ge_iff_le, gt_iff_lt] at hc
      · cases s' with
        | nil => simp at hc
        | cons x r =>
          have hx : x < 256 := hbs x (List.mem_cons_self ..)
          refine stp trivial ?_
          have hcall := contains_ok (lf := lf) (n := n) hb hx (by omega)
          refine kst trivial hcall ?_
          refine stp trivial ?_
          have hd : ((x :: r).dropWhile fun c => l.contains c) = if l.contains x then r.dropWhile (fun c => l.contains c) else x :: r := List.dropWhile_cons
          refine cst trivial (fun hc => ?_) (fun hc => ?_) <;> try simp only [decide_eq_true_eq, decide_eq_false_iff_not, not_true_eq_false, not_false_eq_true, Int.not_lt, Int.not_le, ge_iff_le, gt_iff_lt] at hc
          · have hc' : l.contains x = false := by simpa using hc
            refine stp trivial ?_
            rw [hc', if_neg (by simp)] at hd
            refine ret1 trivial ?_
            exact (⟨by rw [← hdw, hd], rfl⟩)
          · have hc' : l.contains x = true := by simpa using hc
            rw [hc', if_pos rfl] at hd
            refine stp (And.intro @Nat.add_sub_cancel @List.take_length.{0}) ?_
            refine loopR_normal r.length (by simp) ⟨r, rfl, by simp at hle; omega, fun y hy => hbs y (List.mem_cons_of_mem _ hy), by rw [← hdw, hd], rfl, rfl, ?_⟩
            exact ⟨_, _, _, _, _, _, _, _, _, _, _, _, _, _, rfl, trivial⟩
      · have : s' = [] := by
          cases s' with
          | nil => rfl
          | cons x r => simp at hc; omega
        subst this
        refine stp trivial ?_
        refine ret1 trivial ?_
        exact (⟨by rw [← hdw]; rfl, rfl⟩)
    · exact ⟨s, rfl, Nat.le_refl _, hs, rfl, rfl, rfl, ⟨_, _, _, _, _, _, _, _, _, _, _, _, _, _, rfl, trivial⟩⟩
  obtain ⟨v, H', h, rfl, rfl⟩ := key
  exact h
theorem trimRightASCII_ok {l : List Nat} {b : Nat} {e : TypeId} {ex ro : Bool} {frz : Nat} (hb : H.get b = some (.row (asc l) e ex ro frz)) {s : List Nat} (hs : Bts s) (hlen : s.length < 1000000) (hn : 2 ≤ n) (hlf : s.length < lf) :
    callS tabT lf n 166 [.str s, .ptr b 0] H = some (.str (trimR (fun c => l.contains c) s), H) := by
  obtain ⟨n, rfl⟩ : ∃ m, n = m + 1 := ⟨n - 1, by omega⟩
  have key : ∃ v H', callS tabT lf (n + 1) 166 [.str s, .ptr b 0] H = some (v, H') ∧ (v = .str (trimR (fun c => l.contains c) s) ∧ H' = H) := by
    refine call_code tab166 (by simp only [c166, go_sem, List.reduceReplicate, Nat.reduceAdd, Nat.reduceSub]; exact rfl) ?_
    simp only [c166]
    refine stp trivial ?_
    refine EC_loop (I := fun m ts D H' => ∃ s' : List Nat, m = s'.length ∧ s'.length ≤ s.length ∧ Bts s' ∧ trimR (fun c => l.contains c) s' = trimR (fun c => l.contains c) s ∧ D = [] ∧ H' = H ∧ ∃ z2 z3 z4 z5 z6 z7 z8 z9 z10 z11 z12 z13 z14 z15 z16 z17 z18 z19 z20 z21, ts = ([(.str s'), (.ptr b 0), z2, z3, z4, z5, z6, z7, z8, z9, z10, z11, z12, z13, z14, z15, z16, z17, z18, z19, z20, z21] : T) ∧ (True)) ?_ s.length ?_ (by omega)
    · rintro m ts D H' ⟨s', rfl, hle, hbs, hdw, rfl, rfl, ⟨z2, z3, z4, z5, z6, z7, z8, z9, z10, z11, z12, z13, z14, z15, z16, z17, z18, z19, z20, z21, rfl, -⟩⟩
      refine stp trivial ?_
      refine cst trivial (fun hc => ?_) (fun hc => ?_) <;> try simp only [decide_eq_true_eq, decide_eq_false_iff_not, not_true_eq_false, not_false_eq_true, Int.not_lt, Int.not_le, ge_iff_le, gt_iff_lt] at hc
      · rcases List.eq_nil_or_concat s' with rfl | ⟨r, x, rfl⟩
        · simp at hc
        · rw [List.concat_eq_append] at *
          have hx : x < 256 := hbs x (by simp)
          have hlr : (r ++ [x]).length = r.length + 1 := by simp
          rw [hlr] at hle
          have hget : (r ++ [x])[r.length]? = some x := by simp
          have htn : ((r.length : Int) + 1 - 1).toNat = r.length := by omega
          refine stp (And.intro @hlr (And.intro @hget (And.intro @Int.natCast_add (And.intro @Int.natCast_one @htn)))) ?_
          have hcall := contains_ok (lf := lf) (n := n) hb hx (by omega)
          refine kst trivial hcall ?_
          refine stp trivial ?_
          refine cst trivial (fun hc => ?_) (fun hc => ?_) <;> try simp only [decide_eq_true_eq, decide_eq_false_iff_not, not_true_eq_false, not_false_eq_true, Int.not_lt, Int.not_le, ge_iff_le, gt_iff_lt] at hc
          · have hc' : l.contains x = false := by simpa using hc
            refine stp trivial ?_
            refine ret1 trivial ?_
            exact (⟨by rw [← hdw, trimR_false r hc'], rfl⟩)
          · have hc' : l.contains x = true := by simpa using hc
            refine stp (And.intro @hlr (And.intro @hget (And.intro @Int.natCast_add (And.intro @Int.natCast_one (And.intro @htn (And.intro @Nat.sub_zero @List.take_left.{0})))))) ?_
            refine loopR_normal r.length (by omega) ⟨r, rfl, by omega, fun y hy => hbs y (by simp [hy]), by rw [← hdw, trimR_true r hc'], rfl, rfl, ?_⟩
            exact ⟨_, _, _, _, _, _, _, _, _, _, _, _, _, _, _, _, _, _, _, _, rfl, trivial⟩
      · have : s' = [] := by
          cases s' with
          | nil => rfl
          | cons x r => simp at hc; omega
        subst this
        refine stp trivial ?_
        refine ret1 trivial ?_
        exact (⟨by rw [← hdw]; rfl, rfl⟩)
    · exact ⟨s, rfl, Nat.le_refl _, hs, rfl, rfl, rfl, ⟨_, _, _, _, _, _, _, _, _, _, _, _, _, _, _, _, _, _, _, _, rfl, trivial⟩⟩
  obtain ⟨v, H', h, rfl, rfl⟩ := key
  exact h
theorem trimLeftByte_ok {c : Nat} (hc0 : c < 256) {s : List Nat} (hs : Bts s) (hlen : s.length < 1000000) (hn : 1 ≤ n) (hlf : s.length < lf) :
    callS tabT lf n 168 [.str s, .int .u8 (c : Int)] H = some (.str (s.dropWhile fun x => decide (x = c)), H) := by
  obtain ⟨n, rfl⟩ : ∃ m, n = m + 1 := ⟨n - 1, by omega⟩
  have key : ∃ v H', callS tabT lf (n + 1) 168 [.str s, .int .u8 (c : Int)] H = some (v, H') ∧ (v = .str (s.dropWhile fun x => decide (x = c)) ∧ H' = H) := by
    refine call_code tab168 (by simp only [c168, go_sem, List.reduceReplicate, Nat.reduceAdd, Nat.reduceSub]; exact rfl) ?_
    simp only [c168]
    refine stp trivial ?_
    refine EC_loop (I := fun m ts D H' => ∃ s' : List Nat, m = s'.length ∧ s'.length ≤ s.length ∧ (s'.dropWhile fun x => decide (x = c)) = (s.dropWhile fun x => decide (x = c)) ∧ D = [] ∧ H' = H ∧ ∃ z2 z3 z4 z5 z6 z7 z8 z9 z10 z11 z12 z13 z14 z15 z16, ts = ([(.str s'), (.int .u8 (c : Int)), z2, z3, z4, z5, z6, z7, z8, z9, z10, z11, z12, z13, z14, z15, z16] : T) ∧ (True)) ?_ s.length ?_ (by omega)
    · rintro m ts D H' ⟨s', rfl, hle, hdw, rfl, rfl, ⟨z2, z3, z4, z5, z6, z7, z8, z9, z10, z11, z12, z13, z14, z15, z16, rfl, -⟩⟩
      cases s' with
      | nil =>
        have hd : decide (((0 : Nat) : Int) > ((0 : Nat) : Int)) = false := by simp
        refine stp @hd ?_
        refine cst trivial (fun hc => ?_) (fun hc => ?_) <;> try simp only [decide_eq_true_eq, decide_eq_false_iff_not, not_true_eq_false, not_false_eq_true, Int.not_lt, Int.not_le, ge_iff_le, gt_iff_lt] at hc
        · simp at hc
        · refine stp trivial ?_
          refine ret1 trivial ?_
          exact (⟨by rw [← hdw]; rfl, rfl⟩)
      | cons x r =>
        have hd : decide (((r.length + 1 : Nat) : Int) > ((0 : Nat) : Int)) = true := by simp
        have hdd : ((x :: r).dropWhile fun y => decide (y = c)) = if decide (x = c) then r.dropWhile (fun y => decide (y = c)) else x :: r := List.dropWhile_cons
        refine stp @hd ?_
        refine cst trivial (fun hc => ?_) (fun hc => ?_) <;> try simp only [decide_eq_true_eq, decide_eq_false_iff_not, not_true_eq_false, not_false_eq_true, Int.not_lt, Int.not_le, ge_iff_le, gt_iff_lt] at hc
        · have hc' : x = c := by omega
          rw [if_pos (by simpa using hc')] at hdd
          refine stp (And.intro @Nat.add_sub_cancel @List.take_length.{0}) ?_
          refine loopR_normal r.length (by simp) ⟨r, rfl, by simp at hle; omega, by rw [← hdw, hdd], rfl, rfl, ?_⟩
          exact ⟨_, _, _, _, _, _, _, _, _, _, _, _, _, _, _, rfl, trivial⟩
        · have hc' : ¬ x = c := by omega
          rw [if_neg (by simpa using hc')] at hdd
          refine stp trivial ?_
          refine ret1 trivial ?_
          exact (⟨by rw [← hdw, hdd], rfl⟩)
    · exact ⟨s, rfl, Nat.le_refl _, rfl, rfl, rfl, ⟨_, _, _, _, _, _, _, _, _, _, _, _, _, _, _, rfl, trivial⟩⟩
  obtain ⟨v, H', h, rfl, rfl⟩ := key
  exact h
end
end Go.Sh
end
section
namespace Go.Sh
set_option maxRecDepth 10000
set_option linter.all false
def spS : List Nat := [32, 9]
def isSp (c : Nat) : Bool := [32, 9].contains c
def isEq (c : Nat) : Bool := decide (c = 61)
theorem tab98 : tabT 98 = some (.code c98) := by kernel_rfl
theorem tab99 : tabT 99 = some (.code c99) := by kernel_rfl
theorem tab100 : tabT 100 = some (.code c100) := by kernel_rfl
theorem d_nn : decide (([] : List Nat) = []) = true := rfl
theorem d_cn (x : Nat) (l : List Nat) : decide (x :: l = []) = false := by simp
theorem d_two : decide ((([32, 9] : List Nat).length : Int) = ((1 : Nat) : Int)) = false := by decide
theorem d_two' : decide (((0 + 1 + 1 : Nat) : Int) = ((1 : Nat) : Int)) = false := by decide
theorem d_two'' : decide (((2 : Nat) : Int) = ((1 : Nat) : Int)) = false := by decide
theorem d_one : decide (((0 + 1 : Nat) : Int) = ((1 : Nat) : Int)) = true := by decide
theorem d_one' : decide (((1 : Nat) : Int) = ((1 : Nat) : Int)) = true := by decide
theorem d_61 : decide (((61 : Nat) : Int) < ((128 : Nat) : Int)) = true := by decide
section
variable {lf n : Nat} {H : Heap}
theorem trimRightByte_ok {c : Nat} (hc0 : c < 256) {s : List Nat} (hs : Bts s) (hlen : s.length < 1000000) (hn : 1 ≤ n) (hlf : s.length < lf) :
    callS tabT lf n 164 [.str s, .int .u8 (c : Int)] H = some (.str (trimR (fun x => decide (x = c)) s), H) := by
  obtain ⟨n, rfl⟩ : ∃ m, n = m + 1 := ⟨n - 1, by omega⟩
  have key : ∃ v H', callS tabT lf (n + 1) 164 [.str s, .int .u8 (c : Int)] H = some (v, H') ∧ (v = .str (trimR (fun x => decide (x = c)) s) ∧ H' = H) := by
    refine call_code tab164 (by simp only [c164, go_sem, List.reduceReplicate, Nat.reduceAdd, Nat.reduceSub]; exact rfl) ?_
    simp only [c164]
    refine stp trivial ?_
    refine EC_loop (I := fun m ts D H' => ∃ s' : List Nat, m = s'.length ∧ s'.length ≤ s.length ∧ trimR (fun x => decide (x = c)) s' = trimR (fun x => decide (x = c)) s ∧ D = [] ∧ H' = H ∧ ∃ z2 z3 z4 z5 z6 z7 z8 z9 z10 z11 z12 z13 z14 z15 z16 z17 z18 z19 z20 z21 z22, ts = ([(.str s'), (.int .u8 (c : Int)), z2, z3, z4, z5, z6, z7, z8, z9, z10, z11, z12, z13, z14, z15, z16, z17, z18, z19, z20, z21, z22] : T) ∧ (True)) ?_ s.length ?_ (by omega)
    · rintro m ts D H' ⟨s', rfl, hle, hdw, rfl, rfl, ⟨z2, z3, z4, z5, z6, z7, z8, z9, z10, z11, z12, z13, z14, z15, z16, z17, z18, z19, z20, z21, z22, rfl, -⟩⟩
      rcases List.eq_nil_or_concat s' with rfl | ⟨r, x, rfl⟩
      · have hd : decide (((0 : Nat) : Int) > ((0 : Nat) : Int)) = false := by simp
        refine stp @hd ?_
        refine cst trivial (fun hc => ?_) (fun hc => ?_) <;> try simp only [decide_eq_true_eq, decide_eq_false_iff_not, not_true_eq_false, not_false_eq_true, Int.not_lt, Int.not_le, ge_iff_le, gt_iff_lt] at hc
        · simp at hc
        · refine stp trivial ?_
          refine ret1 trivial ?_
          exact (⟨by rw [← hdw]; rfl, rfl⟩)
      · rw [List.concat_eq_append] at *
        have hlr : (r ++ [x]).length = r.length + 1 := List.length_append
        rw [hlr] at hle
        have hget : (r ++ [x])[r.length]? = some x := by simp
        have htn : ((r.length : Int) + 1 - 1).toNat = r.length := by omega
        have hd : decide ((r.length : Int) + 1 > ((0 : Nat) : Int)) = true := by simp only [decide_eq_true_eq]; omega
        refine stp (And.intro @hlr (And.intro @hget (And.intro @Int.natCast_add (And.intro @Int.natCast_one (And.intro @htn @hd))))) ?_
        refine cst trivial (fun hc => ?_) (fun hc => ?_) <;> try simp only [decide_eq_true_eq, decide_eq_false_iff_not, not_true_eq_false, not_false_eq_true, Int.not_lt, Int.not_le, ge_iff_le, gt_iff_lt] at hc
        · have hc' : x = c := by omega
          refine stp (And.intro @hlr (And.intro @hget (And.intro @Int.natCast_add (And.intro @Int.natCast_one (And.intro @htn (And.intro @Nat.sub_zero @List.take_left.{0})))))) ?_
          refine loopR_normal r.length (by omega) ⟨r, rfl, by omega, by rw [← hdw, trimR_true r (by simpa using hc')], rfl, rfl, ?_⟩
          exact ⟨_, _, _, _, _, _, _, _, _, _, _, _, _, _, _, _, _, _, _, _, _, rfl, trivial⟩
        · have hc' : ¬ x = c := by omega
          refine stp trivial ?_
          refine ret1 trivial ?_
          exact (⟨by rw [← hdw, trimR_false r (by simpa using hc')], rfl⟩)
    · exact ⟨s, rfl, Nat.le_refl _, rfl, rfl, rfl, ⟨_, _, _, _, _, _, _, _, _, _, _, _, _, _, _, _, _, _, _, _, _, rfl, trivial⟩⟩
  obtain ⟨v, H', h, rfl, rfl⟩ := key
  exact h
theorem trimRight_eq {s : List Nat} (hs : Bts s) (hlen : s.length < 1000000) (hn : 2 ≤ n) (hlf : s.length < lf) :
    callS tabT lf n 98 [.str s, .str [61]] H = some (.str (trimR isEq s), H) := by
  obtain ⟨n, rfl⟩ : ∃ m, n = m + 1 := ⟨n - 1, by omega⟩
  have key : ∃ v H', callS tabT lf (n + 1) 98 [.str s, .str [61]] H = some (v, H') ∧ (v = .str (trimR isEq s) ∧ H' = H) := by
    refine call_code tab98 (by simp only [c98, go_sem, List.reduceReplicate, Nat.reduceAdd, Nat.reduceSub]; exact rfl) ?_
    simp only [c98]
    cases s with
    | nil =>
      refine stp @d_nn ?_
      refine cstT trivial ?_
      refine stp trivial ?_
      refine ret1 trivial ?_
      exact (⟨rfl, rfl⟩)
    | cons x r =>
      refine stp @d_cn ?_
      refine cstE trivial ?_
      · refine stp (And.intro @d_one (And.intro @d_one' @d_61)) ?_
        refine cstT trivial ?_
        · refine stp trivial ?_
          have hcall := trimRightByte_ok (lf := lf) (n := n) (H := H) (c := 61) (by omega) hs hlen (by omega) hlf
          refine kst trivial hcall ?_
          refine stp trivial ?_
          refine ret1 trivial ?_
          exact (⟨rfl, rfl⟩)
  obtain ⟨v, H', h, rfl, rfl⟩ := key
  exact h
theorem trimLeft_eq {s : List Nat} (hs : Bts s) (hlen : s.length < 1000000) (hn : 2 ≤ n) (hlf : s.length < lf) :
    callS tabT lf n 99 [.str s, .str [61]] H = some (.str (s.dropWhile isEq), H) := by
  obtain ⟨n, rfl⟩ : ∃ m, n = m + 1 := ⟨n - 1, by omega⟩
  have key : ∃ v H', callS tabT lf (n + 1) 99 [.str s, .str [61]] H = some (v, H') ∧ (v = .str (s.dropWhile isEq) ∧ H' = H) := by
    refine call_code tab99 (by simp only [c99, go_sem, List.reduceReplicate, Nat.reduceAdd, Nat.reduceSub]; exact rfl) ?_
    simp only [c99]
    cases s with
    | nil =>
      refine stp @d_nn ?_
      refine cstT trivial ?_
      refine stp trivial ?_
      refine ret1 trivial ?_
      exact (⟨rfl, rfl⟩)
    | cons x r =>
      refine stp @d_cn ?_
      refine cstE trivial ?_
      · refine stp (And.intro @d_one (And.intro @d_one' @d_61)) ?_
        refine cstT trivial ?_
        · refine stp trivial ?_
          have hcall := trimLeftByte_ok (lf := lf) (n := n) (H := H) (c := 61) (by omega) hs hlen (by omega) hlf
          refine kst trivial hcall ?_
          refine stp trivial ?_
          refine ret1 trivial ?_
          exact (⟨rfl, rfl⟩)
  obtain ⟨v, H', h, rfl, rfl⟩ := key
  exact h
theorem trimRight_sp {s : List Nat} (hs : Bts s) (hlen : s.length < 1000000) (hn : 3 ≤ n) (hlf : s.length < lf) (hlf2 : 2 < lf) :
    ∃ H', callS tabT lf n 98 [.str s, .str [32, 9]] H = some (.str (trimR isSp s), H') ∧ Ext H H' := by
  obtain ⟨n, rfl⟩ : ∃ m, n = m + 1 := ⟨n - 1, by omega⟩
  have key : ∃ v H', callS tabT lf (n + 1) 98 [.str s, .str [32, 9]] H = some (v, H') ∧ (v = .str (trimR isSp s) ∧ Ext H H') := by
    refine call_code tab98 (by simp only [c98, go_sem, List.reduceReplicate, Nat.reduceAdd, Nat.reduceSub]; exact rfl) ?_
    simp only [c98]
    cases s with
    | nil =>
      refine stp @d_nn ?_
      refine cstT trivial ?_
      refine stp trivial ?_
      refine ret1 trivial ?_
      exact (⟨rfl, Ext.refl _⟩)
    | cons x r =>
      refine stp @d_cn ?_
      refine cstE trivial ?_
      · refine stp (And.intro @d_two (And.intro @d_two' @d_two'')) ?_
        refine cstE trivial ?_
        · refine stp trivial ?_
          obtain ⟨H1, hcall, hE⟩ := makeSet_ok (lf := lf) (n := n) (H := H) (l := [32, 9]) (by simp) (by omega) (by simpa using hlf2) (by simp)
          refine kst trivial hcall ?_
          have hal := asc_length [32, 9]
          have hone : (asc [32, 9]).all SV.one = true := asc_one _
          have hdr : List.drop 256 (List.replicate 256 (SV.bool false)) = [] := by simp
          refine stp (And.intro @hal (And.intro @hone (And.intro @hdr @List.append_nil.{0}))) ?_
          refine cstT trivial ?_
          refine stp trivial ?_
          have hcall2 := trimRightASCII_ok (lf := lf) (n := n) (H := (H1.push (SObj.row (List.replicate 256 (SV.bool false)) 300 true false 0)).put H1.next (SObj.row (asc [32, 9]) 300 true false 0)) (get_put_self _ _) hs hlen (by omega) hlf
          refine kst trivial hcall2 ?_
          refine stp trivial ?_
          refine ret1 trivial ?_
          exact (⟨rfl, (hE.push _).put hE.1 _⟩)
  obtain ⟨v, H', h, rfl, hE⟩ := key
  exact ⟨H', h, hE⟩
end
end Go.Sh
end
