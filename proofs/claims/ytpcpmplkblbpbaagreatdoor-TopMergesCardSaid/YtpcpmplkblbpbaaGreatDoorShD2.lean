/-
  Merges: the builder of texts. (frame style z)
-/
import Derived.Test.YtpcpmplkblbpbaaGreatDoorShD1
set_option linter.all false
section
namespace Go.Sh
set_option maxRecDepth 10000
set_option linter.all false
def Bd (B0 : Nat) (H : Heap) (bb : Nat) (acc : List Nat) : Prop :=
  (acc = [] ∧ (H.get bb = some (.row [.nilp, .nils] 64 true false 0) ∨ H.get bb = some (.row [.ptr bb 0, .nils] 64 true false 0))) ∨
  (acc ≠ [] ∧ ∃ sb, B0 ≤ sb ∧ sb < H.next ∧ sb ≠ bb ∧ H.get bb = some (.row [.ptr bb 0, .slice sb 0 acc.length none 1] 64 true false 0) ∧ H.get sb = some (.row (byteCells acc) 5 false false 0))
def NB (H : Heap) (c : Nat) : Prop := ∀ cs, H.get c ≠ some (.row cs 5 false false 0)
def Fr (B0 bb : Nat) (H H' : Heap) : Prop := ∀ c, c < H.next → c ≠ bb → (c < B0 ∨ NB H c) → H'.get c = H.get c
theorem byteCells_app (a b : List Nat) : byteCells (a ++ b) = byteCells a ++ byteCells b := by simp [byteCells]
theorem byteCells_one (l : List Nat) : (byteCells l).all SV.one = true := by
  rw [List.all_eq_true]
  intro x hx
  obtain ⟨c, _, rfl⟩ := List.mem_map.1 hx
  rfl
theorem bytes_app {H : Heap} {sb : Nat} {acc s : List Nat} {str : Bool} {x : SV} (hx : srcS H str 1 x = some (s.length, byteCells s)) (hrow : H.get sb = some (.row (byteCells acc) 5 false false 0)) (h0 : s ≠ []) (hl : acc.length + s.length < 1000000) :
    appS H str 5 1 1 (.slice sb 0 acc.length none 1) x = some (.slice H.next 0 (acc ++ s).length none 1, (H.put sb .dead).push (.row (byteCells (acc ++ s)) 5 false false 0)) := by
  obtain ⟨m, hm⟩ : ∃ m, s.length = m + 1 := ⟨s.length - 1, by have : s.length ≠ 0 := by simpa using h0
                                                              omega⟩
  have hload : loadC H sb 0 (acc.length * 1) = some (byteCells acc) := by
    rw [loadC_eq, hrow, rowL_row (by rw [byteCells_len]; omega), List.drop_zero, Nat.mul_one, ← byteCells_len, List.take_length]
  have h1 : Nat.ble ((acc.length + (m + 1)) * 1) roomS = true := ble_true (by have : roomS = 35184372088832 := rfl; omega)
  have h2 : Nat.ble (acc.length + (m + 1)) roomS = true := ble_true (by have : roomS = 35184372088832 := rfl; omega)
  rw [hm] at hx
  simp only [appS, hx, beq_self, h1, h2, hload, hrow, byteCells_one, Bool.and_self]
  rw [ble_true (Nat.zero_le _), byteCells_app, List.length_append, hm]
  rfl
theorem bytes_new {H : Heap} {s : List Nat} {str : Bool} {x : SV} (hx : srcS H str 1 x = some (s.length, byteCells s)) (h0 : s ≠ []) (hl : s.length < 1000000) :
    appS H str 5 1 1 .nils x = some (.slice H.next 0 s.length none 1, H.push (.row (byteCells s) 5 false false 0)) := by
  obtain ⟨m, hm⟩ : ∃ m, s.length = m + 1 := ⟨s.length - 1, by have : s.length ≠ 0 := by simpa using h0
                                                              omega⟩
  have h1 : Nat.ble ((m + 1) * 1) roomS = true := ble_true (by have : roomS = 35184372088832 := rfl; omega)
  have h2 : Nat.ble (m + 1) roomS = true := ble_true (by have : roomS = 35184372088832 := rfl; omega)
  rw [hm] at hx
  simp only [appS, hx, h1, h2, Bool.and_self]
  rw [hm]
section
variable {ts : T} {H : Heap}
def eqpV (neg : Bool) (x y : SV) (H : Heap) : Option (SV × Heap) := match x, y with
  | .nilp, .nilp => some (.bool (true != neg), H)
  | .nilp, .ptr _ _ => some (.bool (false != neg), H)
  | .ptr _ _, .nilp => some (.bool (false != neg), H)
  | .ptr b o, .ptr b' o' => match Nat.beq b b' with
    | true => some (.bool (Nat.beq o o' != neg), H)
    | false => none
  | _, _ => none
theorem op_eqp (neg : Bool) (x y : X) : evalOp (.eqp neg x y) ts H = eqpV neg (x.ev ts) (y.ev ts) H := by
  simp only [evalOp, eqpV]
  rfl
theorem eqp_self (neg : Bool) (b o : Nat) : eqpV neg (.ptr b o) (.ptr b o) H = some (.bool (true != neg), H) := by
  simp only [eqpV, Nat.beq_refl]
attribute [go_sem] op_eqp eqp_self
end
section
variable {lf n : Nat} {H : Heap}
theorem tab40 : tabT 40 = some (.code c40) := by kernel_rfl
theorem copyCheck2_ok {bb : Nat} {w : SV} (hb : H.get bb = some (.row [.ptr bb 0, w] 64 true false 0)) (hn : 1 ≤ n) : callS tabT lf n 42 [.ptr bb 0] H = some (.tup [], H) := by
  obtain ⟨n, rfl⟩ : ∃ m, n = m + 1 := ⟨n - 1, by omega⟩
  have key : ∃ v H', callS tabT lf (n + 1) 42 [.ptr bb 0] H = some (v, H') ∧ (v = .tup [] ∧ H' = H) := by
    refine call_code tab42 (by simp only [c42, go_sem, List.reduceReplicate, Nat.reduceAdd, Nat.reduceSub]; exact rfl) ?_
    simp only [c42]
    refine stp @hb ?_
    refine cstE trivial ?_
    have et : (true != true) = false := rfl
    refine stp (And.intro @hb @et) ?_
    refine cstE @et ?_
    refine stp trivial ?_
    refine funR_normal res_nil ?_
    exact (⟨rfl, rfl⟩)
  obtain ⟨v, H', h, rfl, rfl⟩ := key
  exact h
theorem Bd.row {B0 : Nat} {bb : Nat} {acc : List Nat} (h : Bd B0 H bb acc) : ∃ p w, H.get bb = some (.row [p, w] 64 true false 0) ∧ ((p = .nilp ∧ w = .nils ∧ acc = []) ∨ p = .ptr bb 0) := by
  rcases h with ⟨h0, h | h⟩ | ⟨_, sb, _, _, _, h, _⟩
  · exact ⟨_, _, h, .inl ⟨rfl, rfl, h0⟩⟩
  · exact ⟨_, _, h, .inr rfl⟩
  · exact ⟨_, _, h, .inr rfl⟩
theorem cc_ok {B0 : Nat} {bb : Nat} {acc : List Nat} (h : Bd B0 H bb acc) (hn : 1 ≤ n) :
    ∃ H' w, callS tabT lf n 42 [.ptr bb 0] H = some (.tup [], H') ∧ H'.next = H.next ∧ (∀ k, k ≠ bb → H'.get k = H.get k) ∧ H'.get bb = some (.row [.ptr bb 0, w] 64 true false 0) ∧
      ((acc = [] ∧ w = .nils) ∨ (acc ≠ [] ∧ ∃ sb, B0 ≤ sb ∧ sb < H.next ∧ sb ≠ bb ∧ w = .slice sb 0 acc.length none 1 ∧ H'.get sb = some (.row (byteCells acc) 5 false false 0))) := by
  rcases h with ⟨h0, h | h⟩ | ⟨h0, sb, h1, h2, h3, h, h4⟩
  · exact ⟨_, .nils, copyCheck_ok h hn, rfl, fun k hk => get_put_other hk, get_put_self _ _, .inl ⟨h0, rfl⟩⟩
  · exact ⟨_, .nils, copyCheck2_ok h hn, rfl, fun k hk => rfl, h, .inl ⟨h0, rfl⟩⟩
  · exact ⟨_, _, copyCheck2_ok h hn, rfl, fun k hk => rfl, h, .inr ⟨h0, sb, h1, h2, h3, rfl, h4⟩⟩
theorem bytes_any {B0 bb : Nat} {acc s : List Nat} {str : Bool} {x w : SV} (hx : srcS H str 1 x = some (s.length, byteCells s)) (hB : B0 ≤ H.next) (hbb : bb < H.next) (hl : acc.length + s.length < 1000000)
    (hw : (acc = [] ∧ w = .nils) ∨ (acc ≠ [] ∧ ∃ sb, B0 ≤ sb ∧ sb < H.next ∧ sb ≠ bb ∧ w = .slice sb 0 acc.length none 1 ∧ H.get sb = some (.row (byteCells acc) 5 false false 0))) (hb : H.get bb = some (.row [.ptr bb 0, w] 64 true false 0)) :
    ∃ w' H', appS H str 5 1 1 w x = some (w', H') ∧ H.next ≤ H'.next ∧ H'.get bb = some (.row [.ptr bb 0, w] 64 true false 0) ∧ (∀ c, c < H.next → (c < B0 ∨ NB H c) → H'.get c = H.get c) ∧
      ((acc ++ s = [] ∧ w' = .nils) ∨ (acc ++ s ≠ [] ∧ ∃ sb, B0 ≤ sb ∧ sb < H'.next ∧ sb ≠ bb ∧ w' = .slice sb 0 (acc ++ s).length none 1 ∧ H'.get sb = some (.row (byteCells (acc ++ s)) 5 false false 0))) := by
  by_cases h0 : s = []
  · subst h0
    have hx0 : srcS H str 1 x = some (0, []) := hx
    rcases hw with ⟨rfl, rfl⟩ | ⟨ha, sb, h1, h2, h3, rfl, h4⟩
    · refine ⟨.nils, H, ?_, Nat.le_refl _, hb, fun c _ _ => rfl, .inl ⟨rfl, rfl⟩⟩
      simp only [appS, hx0]
    · refine ⟨_, H, ?_, Nat.le_refl _, hb, fun c _ _ => rfl, .inr ⟨by simpa using ha, sb, h1, h2, h3, by rw [List.append_nil], by rw [List.append_nil]; exact h4⟩⟩
      simp only [appS, hx0]
  · rcases hw with ⟨rfl, rfl⟩ | ⟨ha, sb, h1, h2, h3, rfl, h4⟩
    · refine ⟨_, _, bytes_new hx h0 (by simpa using hl), by rw [next_push]; omega, by rw [get_push_old hbb]; exact hb, fun c hc _ => get_push_old hc, .inr ⟨by simpa using h0, H.next, hB, by rw [next_push]; omega, by omega, by rw [List.nil_append], by rw [List.nil_append]; exact get_push_self _⟩⟩
    · refine ⟨_, _, bytes_app hx h4 h0 hl, by rw [next_push, next_put]; omega, by rw [get_push_old (by rw [next_put]; exact hbb), get_put_other (Ne.symm h3)]; exact hb, fun c hc hd => by
        have hcs : c ≠ sb := by
          rcases hd with hd | hd
          · omega
          · rintro rfl
            exact hd _ h4
        rw [get_push_old (by rw [next_put]; omega), get_put_other hcs], .inr ⟨by simp [h0], H.next, hB, by rw [next_push, next_put]; omega, by omega, rfl, ?_⟩⟩
      exact get_push_self (H := H.put sb .dead) _
theorem ws_ok {B0 bb : Nat} {acc s : List Nat} (h : Bd B0 H bb acc) (hB : B0 ≤ H.next) (hbb : bb < H.next) (hl : acc.length + s.length < 1000000) (hn : 2 ≤ n) :
    ∃ v H', callS tabT lf n 21 [.ptr bb 0, .str s] H = some (v, H') ∧ Bd B0 H' bb (acc ++ s) ∧ H.next ≤ H'.next ∧ Fr B0 bb H H' := by
  obtain ⟨n, rfl⟩ : ∃ m, n = m + 1 := ⟨n - 1, by omega⟩
  obtain ⟨H1, w, hcc, hn1, hk1, hb1, hw1⟩ := cc_ok (lf := lf) (n := n) h (by omega)
  obtain ⟨w', H2, ha, hn2, hb2, hk2, hw2⟩ := bytes_any (B0 := B0) (H := H1) (str := true) (x := .str s) (s := s) rfl (by omega) (by omega) hl (by
    rcases hw1 with h | ⟨h0, sb, q1, q2, q3, q4, q5⟩
    · exact .inl h
    · exact .inr ⟨h0, sb, q1, by omega, q3, q4, q5⟩) hb1
  have key : ∃ v H', callS tabT lf (n + 1) 21 [.ptr bb 0, .str s] H = some (v, H') ∧ H' = H2.put bb (.row [.ptr bb 0, w'] 64 true false 0) := by
    have ho : SV.one w' = true := by rcases hw2 with ⟨_, rfl⟩ | ⟨_, _, _, _, _, rfl, _⟩ <;> rfl
    have hst : storeS 1 (.ptr bb 1) [w'] H2 = some (H2.put bb (.row [.ptr bb 0, w'] 64 true false 0)) := by
      rw [store_ptr (n := 1) (cs := [w']) rfl, storeC_eq, hb2, sto_row (by simp) (by omega) (by simp [ho])]
      rfl
    have hcw : w'.cells = [w'] := by rcases hw2 with ⟨_, rfl⟩ | ⟨_, _, _, _, _, rfl, _⟩ <;> rfl
    have hv : appV H1 true 5 1 1 w (.str s) = some (w', H2) := ha
    refine call_code tab21 (by simp only [c21, go_sem, List.reduceReplicate, Nat.reduceAdd, Nat.reduceSub]; exact rfl) ?_
    simp only [c21]
    refine stp trivial ?_
    refine kst trivial hcc ?_
    refine stp (And.intro @hb1 (And.intro @hv (And.intro @hb2 (And.intro @hcw @hst)))) ?_
    refine ret2 trivial ?_
    exact (rfl)
  obtain ⟨v, H', h1, rfl⟩ := key
  refine ⟨v, _, h1, ?_, by rw [next_put]; omega, fun c hc hcb hd => by
    rw [get_put_other hcb, hk2 c (by omega) (by
      rcases hd with hd | hd
      · exact .inl hd
      · exact .inr fun cs => by rw [hk1 c hcb]; exact hd cs)]
    exact hk1 c hcb⟩
  rcases hw2 with ⟨e, rfl⟩ | ⟨h0, sb, q1, q2, q3, rfl, q5⟩
  · exact .inl ⟨e, .inr (get_put_self _ _)⟩
  · exact .inr ⟨h0, sb, q1, by rw [next_put]; exact q2, q3, get_put_self _ _, by rw [get_put_other q3]; exact q5⟩
theorem wb_ok {B0 bb : Nat} {acc : List Nat} {c : Nat} (h : Bd B0 H bb acc) (hB : B0 ≤ H.next) (hbb : bb < H.next) (hl : acc.length + 1 < 1000000) (hn : 2 ≤ n) :
    ∃ v H', callS tabT lf n 40 [.ptr bb 0, .int .u8 (c : Int)] H = some (v, H') ∧ Bd B0 H' bb (acc ++ [c]) ∧ H.next ≤ H'.next ∧ Fr B0 bb H H' := by
  obtain ⟨n, rfl⟩ : ∃ m, n = m + 1 := ⟨n - 1, by omega⟩
  obtain ⟨H1, w, hcc, hn1, hk1, hb1, hw1⟩ := cc_ok (lf := lf) (n := n) h (by omega)
  obtain ⟨Hb, hHb⟩ : ∃ Hb, H1.push (.row [.int .u8 (c : Int)] 5 true false 0) = Hb := ⟨_, rfl⟩
  have hnb : Hb.next = H1.next + 1 := by rw [← hHb]; rfl
  have hbn : Hb.get H1.next = some (.row [.int .u8 (c : Int)] 5 true false 0) := by rw [← hHb]; exact get_push_self _
  have hold : ∀ k, k < H1.next → Hb.get k = H1.get k := fun k hk => by rw [← hHb]; exact get_push_old hk
  have hsrc : srcS Hb false 1 (.slice H1.next 0 1 (some 1) 1) = some ([c].length, byteCells [c]) := by
    show (match loadC Hb H1.next 0 1 with | some cs => some (1, cs) | none => none) = _
    rw [loadC_eq, hbn, rowL_row (by simp)]
    rfl
  have hbb1 : bb < H1.next := by omega
  have hb1' : Hb.get bb = some (.row [.ptr bb 0, w] 64 true false 0) := by rw [hold bb hbb1]; exact hb1
  have hw1' : (acc = [] ∧ w = .nils) ∨ (acc ≠ [] ∧ ∃ sb, B0 ≤ sb ∧ sb < Hb.next ∧ sb ≠ bb ∧ w = .slice sb 0 acc.length none 1 ∧ Hb.get sb = some (.row (byteCells acc) 5 false false 0)) := by
    rcases hw1 with h | ⟨h0, sb, q1, q2, q3, q4, q5⟩
    · exact .inl h
    · have hs1 : sb < H1.next := by omega
      exact .inr ⟨h0, sb, q1, by omega, q3, q4, by rw [hold sb hs1]; exact q5⟩
  have hBb : B0 ≤ Hb.next := by omega
  have hbbb : bb < Hb.next := by omega
  obtain ⟨w', H2, ha, hn2, hb2, hk2, hw2⟩ := bytes_any (B0 := B0) (H := Hb) (str := false) (x := .slice H1.next 0 1 (some 1) 1) (s := [c]) hsrc hBb hbbb (by simpa using hl) hw1' hb1'
  have key : ∃ v H', callS tabT lf (n + 1) 40 [.ptr bb 0, .int .u8 (c : Int)] H = some (v, H') ∧ H' = H2.put bb (.row [.ptr bb 0, w'] 64 true false 0) := by
    have ho : SV.one w' = true := by rcases hw2 with ⟨_, rfl⟩ | ⟨_, _, _, _, _, rfl, _⟩ <;> rfl
    have hst : storeS 1 (.ptr bb 1) [w'] H2 = some (H2.put bb (.row [.ptr bb 0, w'] 64 true false 0)) := by
      rw [store_ptr (n := 1) (cs := [w']) rfl, storeC_eq, hb2, sto_row (by simp) (by omega) (by simp [ho])]
      rfl
    have hcw : w'.cells = [w'] := by rcases hw2 with ⟨_, rfl⟩ | ⟨_, _, _, _, _, rfl, _⟩ <;> rfl
    have hv : appV Hb false 5 1 1 w (.slice H1.next 0 1 (some 1) 1) = some (w', H2) := ha
    refine call_code tab40 (by simp only [c40, go_sem, List.reduceReplicate, Nat.reduceAdd, Nat.reduceSub]; exact rfl) ?_
    simp only [c40]
    refine stp trivial ?_
    refine kst trivial hcc ?_
    refine stp (And.intro @hb1 (And.intro @hHb (And.intro @hv (And.intro @hb2 (And.intro @hcw @hst))))) ?_
    refine ret1 trivial ?_
    exact (rfl)
  obtain ⟨v, H', h1, rfl⟩ := key
  refine ⟨v, _, h1, ?_, by rw [next_put]; omega, fun k hk hkb hd => by
    rw [get_put_other hkb, hk2 k (by omega) (by
      rcases hd with hd | hd
      · exact .inl hd
      · exact .inr fun cs => by rw [hold k (by omega), hk1 k hkb]; exact hd cs), hold k (by omega)]
    exact hk1 k hkb⟩
  rcases hw2 with ⟨e, rfl⟩ | ⟨h0, sb, q1, q2, q3, rfl, q5⟩
  · exact .inl ⟨e, .inr (get_put_self _ _)⟩
  · exact .inr ⟨h0, sb, q1, by rw [next_put]; exact q2, q3, get_put_self _ _, by rw [get_put_other q3]; exact q5⟩
theorem str_ok {B0 bb : Nat} {acc : List Nat} (h : Bd B0 H bb acc) (hs : Bts acc) (hbb : bb < H.next) (hl : acc.length < 1000000) (hn : 1 ≤ n) :
    ∃ H', callS tabT lf n 22 [.ptr bb 0] H = some (.str acc, H') ∧ H'.next = H.next ∧ ∀ k, k < B0 → H'.get k = H.get k := by
  rcases h with ⟨rfl, h⟩ | ⟨h0, sb, h1, h2, h3, h, h4⟩
  · obtain ⟨n, rfl⟩ : ∃ m, n = m + 1 := ⟨n - 1, by omega⟩
    have key : ∀ p, H.get bb = some (.row [p, .nils] 64 true false 0) → ∃ v H', callS tabT lf (n + 1) 22 [.ptr bb 0] H = some (v, H') ∧ v = .str [] ∧ H' = H := by
      intro p hb
      refine call_code tab22 (by simp only [c22, go_sem, List.reduceReplicate, Nat.reduceAdd, Nat.reduceSub]; exact rfl) ?_
      simp only [c22]
      refine stp trivial ?_
      refine EC_draw rfl ?_
      refine stp @hb ?_
      have hu : usdS .nils = some .nilp := rfl
      have hv : ustV 5 .nilp (.int .i64 ((0 : Nat) : Int)) H = some (.str [], H) := rfl
      have hv0 : ustV 5 .nilp (.int .i64 0) H = some (.str [], H) := rfl
      refine stp (And.intro @hb (And.intro @hu (And.intro @hv @hv0))) ?_
      refine ⟨?_, fun h => (by cases h), _, (by simp only [List.getLast?_cons_cons, List.getLast?_singleton]; first | done | with_reducible rfl), ?_⟩
      · repeat (first | exact readsD_nil _ _ _ | refine readsD_pure ?_ | refine readsD_eff ?_ | refine readsD_read (by simp only [allFrom, Bool.and_eq_true, and_true]; exact quiet_ok (H' := H) (by exact sfc @hb) (by simp only [go_sem])) ?_)
      · refine stp trivial ?_
        refine ret1 trivial ?_
        exact (⟨rfl, rfl⟩)
    rcases h with h | h
    · obtain ⟨v, H', e, rfl, rfl⟩ := key _ h
      exact ⟨H', e, rfl, fun k _ => rfl⟩
    · obtain ⟨v, H', e, rfl, rfl⟩ := key _ h
      exact ⟨H', e, rfl, fun k _ => rfl⟩
  · exact ⟨_, string_ok h h4 hs h0 hl hn, rfl, fun k hk => get_put_other (by omega)⟩
end
end Go.Sh
end
