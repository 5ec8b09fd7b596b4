/-
  Symbolic reckoning: the parser at texts without calls, tags and links.
  Symbolic reckoning: parse.Parse at texts without calls, tags and links.
  Symbolic reckoning: the builder; tree.Source of one text.
-/
import Derived.Test.YtpcpmplkblbpbaaGreatDoorShC2
set_option linter.all false
section
namespace Go.Sh
set_option maxRecDepth 10000
set_option linter.all false
theorem tab123 : tabT 123 = some (.code c123) := by kernel_rfl
theorem tab272 : tabT 272 = some (.code c272) := by kernel_rfl
theorem tab193 : tabT 193 = some (.code c193) := by kernel_rfl
theorem tab197 : tabT 197 = some (.code c197) := by kernel_rfl
theorem tab198 : tabT 198 = some (.code c198) := by kernel_rfl
theorem tab121 : tabT 121 = some (.code c121) := by kernel_rfl
theorem tab69 : tabT 69 = some (.code c69) := by kernel_rfl
def nodeC (acc : List Nat) : List SV := [.int .i64 ((1 : Nat) : Int), .int .i64 ((0 : Nat) : Int), .str acc, .nils, .nils]
theorem e_2_1 : decide (((2 : Nat) : Int) = ((1 : Nat) : Int)) = false := by decide
theorem e_2_2 : decide (((2 : Nat) : Int) = ((2 : Nat) : Int)) = true := by decide
theorem e_7_1 : decide (((7 : Nat) : Int) = ((1 : Nat) : Int)) = false := by decide
theorem e_7_2 : decide (((7 : Nat) : Int) = ((2 : Nat) : Int)) = false := by decide
theorem e_7_9 : decide (((7 : Nat) : Int) = ((9 : Nat) : Int)) = false := by decide
theorem e_7_10 : decide (((7 : Nat) : Int) = ((10 : Nat) : Int)) = false := by decide
theorem e_7_3 : decide (((7 : Nat) : Int) = ((3 : Nat) : Int)) = false := by decide
theorem e_7_5 : decide (((7 : Nat) : Int) = ((5 : Nat) : Int)) = false := by decide
theorem e_7_11 : decide (((7 : Nat) : Int) = ((11 : Nat) : Int)) = false := by decide
theorem e_7_7 : decide (((7 : Nat) : Int) = ((7 : Nat) : Int)) = true := by decide
theorem e_8_1 : decide (((8 : Nat) : Int) = ((1 : Nat) : Int)) = false := by decide
theorem e_8_2 : decide (((8 : Nat) : Int) = ((2 : Nat) : Int)) = false := by decide
theorem e_8_9 : decide (((8 : Nat) : Int) = ((9 : Nat) : Int)) = false := by decide
theorem e_8_10 : decide (((8 : Nat) : Int) = ((10 : Nat) : Int)) = false := by decide
theorem e_8_3 : decide (((8 : Nat) : Int) = ((3 : Nat) : Int)) = false := by decide
theorem e_8_5 : decide (((8 : Nat) : Int) = ((5 : Nat) : Int)) = false := by decide
theorem e_8_11 : decide (((8 : Nat) : Int) = ((11 : Nat) : Int)) = false := by decide
theorem e_8_7 : decide (((8 : Nat) : Int) = ((7 : Nat) : Int)) = false := by decide
theorem e_8_8 : decide (((8 : Nat) : Int) = ((8 : Nat) : Int)) = true := by decide
attribute [go_sem] e_2_1 e_2_2 e_7_1 e_7_2 e_7_9 e_7_10 e_7_3 e_7_5 e_7_11 e_7_7 e_8_1 e_8_2 e_8_9 e_8_10 e_8_3 e_8_5 e_8_11 e_8_7 e_8_8
structure PP (B0 : Nat) (H : Heap) (pb sb eb : Nat) (lv : SV) (acc : List Nat) : Prop where
  p0 : B0 ≤ pb
  s0 : B0 ≤ sb
  e0 : B0 ≤ eb
  p1 : pb < H.next
  s1 : sb < H.next
  e1 : eb < H.next
  ps : pb ≠ sb
  pe : pb ≠ eb
  se : sb ≠ eb
  hp : H.get pb = some (.row [.slice sb 0 1 (some 1) 1] 248 true false 0)
  hs : H.get sb = some (.row [.ptr eb 0] 243 true false 0)
  he : H.get eb = some (.row [.int .i64 0, .int .i64 0, .int .i64 0, lv, .nils] 245 true false 0)
  hl : (acc = [] ∧ lv = .nils) ∨ (acc ≠ [] ∧ ∃ nb, lv = .slice nb 0 1 none 5 ∧ B0 ≤ nb ∧ nb < H.next ∧ nb ≠ pb ∧ nb ≠ sb ∧ nb ≠ eb ∧ H.get nb = some (.row (nodeC acc) 214 false false 0))
theorem app_nil {H : Heap} {e z bytes : Nat} {x : List SV} {b' : Nat} {e' : TypeId} {ex ro : Bool} {frz : Nat} {c : Option Nat} (hx : x.length = z) (hb' : H.get b' = some (.row x e' ex ro frz)) (h1 : bytes ≤ 35184372088832) :
    appS H false e z bytes .nils (.slice b' 0 1 c z) = some (.slice H.next 0 1 none z, H.push (.row x e false false 0)) := by
  have hsrc := srcS_one (c := c) hx hb'
  simp only [appS, hsrc, roomS]
  rw [ble_true (by omega), ble_true (by omega)]
  rfl
theorem readsD_nil (hs : List Heap) (a : List T) (b : List SV) : readsD hs [] a b = true := rfl
theorem readsD_pure {hs : List Heap} {o : SOper} {os : List (SOper × DK)} {t : T} {tss : List T} {v : SV} {vs : List SV} (h : readsD hs os tss vs = true) : readsD hs ((o, .pure) :: os) (t :: tss) (v :: vs) = true := by
  simp only [readsD, h]
  cases wantedS t o.guard <;> rfl
theorem readsD_eff {hs : List Heap} {o : SOper} {os : List (SOper × DK)} {t : T} {tss : List T} {v : SV} {vs : List SV} (h : readsD hs os tss vs = true) : readsD hs ((o, .eff) :: os) (t :: tss) (v :: vs) = true := by
  simp only [readsD, h]
  cases wantedS t o.guard <;> rfl
theorem readsD_read {hs : List Heap} {d lo hi : Nat} {s : SOp} {os : List (SOper × DK)} {t : T} {tss : List T} {v : SV} {vs : List SV} (hr : allFrom (fun H => match quietOp (.op s) t H with | some u => beqS u v | none => false) hs lo hi = true) (h : readsD hs os tss vs = true) : readsD hs ((⟨some d, .op s, none⟩, .read lo hi) :: os) (t :: tss) (v :: vs) = true := by
  simp only [readsD, wantedS, h, Bool.and_true]
  exact hr
theorem quiet_ok {s : SOp} {t : T} {H H' : Heap} {v : SV} (h : evalOp s t H = some (v, H')) (hb : beqS v v = true) : (match quietOp (.op s) t H with | some u => beqS u v | none => false) = true := by
  simp only [quietOp, h, hb]
section
variable {lf n : Nat} {H : Heap} {B0 pb sb eb : Nat} {lv : SV} {acc : List Nat}
theorem top_ok (h : PP B0 H pb sb eb lv acc) (hn : 1 ≤ n) : callS tabT lf n 123 [.ptr pb 0] H = some (.ptr eb 0, H) := by
  obtain ⟨n, rfl⟩ : ∃ m, n = m + 1 := ⟨n - 1, by omega⟩
  have hp := h.hp
  have hs := h.hs
  have key : ∃ v H', callS tabT lf (n + 1) 123 [.ptr pb 0] H = some (v, H') ∧ (v = .ptr eb 0 ∧ H' = H) := by
    refine call_code tab123 (by simp only [c123, go_sem, List.reduceReplicate, Nat.reduceAdd, Nat.reduceSub]; exact rfl) ?_
    simp only [c123]
    refine stp (And.intro @hp @hs) ?_
    refine ret1 trivial ?_
    exact (⟨rfl, rfl⟩)
  obtain ⟨v, H', h, rfl, rfl⟩ := key
  exact h
theorem current_ok (h : PP B0 H pb sb eb lv acc) (hn : 1 ≤ n) : callS tabT lf n 272 [.ptr eb 0] H = some (.ptr eb 3, H) := by
  obtain ⟨n, rfl⟩ : ∃ m, n = m + 1 := ⟨n - 1, by omega⟩
  have he := h.he
  have d1 : decide (((0 : Int)) = ((3 : Nat) : Int)) = false := by decide
  have key : ∃ v H', callS tabT lf (n + 1) 272 [.ptr eb 0] H = some (v, H') ∧ (v = .ptr eb 3 ∧ H' = H) := by
    refine call_code tab272 (by simp only [c272, go_sem, List.reduceReplicate, Nat.reduceAdd, Nat.reduceSub]; exact rfl) ?_
    simp only [c272]
    refine stp (And.intro @he @d1) ?_
    refine cstE trivial ?_
    refine stp trivial ?_
    refine ret1 trivial ?_
    exact (⟨rfl, rfl⟩)
  obtain ⟨v, H', h, rfl, rfl⟩ := key
  exact h
theorem ptext_ok (h : PP B0 H pb sb eb lv acc) {s : List Nat} (hs0 : s ≠ []) (hlen : acc.length + s.length < 1000000) (hn : 2 ≤ n) :
    ∃ H' lv', callS tabT lf n 193 [.ptr pb 0, .str s] H = some (.tup [], H') ∧ PP B0 H' pb sb eb lv' (acc ++ s) ∧ H.next ≤ H'.next ∧ ∀ b, b < B0 → H'.get b = H.get b := by
  obtain ⟨n, rfl⟩ : ∃ m, n = m + 1 := ⟨n - 1, by omega⟩
  have key : ∃ v H', callS tabT lf (n + 1) 193 [.ptr pb 0, .str s] H = some (v, H') ∧ ∃ lv', v = .tup [] ∧ PP B0 H' pb sb eb lv' (acc ++ s) ∧ H.next ≤ H'.next ∧ ∀ b, b < B0 → H'.get b = H.get b := by
    refine call_code tab193 (by simp only [c193, go_sem, List.reduceReplicate, Nat.reduceAdd, Nat.reduceSub]; exact rfl) ?_
    simp only [c193]
    have d0 : decide (s = []) = false := by simp [hs0]
    have he := h.he
    refine stp @d0 ?_
    refine cstE trivial ?_
    refine stp trivial ?_
    have h1 := top_ok (lf := lf) (n := n) h (by omega)
    refine kst trivial h1 ?_
    have h2 := current_ok (lf := lf) (n := n) h (by omega)
    refine kst trivial h2 ?_
    rcases h.hl with ⟨rfl, rfl⟩ | ⟨hne, nb, rfl, nb0, nb1, np, ns, ne, hnb⟩
    · have d1 : decide ((0 : Int) > ((0 : Nat) : Int)) = false := by decide
      refine stp (And.intro @he @d1) ?_
      refine cstE trivial ?_
      refine stp trivial ?_
      refine EC_draw rfl ?_
      refine stp @he ?_
      have ha := app_nil (H := H.push (.row [.int .i64 ((0 : Nat) : Int), .int .i64 ((0 : Nat) : Int), .str [], .nils, .nils] 214 true false 0)) (e := 214) (z := 5) (bytes := 80) (c := some 1) rfl (get_push_self _) (by omega)
      refine ED_eff (by simp only [go_sem]; exact ha) (by simp only [List.set_cons_zero, List.set_cons_succ]; with_reducible rfl) ?_
      have e1 := h.e1
      refine stp @he ?_
      refine ⟨?_, fun _ => ?_, _, (by simp only [List.getLast?_cons_cons, List.getLast?_singleton]; first | done | with_reducible rfl), ?_⟩
      · apply readsD_pure; apply readsD_pure; apply readsD_read
        · simp only [allFrom, Bool.and_eq_true, and_true]
          exact ⟨quiet_ok (H' := H) (by exact sfc @he) rfl, quiet_ok (H' := (H.push (.row [.int .i64 ((0 : Nat) : Int), .int .i64 ((0 : Nat) : Int), .str [], .nils, .nils] 214 true false 0))) (by exact sfc @he) rfl⟩
        · repeat (first | exact readsD_nil _ _ _ | apply readsD_pure | apply readsD_eff)
      · show (!Nat.beq (H.next + 1) eb) = true
        rw [beq_false (by omega)]
        rfl
      · refine stp trivial ?_
        refine funR_normal res_nil ?_
        have hp1 := h.p1
        have hs1 := h.s1
        have he0 := h.e0
        have hpe := h.pe
        have hse := h.se
        have hhp := h.hp
        have hhs := h.hs
        refine ⟨.slice (H.next + 1) 0 1 none 5, rfl, ⟨h.p0, h.s0, h.e0, ?_, ?_, ?_, h.ps, h.pe, h.se, ?_, ?_, ?_, ?_⟩, ?_, ?_⟩
        · simp only [next_put, next_push]; omega
        · simp only [next_put, next_push]; omega
        · simp only [next_put, next_push]; omega
        · exact sfc @hhp
        · exact sfc @hhs
        · exact sfc trivial
        · refine .inr ⟨hs0, H.next + 1, rfl, ?_, ?_, ?_, ?_, ?_, ?_⟩
          · have := h.p0; omega
          · simp only [next_put, next_push]; omega
          · omega
          · omega
          · omega
          · exact sfc @nodeC.eq_1
        · simp only [next_put, next_push]; omega
        · intro b hb
          have := h.p0
          exact sfc trivial
    · have d1 : decide (((1 : Nat) : Int) > ((0 : Nat) : Int)) = true := by decide
      have d2 : decide (((1 : Nat) : Int) = ((1 : Nat) : Int)) = true := by decide
      have hnb' : H.get nb = some (.row [.int .i64 ((1 : Nat) : Int), .int .i64 ((0 : Nat) : Int), .str acc, .nils, .nils] 214 false false 0) := hnb
      have e1 := h.e1
      have hhp := h.hp
      have hhs := h.hs
      refine stp (And.intro @he (And.intro @d1 (And.intro @hnb' @d2))) ?_
      refine cstT trivial ?_
      refine stp (And.intro @he @hnb') ?_
      refine funR_ret res_nil ?_
      exact (⟨.slice nb 0 1 none 5, rfl, ⟨h.p0, h.s0, h.e0, h.p1, h.s1, h.e1, h.ps, h.pe, h.se, (get_put_other (Ne.symm np)).trans hhp, (get_put_other (Ne.symm ns)).trans hhs, (get_put_other (Ne.symm ne)).trans he, .inr ⟨by simp [hs0], nb, rfl, nb0, nb1, np, ns, ne, get_put_self _ _⟩⟩, Nat.le_refl _, fun b hb => get_put_other (by omega)⟩)
  obtain ⟨v, H', h, lv', rfl, h1, h2, h3⟩ := key
  exact ⟨H', lv', h, h1, h2, h3⟩
theorem bar_ok (h : PP B0 H pb sb eb lv acc) (hlen : acc.length < 999000) (hn : 3 ≤ n) :
    ∃ H' lv', callS tabT lf n 197 [.ptr pb 0] H = some (.tup [], H') ∧ PP B0 H' pb sb eb lv' (acc ++ [124]) ∧ H.next ≤ H'.next ∧ ∀ b, b < B0 → H'.get b = H.get b := by
  obtain ⟨n, rfl⟩ : ∃ m, n = m + 1 := ⟨n - 1, by omega⟩
  have he := h.he
  have d1 : decide ((0 : Int) = ((3 : Nat) : Int)) = false := by decide
  have key : ∃ v H', callS tabT lf (n + 1) 197 [.ptr pb 0] H = some (v, H') ∧ ∃ lv', v = .tup [] ∧ PP B0 H' pb sb eb lv' (acc ++ [124]) ∧ H.next ≤ H'.next ∧ ∀ b, b < B0 → H'.get b = H.get b := by
    refine call_code tab197 (by simp only [c197, go_sem, List.reduceReplicate, Nat.reduceAdd, Nat.reduceSub]; exact rfl) ?_
    simp only [c197]
    refine stp trivial ?_
    have h1 := top_ok (lf := lf) (n := n) h (by omega)
    refine kst trivial h1 ?_
    refine stp (And.intro @he @d1) ?_
    refine cstE trivial ?_
    refine stp trivial ?_
    obtain ⟨H', lv', h2, h3, h4, h5⟩ := ptext_ok (lf := lf) (n := n) h (s := [124]) (by simp) (by simp; omega) (by omega)
    refine kst trivial h2 ?_
    refine stp trivial ?_
    refine funR_normal res_nil ?_
    exact (⟨lv', rfl, h3, h4, h5⟩)
  obtain ⟨v, H', h, lv', rfl, h1, h2, h3⟩ := key
  exact ⟨H', lv', h, h1, h2, h3⟩
theorem equal_ok (h : PP B0 H pb sb eb lv acc) (hlen : acc.length < 999000) (hn : 3 ≤ n) :
    ∃ H' lv', callS tabT lf n 198 [.ptr pb 0] H = some (.tup [], H') ∧ PP B0 H' pb sb eb lv' (acc ++ [61]) ∧ H.next ≤ H'.next ∧ ∀ b, b < B0 → H'.get b = H.get b := by
  obtain ⟨n, rfl⟩ : ∃ m, n = m + 1 := ⟨n - 1, by omega⟩
  have he := h.he
  have d1 : decide ((0 : Int) = ((3 : Nat) : Int)) = false := by decide
  have key : ∃ v H', callS tabT lf (n + 1) 198 [.ptr pb 0] H = some (v, H') ∧ ∃ lv', v = .tup [] ∧ PP B0 H' pb sb eb lv' (acc ++ [61]) ∧ H.next ≤ H'.next ∧ ∀ b, b < B0 → H'.get b = H.get b := by
    refine call_code tab198 (by simp only [c198, go_sem, List.reduceReplicate, Nat.reduceAdd, Nat.reduceSub]; exact rfl) ?_
    simp only [c198]
    refine stp trivial ?_
    have h1 := top_ok (lf := lf) (n := n) h (by omega)
    refine kst trivial h1 ?_
    refine stp (And.intro @he @d1) ?_
    refine cstE trivial ?_
    refine stp trivial ?_
    obtain ⟨H', lv', h2, h3, h4, h5⟩ := ptext_ok (lf := lf) (n := n) h (s := [61]) (by simp) (by simp; omega) (by omega)
    refine kst trivial h2 ?_
    refine stp trivial ?_
    refine funR_normal res_nil ?_
    exact (⟨lv', rfl, h3, h4, h5⟩)
  obtain ⟨v, H', h, lv', rfl, h1, h2, h3⟩ := key
  exact ⟨H', lv', h, h1, h2, h3⟩
theorem PP.push (h : PP B0 H pb sb eb lv acc) (o : SObj) : PP B0 (H.push o) pb sb eb lv acc where
  p0 := h.p0
  s0 := h.s0
  e0 := h.e0
  p1 := by rw [next_push]; have := h.p1; omega
  s1 := by rw [next_push]; have := h.s1; omega
  e1 := by rw [next_push]; have := h.e1; omega
  ps := h.ps
  pe := h.pe
  se := h.se
  hp := by rw [get_push_old h.p1]; exact h.hp
  hs := by rw [get_push_old h.s1]; exact h.hs
  he := by rw [get_push_old h.e1]; exact h.he
  hl := by
    rcases h.hl with hl | ⟨h1, nb, h2, h3, h4, h5, h6, h7, h8⟩
    · exact .inl hl
    · exact .inr ⟨h1, nb, h2, h3, by rw [next_push]; omega, h5, h6, h7, by rw [get_push_old h4]; exact h8⟩
theorem PP.ext {H' : Heap} (h : PP B0 H pb sb eb lv acc) (hE : Ext H H') : PP B0 H' pb sb eb lv acc where
  p0 := h.p0
  s0 := h.s0
  e0 := h.e0
  p1 := by have := h.p1; have := hE.1; omega
  s1 := by have := h.s1; have := hE.1; omega
  e1 := by have := h.e1; have := hE.1; omega
  ps := h.ps
  pe := h.pe
  se := h.se
  hp := by rw [hE.2 _ h.p1]; exact h.hp
  hs := by rw [hE.2 _ h.s1]; exact h.hs
  he := by rw [hE.2 _ h.e1]; exact h.he
  hl := by
    rcases h.hl with hl | ⟨h1, nb, h2, h3, h4, h5, h6, h7, h8⟩
    · exact .inl hl
    · exact .inr ⟨h1, nb, h2, h3, by have := hE.1; omega, h5, h6, h7, by rw [hE.2 _ h4]; exact h8⟩
theorem take_ok (h : PP B0 H pb sb eb lv acc) {s : List Nat} {k a b : Nat} (h1 : a < b) (h2 : b ≤ s.length) (hok : okTok s k a b) (hlen : s.length < 100000) (hacc : acc.length < 100000) (hB : B0 ≤ H.next) (hn : 4 ≤ n) :
    ∃ H' lv', callS tabT lf n 121 [.ptr pb 0, .str s, .agg (tokC (k, a, b))] H = some (.tup [], H') ∧ PP B0 H' pb sb eb lv' (acc ++ (s.drop a).take (b - a)) ∧ H.next ≤ H'.next ∧ ∀ c, c < B0 → H'.get c = H.get c := by
  obtain ⟨n, rfl⟩ : ∃ m, n = m + 1 := ⟨n - 1, by omega⟩
  have key : ∃ v H', callS tabT lf (n + 1) 121 [.ptr pb 0, .str s, .agg (tokC (k, a, b))] H = some (v, H') ∧ ∃ lv', v = .tup [] ∧ PP B0 H' pb sb eb lv' (acc ++ (s.drop a).take (b - a)) ∧ H.next ≤ H'.next ∧ ∀ c, c < B0 → H'.get c = H.get c := by
    refine call_code tab121 (by simp only [c121, go_sem, List.reduceReplicate, Nat.reduceAdd, Nat.reduceSub]; exact rfl) ?_
    simp only [c121]
    refine stp @tokC.eq_1 ?_
    obtain ⟨H1, ht, hE⟩ := text_ok (lf := lf) (n := n) (H := H.push (.row [.int .i64 (k : Int), .int .i64 (a : Int), .int .i64 (b : Int)] 250 true false 0)) (s := s) (k := k) (a := a) (b := b) (by omega) h2 (by omega) (by omega)
    refine kst trivial ht ?_
    have hg := hE.2 H.next (by rw [next_push]; omega)
    rw [get_push_self] at hg
    have hP := (h.push (.row [.int .i64 (k : Int), .int .i64 (a : Int), .int .i64 (b : Int)] 250 true false 0)).ext hE
    have hold : ∀ c, c < B0 → H1.get c = H.get c := fun c hc => by rw [hE.2 c (by rw [next_push]; omega), get_push_old (by omega)]
    have hn1 : H.next ≤ H1.next := by have := hE.1; rw [next_push] at this; omega
    have hne : (s.drop a).take (b - a) ≠ [] := by
      intro e
      have := congrArg List.length e
      simp at this
      omega
    have hl : ((s.drop a).take (b - a)).length ≤ s.length := by simp; omega
    refine stp @hg ?_
    rcases hok with rfl | rfl | ⟨rfl, htx⟩ | ⟨rfl, htx⟩
    · have d1 : decide (((1 : Nat) : Int) = ((1 : Nat) : Int)) = true := by decide
      refine stp @d1 ?_
      refine cstT trivial ?_
      refine stp trivial ?_
      refine cstT trivial ?_
      refine stp trivial ?_
      obtain ⟨H', lv', h3, h4, h5, h6⟩ := ptext_ok (lf := lf) (n := n) hP (s := (s.drop a).take (b - a)) hne (by omega) (by omega)
      refine kst trivial h3 ?_
      refine stp trivial ?_
      refine funR_normal res_nil ?_
      exact (⟨lv', rfl, h4, by omega, fun c hc => (h6 c hc).trans (hold c hc)⟩)
    · refine stp trivial ?_
      refine cstE trivial ?_
      refine stp trivial ?_
      refine cstT trivial ?_
      refine stp trivial ?_
      obtain ⟨H', lv', h3, h4, h5, h6⟩ := ptext_ok (lf := lf) (n := n) hP (s := (s.drop a).take (b - a)) hne (by omega) (by omega)
      refine kst trivial h3 ?_
      refine stp trivial ?_
      refine funR_normal res_nil ?_
      exact (⟨lv', rfl, h4, by omega, fun c hc => (h6 c hc).trans (hold c hc)⟩)
    · refine stp trivial ?_
      refine cstE trivial ?_
      refine stp trivial ?_
      refine cstE trivial ?_
      refine stp trivial ?_
      refine cstE trivial ?_
      refine stp trivial ?_
      refine cstE trivial ?_
      refine stp trivial ?_
      refine cstE trivial ?_
      refine stp trivial ?_
      refine cstE trivial ?_
      refine stp trivial ?_
      refine cstE trivial ?_
      refine stp trivial ?_
      refine cstT trivial ?_
      refine stp trivial ?_
      obtain ⟨H', lv', h3, h4, h5, h6⟩ := bar_ok (lf := lf) (n := n) hP (by omega) (by omega)
      refine kst trivial h3 ?_
      refine stp trivial ?_
      rw [htx]
      refine funR_normal res_nil ?_
      exact (⟨lv', rfl, h4, by omega, fun c hc => (h6 c hc).trans (hold c hc)⟩)
    · refine stp trivial ?_
      refine cstE trivial ?_
      refine stp trivial ?_
      refine cstE trivial ?_
      refine stp trivial ?_
      refine cstE trivial ?_
      refine stp trivial ?_
      refine cstE trivial ?_
      refine stp trivial ?_
      refine cstE trivial ?_
      refine stp trivial ?_
      refine cstE trivial ?_
      refine stp trivial ?_
      refine cstE trivial ?_
      refine stp trivial ?_
      refine cstE trivial ?_
      refine stp trivial ?_
      refine cstT trivial ?_
      refine stp trivial ?_
      obtain ⟨H', lv', h3, h4, h5, h6⟩ := equal_ok (lf := lf) (n := n) hP (by omega) (by omega)
      refine kst trivial h3 ?_
      refine stp trivial ?_
      rw [htx]
      refine funR_normal res_nil ?_
      exact (⟨lv', rfl, h4, by omega, fun c hc => (h6 c hc).trans (hold c hc)⟩)
  obtain ⟨v, H', h, lv', rfl, h1, h2, h3⟩ := key
  exact ⟨H', lv', h, h1, h2, h3⟩
end
end Go.Sh
end
section
namespace Go.Sh
set_option maxRecDepth 10000
set_option linter.all false
theorem Chain.at {s : List Nat} {p q : Nat} {t : Tok} {L : List Tok} (h : Chain s p (t :: L) q) : t.2.1 = p ∧ p < t.2.2 ∧ t.2.2 ≤ s.length ∧ okTok s t.1 p t.2.2 ∧ Chain s t.2.2 L q := by
  obtain ⟨k, a, b⟩ := t
  obtain ⟨h1, h2, h3, h4, h5⟩ := h
  exact ⟨h1, h2, h3, by rw [← h1]; exact h4, h5⟩
def Nodes (H : Heap) (lv : SV) (s : List Nat) : Prop := (s = [] ∧ lv = .nils) ∨ (s ≠ [] ∧ ∃ nb, lv = .slice nb 0 1 none 5 ∧ nb < H.next ∧ H.get nb = some (.row (nodeC s) 214 false false 0))
@[reducible] def I24 (s : List Nat) (v : SV) (L : List Tok) (H1 : Heap) (m : Nat) (ts : T) (D : DS) (H' : Heap) : Prop :=
  ∃ (i p : Nat) (lv : SV), m = L.length - i ∧ i ≤ L.length ∧ p ≤ s.length ∧ Chain s p (L.drop i) s.length ∧ PP H1.next H' (H1.next + 2) (H1.next + 1) H1.next lv (s.take p) ∧ D = [] ∧ Ext H1 H' ∧
  ∃ z1 z2 z3 z5 z7 z8 z9 z10 z11 z12 z13 z14 z15 z16 z17 z18 z19 z20 z21 z25 z26 z27 z28 z29 z30 z31 z32 z33 z34 z35 z36 z37 z38 z39 z40 z41 z42 z43 z44 z45, ts = ([(.str s), z1, z2, z3, (v), z5, (.ptr (H1.next + 2) 0), z7, z8, z9, z10, z11, z12, z13, z14, z15, z16, z17, z18, z19, z20, z21, (v), (.int .i64 (L.length : Int)), (.int .i64 (i : Int)), z25, z26, z27, z28, z29, z30, z31, z32, z33, z34, z35, z36, z37, z38, z39, z40, z41, z42, z43, z44, z45] : T) ∧ (True)
section
variable {lf n : Nat} {H : Heap}
theorem parse_ok {s : List Nat} (hp : Plain s) (hlen : s.length ≤ 8192) (hn : 5 ≤ n) (hlf : s.length < lf) :
    ∃ (lv : SV) (H' : Heap), callS tabT lf n 69 [.str s] H = some (.tup [lv, .int .i64 0], H') ∧ Ext H H' ∧ Nodes H' lv s := by
  obtain ⟨n, rfl⟩ : ∃ m, n = m + 1 := ⟨n - 1, by omega⟩
  have key : ∃ v H', callS tabT lf (n + 1) 69 [.str s] H = some (v, H') ∧ ∃ lv, v = .tup [lv, .int .i64 0] ∧ Ext H H' ∧ Nodes H' lv s := by
    refine call_code tab69 (by simp only [c69, go_sem, List.reduceReplicate, Nat.reduceAdd, Nat.reduceSub]; exact rfl) ?_
    simp only [c69]
    refine stp trivial ?_
    obtain ⟨v, L, H1, hscan, hE, hch, hsl⟩ := scan_ok (lf := lf) (n := n) (H := H) hp hlen (by omega) hlf
    refine kst trivial hscan ?_
    have d0 : decide ((0 : Int) ≠ ((0 : Nat) : Int)) = false := by decide
    refine stp @d0 ?_
    refine cstE trivial ?_
    have hlenl := hsl.lenl
    rw [List.length_map] at hlenl
    refine stp @hlenl ?_
    have hLp := hch.len
    refine EC_loop (I := I24 s v L H1) ?_ L.length ?_ (by omega)
    · rintro m ts D H' ⟨i, p, lv, rfl, hi, hps, hc2, hP, rfl, hE1, ⟨z1, z2, z3, z5, z7, z8, z9, z10, z11, z12, z13, z14, z15, z16, z17, z18, z19, z20, z21, z25, z26, z27, z28, z29, z30, z31, z32, z33, z34, z35, z36, z37, z38, z39, z40, z41, z42, z43, z44, z45, rfl, -⟩⟩
      refine stp trivial ?_
      refine cst trivial (fun hc => ?_) (fun hc => ?_) <;> try simp only [decide_eq_true_eq, decide_eq_false_iff_not, not_true_eq_false, not_false_eq_true, Int.not_lt, Int.not_le, ge_iff_le, gt_iff_lt] at hc
      · have hlt : i < L.length := by omega
        rw [List.drop_eq_getElem_cons hlt] at hc2
        obtain ⟨c1, c2, c3, c4, c5⟩ := hc2.at
        have hget : (L.map tokC)[i]? = some (tokC L[i]) := by simp [hlt]
        obtain ⟨⟨k, a, b0⟩, ht⟩ : ∃ t, L[i] = t := ⟨_, rfl⟩
        rw [ht] at c1 c2 c3 c4 c5 hget
        dsimp only at c1 c2 c3 c4 c5
        subst c1
        rcases hsl.keep hE1 with ⟨he, _⟩ | ⟨_, b, hb0, hb1, rfl, hrow⟩
        · simp at he; subst he; simp at hlt
        · have hat := rowL_at (e := 250) (ex := false) (ro := false) (frz := 0) (tokC_all L) hget
          have hzl : (tokC (k, a, b0)).length = 3 := rfl
          have hz3 : (L.map tokC).length = L.length := List.length_map ..
          have htake : List.take 3 (tokC (k, a, b0)) = tokC (k, a, b0) := rfl
          have hdrop3 : List.drop 3 (tokC (k, a, b0)) = [] := rfl
          have hone : (tokC (k, a, b0)).all SV.one = true := rfl
          refine stp (And.intro @hrow (And.intro @hat (And.intro @hzl (And.intro @hz3 (And.intro @htake (And.intro @hdrop3 (And.intro @hone @List.append_nil.{0}))))))) ?_
          have hE2 : Ext H' ((H'.push (.row [.int .i64 ((0 : Nat) : Int), .int .i64 ((0 : Nat) : Int), .int .i64 ((0 : Nat) : Int)] 250 true false 0)).put H'.next (.row (tokC (k, a, b0)) 250 true false 0)) := ((Ext.refl H').push _).put (Nat.le_refl _) _
          obtain ⟨H2, lv', h1, h2, h3, h4⟩ := take_ok (lf := lf) (n := n) (hP.ext hE2) c2 c3 c4 (by omega) (by simp; omega) (Nat.le_trans hE1.1 hE2.1) (by omega)
          refine kst trivial h1 ?_
          refine stp trivial ?_
          have hacc : s.take a ++ (s.drop a).take (b0 - a) = s.take b0 := by
            rw [← List.take_add]
            congr 1
            omega
          rw [hacc] at h2
          refine loopR_normal (L.length - (i + 1)) (by omega) ⟨i + 1, b0, lv', rfl, by omega, by omega, c5, h2, rfl, ⟨Nat.le_trans (Nat.le_trans hE1.1 hE2.1) h3, fun c hc => by rw [h4 c hc, hE2.2 c (Nat.lt_of_lt_of_le hc hE1.1)]; exact hE1.2 c hc⟩, ?_⟩
          exact ⟨_, _, _, _, _, _, _, _, _, _, _, _, _, _, _, _, _, _, _, _, _, _, _, _, _, _, _, _, _, _, _, _, _, _, _, _, _, _, _, _, rfl, trivial⟩
      · have hii : i = L.length := by omega
        subst hii
        rw [List.drop_length] at hc2
        have hc2 : p = s.length := hc2
        subst hc2
        rw [List.take_length] at hP
        refine stp trivial ?_
        refine EC_loop1 (by omega) ?_
        have hhp := hP.hp
        have hhe := hP.he
        have d1 : decide (((1 : Nat) : Int) > ((1 : Nat) : Int)) = false := by decide
        refine stp (And.intro @hhp @d1) ?_
        refine cstE trivial ?_
        refine stp trivial ?_
        have htop := top_ok (lf := lf) (n := n) hP (by omega)
        refine kst trivial htop ?_
        refine stp @hhe ?_
        have hnod : Nodes H' lv s := by
          rcases hP.hl with ⟨h1, h2⟩ | ⟨h1, nb, h2, h3, h4, h5, h6, h7, h8⟩
          · exact .inl ⟨h1, h2⟩
          · exact .inr ⟨h1, nb, h2, h4, h8⟩
        refine ret2 trivial ?_
        exact (⟨lv, rfl, hE.trans hE1, hnod⟩)
    · have hpp : PP H1.next (((H1.push (.row [.int .i64 ((0 : Nat) : Int), .int .i64 ((0 : Nat) : Int), .int .i64 ((0 : Nat) : Int), .nils, .nils] 245 true false 0)).push (.row [.ptr H1.next 0] 243 true false 0)).push (.row [.slice (H1.next + 1) 0 1 (some 1) 1] 248 true false 0)) (H1.next + 2) (H1.next + 1) H1.next .nils (s.take 0) := by
        refine ⟨by omega, by omega, by omega, ?_, ?_, ?_, by omega, by omega, by omega, ?_, ?_, ?_, .inl ⟨rfl, rfl⟩⟩
        · simp only [next_push]; omega
        · simp only [next_push]; omega
        · simp only [next_push]; omega
        · exact sfc trivial
        · exact sfc trivial
        · show Heap.get _ _ = some (.row [.int .i64 ((0 : Nat) : Int), .int .i64 ((0 : Nat) : Int), .int .i64 ((0 : Nat) : Int), .nils, .nils] 245 true false 0)
          exact sfc trivial
      refine ⟨0, 0, .nils, rfl, Nat.zero_le _, Nat.zero_le _, hch, hpp, rfl, (((Ext.refl H1).push _).push _).push _, ?_⟩
      exact ⟨_, _, _, _, _, _, _, _, _, _, _, _, _, _, _, _, _, _, _, _, _, _, _, _, _, _, _, _, _, _, _, _, _, _, _, _, _, _, _, _, rfl, trivial⟩
  obtain ⟨v, H', h, lv, rfl, h1, h2⟩ := key
  exact ⟨lv, H', h, h1, h2⟩
end
end Go.Sh
end
section
namespace Go.Sh
set_option maxRecDepth 10000
set_option linter.all false
section
variable {ts : T} {H : Heap}
def cvuO (q : Option SObj) (b o : Nat) : Option SV := match q with
  | some (.row cs _ _ _ _) => match Nat.blt o cs.length with
    | true => some (.ptr b o)
    | false => none
  | _ => none
def cvuS (v : SV) (H : Heap) : Option SV := match v with
  | .nilp => some .nilp
  | .ptr b o => cvuO (H.get b) b o
  | _ => none
theorem op_cvu (x : X) : evalOp (.cvu x) ts H = okS (cvuS (x.ev ts) H) H := by
  simp only [evalOp]
  generalize x.ev ts = v
  cases v with
  | ptr b o =>
    simp only [cvuS, cvuO]
    cases H.get b with
    | none => rfl
    | some q =>
      cases q with
      | row cs e ex ro frz => dsimp only; generalize Nat.blt o cs.length = p; cases p <;> rfl
      | _ => rfl
  | _ => rfl
theorem cvu_ptr (b o : Nat) : cvuS (.ptr b o) H = cvuO (H.get b) b o := rfl
theorem cvuO_row {cs : List SV} {e : TypeId} {ex ro : Bool} {frz b o : Nat} (h : o < cs.length) : cvuO (some (.row cs e ex ro frz)) b o = some (.ptr b o) := by
  simp only [cvuO, blt_true h]
def cvbO (chk : TypeId → Nat → Nat → Bool) (q : Option SObj) (b o : Nat) : Option SV := match q with
  | some (.row cs e true _ _) => match chk e cs.length o with
    | true => some (.ptr b o)
    | false => none
  | _ => none
def cvbS (chk : TypeId → Nat → Nat → Bool) (v : SV) (H : Heap) : Option SV := match v with
  | .nilp => some .nilp
  | .ptr b o => cvbO chk (H.get b) b o
  | _ => none
theorem op_cvb (chk : TypeId → Nat → Nat → Bool) (x : X) : evalOp (.cvb chk x) ts H = okS (cvbS chk (x.ev ts) H) H := by
  simp only [evalOp]
  generalize x.ev ts = v
  cases v with
  | ptr b o =>
    simp only [cvbS, cvbO]
    cases H.get b with
    | none => rfl
    | some q =>
      cases q with
      | row cs e ex ro frz =>
        cases ex
        · rfl
        · dsimp only; generalize chk e cs.length o = p; cases p <;> rfl
      | _ => rfl
  | _ => rfl
theorem cvb_ptr (chk : TypeId → Nat → Nat → Bool) (b o : Nat) : cvbS chk (.ptr b o) H = cvbO chk (H.get b) b o := rfl
theorem cvbO_row {chk : TypeId → Nat → Nat → Bool} {cs : List SV} {e : TypeId} {ro : Bool} {frz b o : Nat} (h : chk e cs.length o = true) : cvbO chk (some (.row cs e true ro frz)) b o = some (.ptr b o) := by
  simp only [cvbO, h]
def usdS (v : SV) : Option SV := match v with
  | .nils => some .nilp
  | .slice b o (_ + 1) _ _ => some (.ptr b o)
  | _ => none
theorem op_usd (x : X) : evalOp (.usd x) ts H = okS (usdS (x.ev ts)) H := by
  simp only [evalOp]
  generalize x.ev ts = v
  cases v with
  | slice b o n c z => cases n <;> rfl
  | _ => rfl
theorem usd_slice {b o n z : Nat} {c : Option Nat} (h : 0 < n) : usdS (.slice b o n c z) = some (.ptr b o) := by
  cases n with
  | zero => omega
  | succ n => rfl
def ustV (elem : TypeId) (p n : SV) (H : Heap) : Option (SV × Heap) := evalOp (.ust elem (.t 0) (.t 1)) [p, n] H
theorem op_ust (elem : TypeId) (p n : X) : evalOp (.ust elem p n) ts H = ustV elem (p.ev ts) (n.ev ts) H := by
  simp only [evalOp, ustV]
  rfl
theorem bytes_back : ∀ {s : List Nat}, Bts s → bytesOfS (byteCells s) = some s
  | [], _ => rfl
  | x :: s, h => by
    have hx : x < 256 := h x (List.mem_cons_self ..)
    have ih := bytes_back (s := s) fun y hy => h y (List.mem_cons_of_mem _ hy)
    show (match bytesOfS (byteCells s) with
      | some l => (match Int.ofNat x with
        | .ofNat m => (match Nat.blt m 256 with
          | true => some (m :: l)
          | false => none)
        | .negSucc _ => none)
      | none => none) = some (x :: s)
    rw [ih]
    dsimp only
    rw [blt_true hx]
theorem byteCells_len (s : List Nat) : (byteCells s).length = s.length := by simp [byteCells]
theorem ust_bytes {elem : TypeId} {b : Nat} {s : List Nat} {k : IntKind} {ex : Bool} {frz : Nat} (hs : Bts s) (h0 : s ≠ []) (hlen : s.length < 1000000) (hb : H.get b = some (.row (byteCells s) elem ex false frz)) :
    ustV elem (.ptr b 0) (.int k (s.length : Int)) H = some (.str s, H.put b (.row (byteCells s) elem ex true frz)) := by
  have hl0 : s.length ≠ 0 := by simpa using h0
  obtain ⟨m, hm⟩ : ∃ m, s.length = m + 1 := ⟨s.length - 1, by omega⟩
  have htk : ((byteCells s).drop 0).take (m + 1) = byteCells s := by rw [List.drop_zero, ← hm, ← byteCells_len, List.take_length]
  rw [hm]
  show (match H.get b with
    | some (.row cs e ex false frz) => (match Nat.ble (0 + (m + 1)) cs.length && (Nat.beq e elem && Nat.ble (m + 1) maxStr) with
      | true => (match bytesOfS ((cs.drop 0).take (m + 1)) with
        | some s => some (SV.str s, H.put b (.row cs e ex true frz))
        | none => none)
      | false => none)
    | _ => none) = _
  rw [hb]
  dsimp only
  rw [htk, bytes_back hs, ble_true (by rw [byteCells_len]; omega), beq_self, ble_true (by have : maxStr = 4611686018427387904 := rfl; omega)]
  rfl
theorem app_str_nil {e bytes : Nat} {s : List Nat} (h0 : s ≠ []) (h1 : s.length * bytes ≤ 35184372088832) (h2 : s.length ≤ 35184372088832) :
    appV H true e 1 bytes .nils (.str s) = some (.slice H.next 0 s.length none 1, H.push (.row (byteCells s) e false false 0)) := by
  have hl0 : s.length ≠ 0 := by simpa using h0
  obtain ⟨m, hm⟩ : ∃ m, s.length = m + 1 := ⟨s.length - 1, by omega⟩
  show (match (some (s.length, byteCells s) : Option (Nat × List SV)) with
    | none => none
    | some (0, _) => some (SV.nils, H)
    | some (n + 1, new) => (match Nat.ble ((n + 1) * bytes) roomS && Nat.ble (n + 1) roomS with
      | true => some (SV.slice H.next 0 (n + 1) none 1, H.push (.row new e false false 0))
      | false => none)) = _
  rw [hm]
  dsimp only
  rw [ble_true (by rw [hm] at h1; exact h1), ble_true (by rw [hm] at h2; exact h2)]
  rfl
end
theorem chk138 : cvbChk Go.Proofs.Tryz.prog 64 64 2 0 = true := by kernel_rfl
attribute [go_sem] op_cvu cvu_ptr cvuO_row op_cvb cvb_ptr cvbO_row op_usd usd_slice op_ust
theorem tab42 : tabT 42 = some (.code c42) := by kernel_rfl
theorem tab21 : tabT 21 = some (.code c21) := by kernel_rfl
theorem tab254 : tabT 254 = some (.code c254) := by kernel_rfl
theorem tab162 : tabT 162 = some (.code c162) := by kernel_rfl
theorem tab22 : tabT 22 = some (.code c22) := by kernel_rfl
theorem tab96 : tabT 96 = some (.code c96) := by kernel_rfl
section
variable {lf n : Nat} {H : Heap}
theorem copyCheck_ok {bb : Nat} (hb : H.get bb = some (.row [.nilp, .nils] 64 true false 0)) (hn : 1 ≤ n) :
    callS tabT lf n 42 [.ptr bb 0] H = some (.tup [], H.put bb (.row [.ptr bb 0, .nils] 64 true false 0)) := by
  obtain ⟨n, rfl⟩ : ∃ m, n = m + 1 := ⟨n - 1, by omega⟩
  have hc := chk138
  have key : ∃ v H', callS tabT lf (n + 1) 42 [.ptr bb 0] H = some (v, H') ∧ (v = .tup [] ∧ H' = H.put bb (.row [.ptr bb 0, .nils] 64 true false 0)) := by
    refine call_code tab42 (by simp only [c42, go_sem, List.reduceReplicate, Nat.reduceAdd, Nat.reduceSub]; exact rfl) ?_
    simp only [c42]
    refine stp @hb ?_
    refine cstT trivial ?_
    refine stp (And.intro @hb @hc) ?_
    refine funR_normal res_nil ?_
    exact (⟨rfl, rfl⟩)
  obtain ⟨v, H', h, rfl, rfl⟩ := key
  exact h
theorem writeString_ok {bb : Nat} (hb : H.get bb = some (.row [.nilp, .nils] 64 true false 0)) (hbb : bb < H.next) {s : List Nat} (h0 : s ≠ []) (hlen : s.length < 1000000) (hn : 2 ≤ n) :
    ∃ v H', callS tabT lf n 21 [.ptr bb 0, .str s] H = some (v, H') ∧ H'.get bb = some (.row [.ptr bb 0, .slice H.next 0 s.length none 1] 64 true false 0) ∧ H'.get H.next = some (.row (byteCells s) 5 false false 0) ∧ H'.next = H.next + 1 ∧ ∀ c, c ≠ bb → c < H.next → H'.get c = H.get c := by
  obtain ⟨n, rfl⟩ : ∃ m, n = m + 1 := ⟨n - 1, by omega⟩
  refine call_code tab21 (by simp only [c21, go_sem, List.reduceReplicate, Nat.reduceAdd, Nat.reduceSub]; exact rfl) ?_
  simp only [c21]
  refine stp trivial ?_
  have h1 := copyCheck_ok (lf := lf) (n := n) hb (by omega)
  refine kst trivial h1 ?_
  have h2 := app_str_nil (H := H.put bb (.row [.ptr bb 0, .nils] 64 true false 0)) (e := 5) (bytes := 1) h0 (by omega) (by omega)
  refine stp @h2 ?_
  refine funR_ret (res_two _ _ _ _ (by exact sfc trivial) (by exact sfc trivial)) ?_
  refine ⟨by exact sfc trivial, by exact sfc trivial, by exact sfc trivial, fun c hc hc2 => by exact sfc trivial⟩
theorem write_ok {bb : Nat} (hb : H.get bb = some (.row [.nilp, .nils] 64 true false 0)) (hbb : bb < H.next) {s : List Nat} (h0 : s ≠ []) (hlen : s.length < 1000000) (hn : 3 ≤ n) :
    ∃ v H' sb, callS tabT lf n 254 [.ptr bb 0, .agg (nodeC s)] H = some (v, H') ∧ H'.get bb = some (.row [.ptr bb 0, .slice sb 0 s.length none 1] 64 true false 0) ∧ H'.get sb = some (.row (byteCells s) 5 false false 0) ∧ H.next ≤ sb ∧ sb < H'.next ∧ ∀ c, c ≠ bb → c < H.next → H'.get c = H.get c := by
  obtain ⟨n, rfl⟩ : ∃ m, n = m + 1 := ⟨n - 1, by omega⟩
  have key : ∃ v H', callS tabT lf (n + 1) 254 [.ptr bb 0, .agg (nodeC s)] H = some (v, H') ∧ ∃ sb, H'.get bb = some (.row [.ptr bb 0, .slice sb 0 s.length none 1] 64 true false 0) ∧ H'.get sb = some (.row (byteCells s) 5 false false 0) ∧ H.next ≤ sb ∧ sb < H'.next ∧ ∀ c, c ≠ bb → c < H.next → H'.get c = H.get c := by
    have e11 : decide (((1 : Nat) : Int) = ((1 : Nat) : Int)) = true := by decide
    refine call_code tab254 (by simp only [c254, go_sem, List.reduceReplicate, Nat.reduceAdd, Nat.reduceSub]; exact rfl) ?_
    simp only [c254]
    refine stp (And.intro @nodeC.eq_1 @e11) ?_
    refine cstT trivial ?_
    refine stp trivial ?_
    refine cstT trivial ?_
    refine stp @nodeC.eq_1 ?_
    have hb2 : (H.push (.row [.int .i64 ((1 : Nat) : Int), .int .i64 ((0 : Nat) : Int), .str s, .nils, .nils] 214 true false 0)).get bb = some (.row [.nilp, .nils] 64 true false 0) := by rw [get_push_old hbb]; exact hb
    obtain ⟨v, H', h1, h2, h3, h4, h5⟩ := writeString_ok (lf := lf) (n := n) hb2 (by rw [next_push]; omega) h0 hlen (by omega)
    rw [next_push] at h2 h3 h4 h5
    refine kst trivial h1 ?_
    refine stp trivial ?_
    refine funR_normal res_nil ?_
    exact (⟨H.next + 1, h2, h3, by omega, by omega, fun c hc hc2 => by rw [h5 c hc (by omega), get_push_old hc2]⟩)
  obtain ⟨v, H', h, sb, h1, h2, h3, h4, h5⟩ := key
  exact ⟨v, H', sb, h, h1, h2, h3, h4, h5⟩
theorem string_ok {bb sb : Nat} {s : List Nat} (hb : H.get bb = some (.row [.ptr bb 0, .slice sb 0 s.length none 1] 64 true false 0)) (hsb : H.get sb = some (.row (byteCells s) 5 false false 0)) (hs : Bts s) (h0 : s ≠ []) (hlen : s.length < 1000000) (hn : 1 ≤ n) :
    callS tabT lf n 22 [.ptr bb 0] H = some (.str s, H.put sb (.row (byteCells s) 5 false true 0)) := by
  obtain ⟨n, rfl⟩ : ∃ m, n = m + 1 := ⟨n - 1, by omega⟩
  have hl0 : s.length ≠ 0 := by simpa using h0
  have hu := ust_bytes (k := .i64) hs h0 hlen hsb
  have key : ∃ v H', callS tabT lf (n + 1) 22 [.ptr bb 0] H = some (v, H') ∧ (v = .str s ∧ H' = H.put sb (.row (byteCells s) 5 false true 0)) := by
    refine call_code tab22 (by simp only [c22, go_sem, List.reduceReplicate, Nat.reduceAdd, Nat.reduceSub]; exact rfl) ?_
    simp only [c22]
    refine stp trivial ?_
    refine EC_draw rfl ?_
    refine stp (And.intro @hb @hu) ?_
    refine ⟨?_, fun h => (by cases h), _, (by simp only [List.getLast?_cons_cons, List.getLast?_singleton]; first | done | with_reducible rfl), ?_⟩
    · apply readsD_pure; apply readsD_pure; apply readsD_pure; apply readsD_read
      · simp only [allFrom, Bool.and_eq_true, and_true]
        exact quiet_ok (H' := H) (by exact sfc @hb) (bq_slice ..)
      · apply readsD_pure; apply readsD_pure; apply readsD_pure; apply readsD_pure; apply readsD_read
        · simp only [allFrom, Bool.and_eq_true, and_true]
          exact quiet_ok (H' := H) (by exact sfc @hb) (bq_slice ..)
        · repeat (first | exact readsD_nil _ _ _ | apply readsD_pure | apply readsD_eff)
    · refine stp trivial ?_
      refine ret1 trivial ?_
      exact (⟨rfl, rfl⟩)
  obtain ⟨v, H', h, rfl, rfl⟩ := key
  exact h
@[reducible] def I49 (H0 : Heap) (nb bb : Nat) (s : List Nat) (m : Nat) (ts : T) (D : DS) (H' : Heap) : Prop :=
  D = [] ∧ ((m = 1 ∧ H' = H0 ∧ ∃ z2 z3 z4 z5 z9 z10 z11 z12 z13 z14 z15, ts = ([(.ptr bb 0), (.slice nb 0 1 (some 1) 5), z2, z3, z4, z5, (.slice nb 0 1 (some 1) 5), (.int .i64 ((1 : Nat) : Int)), (.int .i64 ((0 : Nat) : Int)), z9, z10, z11, z12, z13, z14, z15] : T) ∧ (True)) ∨
   (m = 0 ∧ (∃ sb, H'.get bb = some (.row [.ptr bb 0, .slice sb 0 s.length none 1] 64 true false 0) ∧ H'.get sb = some (.row (byteCells s) 5 false false 0) ∧ H0.next ≤ sb ∧ sb < H'.next ∧ ∀ c, c ≠ bb → c < H0.next → H'.get c = H0.get c) ∧
    ∃ z2 z3 z4 z5 z9 z10 z11 z12 z13 z14 z15, ts = ([(.ptr bb 0), (.slice nb 0 1 (some 1) 5), z2, z3, z4, z5, (.slice nb 0 1 (some 1) 5), (.int .i64 ((1 : Nat) : Int)), (.int .i64 ((1 : Nat) : Int)), z9, z10, z11, z12, z13, z14, z15] : T) ∧ (True)))
theorem writeAll_ok {bb nb : Nat} (hb : H.get bb = some (.row [.nilp, .nils] 64 true false 0)) (hbb : bb < H.next) {s : List Nat} (h0 : s ≠ []) (hlen : s.length < 1000000) {e : TypeId} {ex ro : Bool} {frz : Nat} (hnb : H.get nb = some (.row (nodeC s) e ex ro frz)) (hnb1 : nb < H.next) (hn : 4 ≤ n) (hlf : 2 < lf) :
    ∃ v H' sb, callS tabT lf n 162 [.ptr bb 0, .slice nb 0 1 (some 1) 5] H = some (v, H') ∧ H'.get bb = some (.row [.ptr bb 0, .slice sb 0 s.length none 1] 64 true false 0) ∧ H'.get sb = some (.row (byteCells s) 5 false false 0) ∧ H.next ≤ sb ∧ sb < H'.next ∧ ∀ c, c ≠ bb → c < H.next → H'.get c = H.get c := by
  obtain ⟨n, rfl⟩ : ∃ m, n = m + 1 := ⟨n - 1, by omega⟩
  have key : ∃ v H', callS tabT lf (n + 1) 162 [.ptr bb 0, .slice nb 0 1 (some 1) 5] H = some (v, H') ∧ ∃ sb, H'.get bb = some (.row [.ptr bb 0, .slice sb 0 s.length none 1] 64 true false 0) ∧ H'.get sb = some (.row (byteCells s) 5 false false 0) ∧ H.next ≤ sb ∧ sb < H'.next ∧ ∀ c, c ≠ bb → c < H.next → H'.get c = H.get c := by
    refine call_code tab162 (by simp only [c162, go_sem, List.reduceReplicate, Nat.reduceAdd, Nat.reduceSub]; exact rfl) ?_
    simp only [c162]
    refine stp trivial ?_
    refine EC_loop (I := I49 H nb bb s) ?_ 1 ?_ (by omega)
    · rintro m ts D H' ⟨rfl, ⟨rfl, rfl, ⟨z2, z3, z4, z5, z9, z10, z11, z12, z13, z14, z15, rfl, -⟩⟩ | ⟨rfl, ⟨sb, g1, g2, g3, g4, g5⟩, ⟨z2, z3, z4, z5, z9, z10, z11, z12, z13, z14, z15, rfl, -⟩⟩⟩
      · have d1 : decide (((0 : Nat) : Int) < ((1 : Nat) : Int)) = true := by decide
        have hlen5 : (nodeC s).length = 5 := rfl
        have htk : List.take 5 (nodeC s) = nodeC s := rfl
        have hdr : List.drop 5 (nodeC s) = [] := rfl
        have hone : (nodeC s).all SV.one = true := rfl
        refine stp @d1 ?_
        refine cstT trivial ?_
        refine stp (And.intro @hnb (And.intro @hlen5 (And.intro @htk (And.intro @hdr (And.intro @hone @List.append_nil.{0}))))) ?_
        have hE : Ext H' ((H'.push (.row [.int .i64 ((0 : Nat) : Int), .int .i64 ((0 : Nat) : Int), .str [], .nils, .nils] 214 true false 0)).put H'.next (.row (nodeC s) 214 true false 0)) := ((Ext.refl H').push _).put (Nat.le_refl _) _
        have hnx : ((H'.push (.row [.int .i64 ((0 : Nat) : Int), .int .i64 ((0 : Nat) : Int), .str [], .nils, .nils] 214 true false 0)).put H'.next (.row (nodeC s) 214 true false 0)).next = H'.next + 1 := rfl
        obtain ⟨v, H2, sb, h1, h2, h3, h4, h5, h6⟩ := write_ok (lf := lf) (n := n) (H := (H'.push (.row [.int .i64 ((0 : Nat) : Int), .int .i64 ((0 : Nat) : Int), .str [], .nils, .nils] 214 true false 0)).put H'.next (.row (nodeC s) 214 true false 0)) ((hE.2 bb hbb).trans hb) (by omega) h0 hlen (by omega)
        refine kst trivial h1 ?_
        refine stp trivial ?_
        refine loopR_normal 0 (by omega) ⟨rfl, .inr ⟨rfl, ⟨sb, h2, h3, by omega, h5, fun c hc hc2 => (h6 c hc (by omega)).trans (hE.2 c hc2)⟩, ?_⟩⟩
        exact ⟨_, _, _, _, _, _, _, _, _, _, _, rfl, trivial⟩
      · have d1 : decide (((1 : Nat) : Int) < ((1 : Nat) : Int)) = false := by decide
        refine stp @d1 ?_
        refine cstE trivial ?_
        refine stp trivial ?_
        refine funR_normal res_nil ?_
        exact (⟨sb, g1, g2, g3, g4, g5⟩)
    · exact ⟨rfl, .inl ⟨rfl, rfl, ⟨_, _, _, _, _, _, _, _, _, _, _, rfl, trivial⟩⟩⟩
  obtain ⟨v, H', h, sb, h1, h2, h3, h4, h5⟩ := key
  exact ⟨v, H', sb, h, h1, h2, h3, h4, h5⟩
theorem source_ok {nb : Nat} {s : List Nat} (hs : Bts s) (h0 : s ≠ []) (hlen : s.length < 1000000) {e : TypeId} {ex ro : Bool} {frz : Nat} (hnb : H.get nb = some (.row (nodeC s) e ex ro frz)) (hnb1 : nb < H.next) (hn : 5 ≤ n) (hlf : 2 < lf) :
    ∃ H', callS tabT lf n 96 [.slice nb 0 1 (some 1) 5] H = some (.str s, H') ∧ Ext H H' := by
  obtain ⟨n, rfl⟩ : ∃ m, n = m + 1 := ⟨n - 1, by omega⟩
  have key : ∃ v H', callS tabT lf (n + 1) 96 [.slice nb 0 1 (some 1) 5] H = some (v, H') ∧ (v = .str s ∧ Ext H H') := by
    refine call_code tab96 (by simp only [c96, go_sem, List.reduceReplicate, Nat.reduceAdd, Nat.reduceSub]; exact rfl) ?_
    simp only [c96]
    refine stp trivial ?_
    have hnb2 : (H.push (.row [.nilp, .nils] 64 true false 0)).get nb = some (.row (nodeC s) e ex ro frz) := by rw [get_push_old hnb1]; exact hnb
    obtain ⟨v, H1, sb, h1, h2, h3, h4, h5, h6⟩ := writeAll_ok (lf := lf) (n := n) (H := H.push (.row [.nilp, .nils] 64 true false 0)) (bb := H.next) (get_push_self _) (by rw [next_push]; omega) h0 hlen hnb2 (by rw [next_push]; omega) (by omega) hlf
    rw [next_push] at h4 h6
    refine kst trivial h1 ?_
    have h7 := string_ok (lf := lf) (n := n) h2 h3 hs h0 hlen (by omega)
    refine stp trivial ?_
    refine kst trivial h7 ?_
    refine stp trivial ?_
    have hE : Ext H H1 := ⟨by omega, fun c hc => by rw [h6 c (by omega) (by omega), get_push_old hc]⟩
    refine ret1 trivial ?_
    exact (⟨rfl, hE.put (by omega) _⟩)
  obtain ⟨v, H', h, rfl, hE⟩ := key
  exact ⟨H', h, hE⟩
end
end Go.Sh
end
