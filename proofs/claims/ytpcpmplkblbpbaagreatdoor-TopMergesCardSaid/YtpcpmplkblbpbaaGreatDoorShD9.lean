/-
  Merges: closures, IndexFunc, Clone, Insert. (frame style z)
-/
import Derived.Test.YtpcpmplkblbpbaaGreatDoorShD6
set_option linter.all false
section
namespace Go.Sh
set_option maxRecDepth 10000
set_option linter.all false
/-! ### Calls of function values -/
theorem EO_calld {call : CallS} {ts ts' : T} {H H' : Heap} {v : SV} {d : Nat} {f : FuncId} {x : X} {xs : List X} {fs cs args : List SV} {os : List SOper} {Q : T → Heap → Prop} (hx : x.ev ts = .func f fs cs) (ha : fs ++ (evs ts xs ++ cs) = args) (he : call f args H = some (v, H')) (hs : ts.set d v = ts') (h : EO call os ts' H' Q) :
    EO call (⟨some d, .calld x xs, none⟩ :: os) ts H Q := by
  unfold EO at h ⊢
  obtain ⟨t2, H2, h1, h2⟩ := h
  subst hs ha
  refine ⟨t2, H2, ?_, h2⟩
  simp only [evalOps, wantedS, evalK, hx, he, putT, h1]
theorem ED_calld {call : CallS} {ts ts' : T} {H H' : Heap} {v : SV} {d : Nat} {f : FuncId} {x : X} {xs : List X} {fs cs args : List SV} {dops : List (SOper × DK)} {Q : List T → List SV → List Heap → T → Prop} (hx : x.ev ts = .func f fs cs) (ha : fs ++ (evs ts xs ++ cs) = args) (he : call f args H = some (v, H')) (hs : ts.set d v = ts') (h : ED call dops ts' H' fun tss vs hs tn => Q (ts :: tss) (v :: vs) (H :: hs) tn) :
    ED call ((⟨some d, .calld x xs, none⟩, .eff) :: dops) ts H Q := by
  unfold ED at h ⊢
  obtain ⟨tss, vs, hs', tn, h1, h2⟩ := h
  subst hs ha
  exact ⟨ts :: tss, v :: vs, H :: hs', tn, by simp only [List.map_cons, textD, wantedS, evalK, hx, he, putT, h1], h2⟩
theorem op_mkf {ts : T} {H : Heap} (f : FuncId) (xs ys : List X) : evalOp (.mkf f xs ys) ts H = some (.func f (evs ts xs) (evs ts ys), H) := rfl
attribute [go_sem] op_mkf
/-! ### Regions with hoisted blocks -/
def unh : List (SOper × DK) → List SV → List (SOper × DK)
  | (o, .hoist _ _) :: os, hv :: hvs => (⟨o.dst, .op (.mv (.c hv)), o.guard⟩, .pure) :: unh os hvs
  | p :: os, _ :: hvs => p :: unh os hvs
  | l, _ => l
theorem textD_unh {call : CallS} : ∀ {dops : List (SOper × DK)} {hvs : List SV} {ts : T} {H : Heap}, hvs.length = dops.length → textD call dops hvs ts H = textD call (unh dops hvs) ((unh dops hvs).map fun _ => SV.undef) ts H
  | [], hvs, ts, H, h => by
    cases hvs with
    | nil => rfl
    | cons _ _ => cases h
  | (o, dk) :: os, [], ts, H, h => by cases h
  | (o, dk) :: os, hv :: hvs, ts, H, h => by
    have ih := fun ts H => textD_unh (call := call) (dops := os) (hvs := hvs) (ts := ts) (H := H) (by simpa using h)
    cases dk with
    | hoist lo hi =>
      simp only [unh, List.map_cons, textD, quietOp, evalOp, ih]
      rfl
    | _ => simp only [unh, List.map_cons, textD, ih]
def HD (dops : List (SOper × DK)) (ts : T) (H : Heap) (Q : List SV → Heap → Prop) : Prop := ∃ hvs H0, hoistD dops ts H = some (hvs, H0) ∧ hvs.length = dops.length ∧ Q hvs H0
section
variable {call : CallS} {lf : Nat} {os : List (SOper × DK)} {o : SOper} {dk : DK} {ts ts' : T} {H H' : Heap} {v : SV} {Q : List SV → Heap → Prop} {D : DS} {R : SExit → T → DS → Heap → Prop} {swap : Bool}
theorem HD_skip (hk : ∀ lo hi, dk ≠ .hoist lo hi) (h : HD os (foreT o dk ts H) H fun vs H' => Q (SV.undef :: vs) H') : HD ((o, dk) :: os) ts H Q := by
  obtain ⟨hvs, H0, h1, h2, h3⟩ := h
  refine ⟨SV.undef :: hvs, H0, ?_, by simp [h2], h3⟩
  cases dk with
  | hoist lo hi => exact absurd rfl (hk lo hi)
  | _ => simp only [hoistD, h1]
theorem HD_hoist {s : SOp} {lo hi d : Nat} (he : evalOp s ts H = some (v, H')) (h : HD os (ts.set d v) H' fun vs H'' => Q (v :: vs) H'') : HD ((⟨some d, .op s, none⟩, .hoist lo hi) :: os) ts H Q := by
  obtain ⟨hvs, H0, h1, h2, h3⟩ := h
  refine ⟨v :: hvs, H0, ?_, by simp [h2], h3⟩
  simp only [hoistD, he, putT, h1]
theorem HD_none (hn : (os.all fun p => match p.2 with | .hoist _ _ => false | _ => true) = true) (h : Q (os.map fun _ => SV.undef) H) : HD os ts H Q := by
  rw [List.all_eq_true] at hn
  refine ⟨_, _, hoistD_none fun p hp lo hi he => ?_, by simp, h⟩
  have := hn p hp
  rw [he] at this
  cases this
theorem EC_drawH {dops : List (SOper × DK)} (h : HD dops ts H fun hvs H0 => ED call (unh dops hvs) ts H0 fun tss vs hs tn => readsD hs dops tss vs = true ∧ (swap = true → swapD dops tss = true) ∧ ∃ Hn, hs.getLast? = some Hn ∧ R .normal tn D Hn) : EC call lf (.dreg dops swap) ts D H R := by
  obtain ⟨hvs, H0, h1, h2, h⟩ := h
  unfold ED at h
  obtain ⟨tss, vs, hs, tn, h3, h4, h5, Hn, h6, h7⟩ := h
  unfold EC
  refine ⟨.normal, tn, D, Hn, ?_, h7⟩
  have h8 : (readsD hs dops tss vs && (!swap || swapD dops tss)) = true := by
    rw [h4]
    cases swap with
    | false => rfl
    | true => rw [h5 rfl]; rfl
  simp only [evalC, evalD, h1, textD_unh h2, h3, h8, h6]
theorem foreT_get {k : Nat} (hk : o.dst ≠ some k) : (foreT o dk ts H).getD k SV.undef = ts.getD k SV.undef := by
  have hp : ∀ v, (putT ts o.dst v).getD k SV.undef = ts.getD k SV.undef := fun v => by
    unfold putT
    cases hd : o.dst with
    | none => rfl
    | some d =>
      rw [hd] at hk
      have : d ≠ k := fun e => hk (by rw [e])
      simp only [List.getD_eq_getElem?_getD, List.getElem?_set_ne this]
  cases dk <;> simp only [foreT] <;> (repeat' split) <;> first | rfl | exact hp _
theorem foreT_val {s : SOp} {d lo hi : Nat} (he : evalOp s ts H = some (v, H')) : foreT ⟨some d, .op s, none⟩ (.read lo hi) ts H = ts.set d v := by
  simp only [foreT, wantedS, quietOp, he, putT]
theorem foreT_len : (foreT o dk ts H).length = ts.length := by
  have hp : ∀ v, (putT ts o.dst v).length = ts.length := fun v => by
    unfold putT
    cases o.dst <;> simp
  cases dk <;> simp only [foreT] <;> (repeat' split) <;> first | rfl | exact hp _
theorem rowIs_ok {cs : List SV} {e b : Nat} (h : H.get b = some (.row cs e true false 0)) (hf : cs.all SV.flat = true) (hb : beqList cs cs = true) : rowIs cs e b H = true := by
  simp only [rowIs, h, hf, hb, beq_self, Bool.and_self]
theorem readsD_hoistB {hs : List Heap} {d lo hi elem z n n' b z' : Nat} {zero cs : List SV} {parts : List (Nat × Nat × X)} {tss : List T} {vs : List SV} {c : Option Nat} (hf : fillS ts zero parts = some cs) (hp : (parts.all fun p => (p.2.2.ev ts).cells.all SV.flat) = true) (hr : allFrom (rowIs cs elem b) hs lo hi = true) (h : readsD hs os tss vs = true) :
    readsD hs ((⟨some d, .op (.bslice elem z n zero parts), none⟩, .hoist lo hi) :: os) (ts :: tss) (.slice b 0 n' c z' :: vs) = true := by
  simp only [readsD, wantedS, hf, hp, hr, h, Bool.and_self]
theorem readsD_hoistA {hs : List Heap} {d lo hi elem b : Nat} {zero : List SV} {tss : List T} {vs : List SV} (hr : allFrom (rowIs zero elem b) hs lo hi = true) (h : readsD hs os tss vs = true) :
    readsD hs ((⟨some d, .op (.alloc zero elem), none⟩, .hoist lo hi) :: os) (ts :: tss) (.ptr b 0 :: vs) = true := by
  simp only [readsD, wantedS, hr, h, Bool.and_self]
end
/-! ### Names -/
abbrev Nm := List Nat × Nat
def nmU (u : Un) : Nm := (u.title, u.nth)
def ixP (L : List Un) (k : Nm) : Option Nat := L.findIdx? fun y => decide (nmU y = k)
def ixI (L : List Un) (k : Nm) : Int := match ixP L k with
  | some i => (i : Int)
  | none => -1
theorem ixP_none {L : List Un} {k : Nm} (h : ∀ y ∈ L, nmU y ≠ k) : ixP L k = none := by
  unfold ixP
  rw [List.findIdx?_eq_none_iff]
  intro y hy
  simpa using h y hy
theorem ixP_at {L : List Un} {k : Nm} {i : Nat} {y : Un} (hi : L[i]? = some y) (hy : nmU y = k) (hno : ∀ j z, j < i → L[j]? = some z → nmU z ≠ k) : ixP L k = some i := by
  unfold ixP
  obtain ⟨hl, he⟩ := List.getElem?_eq_some_iff.1 hi
  rw [List.findIdx?_eq_some_iff_getElem]
  refine ⟨hl, by rw [he]; simpa using hy, fun j hj => ?_⟩
  have := hno j L[j] hj (List.getElem?_eq_getElem (by omega))
  simpa using this
theorem ixP_some {L : List Un} {k : Nm} {i : Nat} (h : ixP L k = some i) : ∃ y, L[i]? = some y ∧ nmU y = k := by
  unfold ixP at h
  rw [List.findIdx?_eq_some_iff_getElem] at h
  obtain ⟨hl, he, _⟩ := h
  exact ⟨L[i], List.getElem?_eq_getElem hl, by simpa using he⟩
theorem ixP_has {L : List Un} {k : Nm} : (∃ i, ixP L k = some i) ↔ ∃ y ∈ L, nmU y = k := by
  constructor
  · rintro ⟨i, h⟩
    obtain ⟨y, h1, h2⟩ := ixP_some h
    exact ⟨y, List.mem_of_getElem? h1, h2⟩
  · rintro ⟨y, h1, h2⟩
    cases h : ixP L k with
    | some i => exact ⟨i, rfl⟩
    | none =>
      unfold ixP at h
      rw [List.findIdx?_eq_none_iff] at h
      have := h y h1
      simp [h2] at this
theorem tab34 : tabT 34 = some (.code c34) := by kernel_rfl
theorem tab35 : tabT 35 = some (.code c35) := by kernel_rfl
theorem tab36 : tabT 36 = some (.code c36) := by kernel_rfl
theorem tab37 : tabT 37 = some (.code c37) := by kernel_rfl
theorem tab38 : tabT 38 = some (.native natInsert) := by kernel_rfl
theorem tab15 : tabT 15 = some (.code c15) := by kernel_rfl
section
variable {lf n : Nat} {H : Heap}
theorem same_ok {u : Un} {k : Nm} {p : Nat} (hp : H.get p = some (.row [.str k.1, .int .i64 (k.2 : Int)] 53 true false 0)) (hpn : p < H.next) (hn : 2 ≤ n) :
    ∃ H', callS tabT lf n 37 [.agg (unC u), .ptr p 0] H = some (.bool (decide (nmU u = k)), H') ∧ Ext H H' := by
  obtain ⟨n, rfl⟩ : ∃ m, n = m + 1 := ⟨n - 1, by omega⟩
  have key : ∃ v H', callS tabT lf (n + 1) 37 [.agg (unC u), .ptr p 0] H = some (v, H') ∧ v = .bool (decide (nmU u = k)) ∧ Ext H H' := by
    obtain ⟨H1, hH1⟩ : ∃ H1, H.push (.row (unC u) 51 true false 0) = H1 := ⟨_, rfl⟩
    have hu1 : H1.get H.next = some (.row [.str u.title, .int .i64 (u.nth : Int), .str u.text] 51 true false 0) := by rw [← hH1]; exact get_push_self _
    have hE1 : Ext H H1 := by rw [← hH1]; exact (Ext.refl _).push _
    have hp1 : H1.get p = some (.row [.str k.1, .int .i64 (k.2 : Int)] 53 true false 0) := by rw [hE1.2 p hpn]; exact hp
    obtain ⟨H2, hnm, hE2⟩ := named_ok (lf := lf) (n := n) (H := H1) (u := u) (by omega)
    have hp2 : H2.get p = some (.row [.str k.1, .int .i64 (k.2 : Int)] 53 true false 0) := by rw [hE2.2 p (Nat.lt_of_lt_of_le hpn hE1.1)]; exact hp1
    have heq : eqVal true [(0, 2), (1, 1)] (.agg [.str u.title, .int .i64 (u.nth : Int)]) (.agg [.str k.1, .int .i64 (k.2 : Int)]) = some (decide (nmU u = k)) := nm_key.eq (nmU u) k
    simp only [unC] at hnm hH1 ⊢
    refine call_code tab37 (by simp only [c37, go_sem, List.reduceReplicate, Nat.reduceAdd, Nat.reduceSub]; exact rfl) ?_
    simp only [c37]
    refine stp @hH1 ?_
    refine EC_draw rfl ?_
    refine stp @hu1 ?_
    refine ED_call (by exact sfc @trivial) hnm (by simp only [List.set_cons_zero, List.set_cons_succ]; with_reducible rfl) ?_
    refine stp (And.intro @hp2 @heq) ?_
    refine ⟨?_, fun h => (by cases h), _, (by simp only [List.getLast?_cons_cons, List.getLast?_singleton]; first | done | with_reducible rfl), ?_⟩
    · apply readsD_read
      · simp only [allFrom, Bool.and_eq_true, and_true]
        exact quiet_ok (H' := H1) (by exact sfc @hu1) (by simp only [go_sem])
      · apply readsD_eff; apply readsD_read
        · simp only [allFrom, Bool.and_eq_true, and_true]
          exact ⟨quiet_ok (H' := H1) (by exact sfc @hp1) (by simp only [go_sem]), quiet_ok (H' := H2) (by exact sfc @hp2) (by simp only [go_sem])⟩
        · repeat (first | exact readsD_nil _ _ _ | apply readsD_pure | apply readsD_eff)
    · refine stp trivial ?_
      refine ret1 trivial ?_
      exact (⟨rfl, hE1.trans hE2⟩)
  obtain ⟨v, H', h, rfl, hE⟩ := key
  exact ⟨H', h, hE⟩
@[reducible] def I36 (b : Nat) (c : Option Nat) (L : List Un) (k : Nm) (p : Nat) (H0 : Heap) (m : Nat) (ts : T) (D : DS) (H' : Heap) : Prop :=
  D = [] ∧ Ext H0 H' ∧ ∃ i : Nat, m = L.length - i ∧ i ≤ L.length ∧ (∀ j y, j < i → L[j]? = some y → nmU y ≠ k) ∧
    ∃ z : Nat → SV, ts = ((.slice b 0 L.length c 3) :: (.func 37 [] [.ptr p 0]) :: z 2 :: z 3 :: z 4 :: z 5 :: (.slice b 0 L.length c 3) :: (.int .i64 (L.length : Int)) :: (.int .i64 (i : Int)) :: z 9 :: z 10 :: z 11 :: z 12 :: z 13 :: z 14 :: z 15 :: z 16 :: z 17 :: z 18 :: [] : T) ∧ (True)
theorem indexFunc_ok {B0 : Nat} {v : SV} {L : List Un} {k : Nm} {p : Nat} (hv : Su B0 H v L) (hp : H.get p = some (.row [.str k.1, .int .i64 (k.2 : Int)] 53 true false 0)) (hpn : p < H.next) (hL : L.length < 1000) (hn : 3 ≤ n) (hlf : L.length < lf) :
    ∃ H', callS tabT lf n 36 [v, .func 37 [] [.ptr p 0]] H = some (.int .i64 (ixI L k), H') ∧ Ext H H' := by
  obtain ⟨n, rfl⟩ : ∃ m, n = m + 1 := ⟨n - 1, by omega⟩
  obtain ⟨hne, b, c, ex, hb0, hb, rfl, hc, hrow⟩ := hv
  have key : ∃ w H', callS tabT lf (n + 1) 36 [.slice b 0 L.length c 3, .func 37 [] [.ptr p 0]] H = some (w, H') ∧ w = .int .i64 (ixI L k) ∧ Ext H H' := by
    have hat := fun (j : Nat) (y : Un) (hj : L[j]? = some y) => rowL_at (z := 3) (i := j) (e := 51) (ex := ex) (ro := false) (frz := 0) (unC_all L) (by rw [List.getElem?_map, hj]; rfl : (L.map unC)[j]? = some (unC y))
    have hfl : (L.map unC).flatten.length = L.length * 3 := by rw [flatten_len (unC_all _), List.length_map]
    obtain ⟨cs, hcs⟩ : ∃ cs, (L.map unC).flatten = cs := ⟨_, rfl⟩
    rw [hcs] at hrow hat hfl
    refine call_code tab36 (by simp only [c36, go_sem, List.reduceReplicate, Nat.reduceAdd, Nat.reduceSub]; exact rfl) ?_
    simp only [c36]
    refine stp trivial ?_
    refine EC_loop (I := I36 b c L k p H) ?_ L.length ?_ hlf
    · rintro m ts D H1 ⟨rfl, hE, i, rfl, hi, hno, ⟨z, rfl, -⟩⟩
      refine stp trivial ?_
      refine cst trivial (fun hc => ?_) (fun hc => ?_) <;> try simp only [decide_eq_true_eq, decide_eq_false_iff_not, not_true_eq_false, not_false_eq_true, Int.not_lt, Int.not_le, ge_iff_le, gt_iff_lt] at hc
      · obtain ⟨y, hy⟩ : ∃ y, L[i]? = some y := ⟨_, List.getElem?_eq_getElem (by omega)⟩
        have q := hat i y hy
        have hrow1 : H1.get b = some (.row cs 51 ex false 0) := by rw [hE.2 b hb]; exact hrow
        have hp1 : H1.get p = some (.row [.str k.1, .int .i64 (k.2 : Int)] 53 true false 0) := by rw [hE.2 p hpn]; exact hp
        obtain ⟨H2, hsm, hE2⟩ := same_ok (lf := lf) (n := n) (u := y) hp1 (Nat.lt_of_lt_of_le hpn hE.1) (by omega)
        simp only [unC] at q hsm
        refine stp (And.intro @hrow1 @q) ?_
        refine EO_calld (by exact sfc @trivial) (by exact sfc (And.intro @List.nil_append.{0} @List.cons_append.{0})) hsm (by simp only [List.set_cons_zero, List.set_cons_succ]; with_reducible rfl) ?_
        refine stp trivial ?_
        by_cases h1 : nmU y = k
        · have d1 : decide (nmU y = k) = true := decide_eq_true h1
          refine cstT @d1 ?_
          refine stp trivial ?_
          have hf : ixI L k = (i : Int) := by rw [ixI, ixP_at hy h1 hno]
          refine ret1 trivial ?_
          exact (⟨by rw [hf], hE.trans hE2⟩)
        · have d1 : decide (nmU y = k) = false := decide_eq_false h1
          refine cstE @d1 ?_
          refine stp trivial ?_
          refine loopR_normal (L.length - (i + 1)) (by omega) ⟨rfl, hE.trans hE2, i + 1, rfl, by omega, ?_, ?_⟩
          · intro j z hj hz
            rcases Nat.lt_succ_iff_lt_or_eq.1 hj with h | rfl
            · exact hno j z h hz
            · rw [hy] at hz
              cases hz
              exact h1
          · exact (frame_in (by rfl) (trivial))
      · refine stp trivial ?_
        have hf : ixI L k = -1 := by
          rw [ixI, ixP_none fun y hy => ?_]
          obtain ⟨j, hj, rfl⟩ := List.getElem_of_mem hy
          exact hno j L[j] (by omega) (List.getElem?_eq_getElem hj)
        refine ret1 trivial ?_
        exact (⟨by rw [hf]; rfl, hE⟩)
    · refine ⟨rfl, Ext.refl _, 0, by omega, by omega, fun j y hj => by omega, ?_⟩
      exact (frame_in (by rfl) (trivial))
  obtain ⟨w, H', h, rfl, hE⟩ := key
  exact ⟨H', h, hE⟩
theorem at35_ok {B0 : Nat} {v : SV} {L : List Un} {k : Nm} {p : Nat} (hv : Su B0 H v L) (hp : H.get p = some (.row [v] 43 true false 0)) (hpn : p < H.next) (hL : L.length < 1000) (hn : 4 ≤ n) (hlf : L.length < lf) :
    ∃ H', callS tabT lf n 35 [.agg [.str k.1, .int .i64 (k.2 : Int)], .ptr p 0] H = some (.int .i64 (ixI L k), H') ∧ Ext H H' := by
  obtain ⟨n, rfl⟩ : ∃ m, n = m + 1 := ⟨n - 1, by omega⟩
  have key : ∃ w H', callS tabT lf (n + 1) 35 [.agg [.str k.1, .int .i64 (k.2 : Int)], .ptr p 0] H = some (w, H') ∧ w = .int .i64 (ixI L k) ∧ Ext H H' := by
    obtain ⟨H1, hH1⟩ : ∃ H1, H.push (.row [.str k.1, .int .i64 (k.2 : Int)] 53 true false 0) = H1 := ⟨_, rfl⟩
    have hk1 : H1.get H.next = some (.row [.str k.1, .int .i64 (k.2 : Int)] 53 true false 0) := by rw [← hH1]; exact get_push_self _
    have hE1 : Ext H H1 := by rw [← hH1]; exact (Ext.refl _).push _
    have hp1 : H1.get p = some (.row [v] 43 true false 0) := by rw [hE1.2 p hpn]; exact hp
    have hv1 : Su B0 H1 v L := by
      obtain ⟨hne, b, c, ex, h1, h2, h3, h4, h5⟩ := hv
      exact ⟨hne, b, c, ex, h1, Nat.lt_of_lt_of_le h2 hE1.1, h3, h4, by rw [hE1.2 b h2]; exact h5⟩
    obtain ⟨H2, hix, hE2⟩ := indexFunc_ok (lf := lf) (n := n) hv1 hk1 (by rw [← hH1]; exact Nat.lt_succ_self _) hL (by omega) hlf
    have hone : rowL (some (.row [v] 43 true false 0)) 0 1 = some [v] := rfl
    refine call_code tab35 (by simp only [c35, go_sem, List.reduceReplicate, Nat.reduceAdd, Nat.reduceSub]; exact rfl) ?_
    simp only [c35]
    refine stp (And.intro @hH1 (And.intro @hp1 @hone)) ?_
    refine kst trivial hix ?_
    refine stp trivial ?_
    refine ret1 trivial ?_
    exact (⟨rfl, hE1.trans hE2⟩)
  obtain ⟨w, H', h, rfl, hE⟩ := key
  exact ⟨H', h, hE⟩
theorem app_clone {b b' : Nat} {c : Option Nat} {ex ex' ro : Bool} {frz : Nat} {L : List Un} (hne : L ≠ []) (hl : L.length < 1000) (hb : H.get b = some (.row (L.map unC).flatten 51 ex false 0)) (hb' : H.get b' = some (.row [] 51 ex' ro frz)) :
    appV H false 51 3 40 (.slice b' 0 0 (some 0) 3) (.slice b 0 L.length c 3) = some (.slice H.next 0 L.length none 3, H.push (.row (L.map unC).flatten 51 false false 0)) := by
  have hfl : (L.map unC).flatten.length = L.length * 3 := by rw [flatten_len (unC_all _), List.length_map]
  obtain ⟨m, hm⟩ : ∃ m, L.length = m + 1 := ⟨L.length - 1, by have := List.length_pos_iff.2 hne; omega⟩
  rw [hm] at hfl hl ⊢
  have hld : loadC H b 0 ((m + 1) * 3) = some (L.map unC).flatten := by rw [loadC_eq, hb, rowL_row (by omega), List.drop_zero, ← hfl, List.take_length]
  have hld' : loadC H b' 0 (0 * 3) = some [] := by rw [loadC_eq, hb', rowL_row (by simp)]; rfl
  have hs : srcS H false 3 (.slice b 0 (m + 1) c 3) = some (m + 1, (L.map unC).flatten) := by
    show (match Nat.beq 3 3 with | true => (match loadC H b 0 ((m + 1) * 3) with | some cs => some (m + 1, cs) | none => none) | false => none) = _
    rw [hld]
  have e1 : Nat.ble ((0 + (m + 1)) * 40) roomS = true := ble_true (by unfold roomS; omega)
  have e2 : Nat.ble (0 + (m + 1)) roomS = true := ble_true (by unfold roomS; omega)
  have e3 : Nat.ble (0 + (m + 1)) 0 = false := ble_false (by omega)
  simp only [appV, appS, hs, beq_self, e1, e2, Bool.and_self, hld', e3]
  first | done | simp
theorem clone_ok {B0 : Nat} {v : SV} {L : List Un} (hv : Su B0 H v L) (hL : L.length < 1000) (hn : 1 ≤ n) :
    ∃ b' H', callS tabT lf n 34 [v] H = some (.slice b' 0 L.length none 3, H') ∧ Ext H H' ∧ H.next ≤ b' ∧ b' < H'.next ∧ H'.get b' = some (.row (L.map unC).flatten 51 false false 0) := by
  obtain ⟨n, rfl⟩ : ∃ m, n = m + 1 := ⟨n - 1, by omega⟩
  obtain ⟨hne, b, c, ex, hb0, hb, rfl, hc, hrow⟩ := hv
  have key : ∃ w H', callS tabT lf (n + 1) 34 [.slice b 0 L.length c 3] H = some (w, H') ∧ ∃ b', w = .slice b' 0 L.length none 3 ∧ Ext H H' ∧ H.next ≤ b' ∧ b' < H'.next ∧ H'.get b' = some (.row (L.map unC).flatten 51 false false 0) := by
    obtain ⟨H1, hH1⟩ : ∃ H1, H.push (.row [] 51 true false 0) = H1 := ⟨_, rfl⟩
    have hE1 : Ext H H1 := by rw [← hH1]; exact (Ext.refl _).push _
    have hb1 : H1.get H.next = some (.row [] 51 true false 0) := by rw [← hH1]; exact get_push_self _
    have hap := app_clone (c := c) hne hL (by rw [hE1.2 b hb]; exact hrow) hb1
    have e0 : eqNil 1 (.slice b 0 L.length c 3) .nils = some false := rfl
    refine call_code tab34 (by simp only [c34, go_sem, List.reduceReplicate, Nat.reduceAdd, Nat.reduceSub]; exact rfl) ?_
    simp only [c34]
    refine stp @e0 ?_
    refine cstE trivial ?_
    refine stp @hH1 ?_
    refine ast trivial hap ?_
    refine stp trivial ?_
    refine ret1 trivial ?_
    exact (⟨H1.next, rfl, hE1.push _, hE1.1, Nat.lt_succ_self _, get_push_self _⟩)
  obtain ⟨w, H', h, b', rfl, hr⟩ := key
  exact ⟨b', H', h, hr⟩
theorem flat_take : ∀ (L : List Un) (i : Nat), (L.map unC).flatten.take (i * 3) = ((L.take i).map unC).flatten
  | [], i => by simp
  | u :: L, 0 => by simp
  | u :: L, i + 1 => by
    have h := flat_take L i
    have e : (unC u).length = 3 := rfl
    rw [List.map_cons, List.flatten_cons, List.take_succ_cons, List.map_cons, List.flatten_cons, ← h, show (i + 1) * 3 = (unC u).length + i * 3 by rw [e]; omega, List.take_append, List.take_of_length_le (by omega)]
    simp
theorem flat_drop : ∀ (L : List Un) (i : Nat), (L.map unC).flatten.drop (i * 3) = ((L.drop i).map unC).flatten
  | [], i => by simp
  | u :: L, 0 => by simp
  | u :: L, i + 1 => by
    have h := flat_drop L i
    have e : (unC u).length = 3 := rfl
    rw [List.map_cons, List.flatten_cons, List.drop_succ_cons, ← h, show (i + 1) * 3 = (unC u).length + i * 3 by rw [e]; omega, List.drop_append]
    simp
theorem unC_ones (L : List Un) : (L.map unC).flatten.all SV.one = true := by
  rw [List.all_eq_true]
  intro x hx
  obtain ⟨l, h1, h2⟩ := List.mem_flatten.1 hx
  obtain ⟨u, _, rfl⟩ := List.mem_map.1 h1
  simp only [unC, List.mem_cons, List.not_mem_nil, or_false] at h2
  rcases h2 with rfl | rfl | rfl <;> rfl
theorem insert_ok {b vb i : Nat} {L : List Un} {u : Un} {c : Option Nat} (hb : H.get b = some (.row (L.map unC).flatten 51 false false 0)) (hvb : H.get vb = some (.row (unC u) 51 true false 0)) (hne : b ≠ vb) (hL : L ≠ []) (hi : i ≤ L.length) (hl : L.length < 1000) (hn : 1 ≤ n) :
    callS tabT lf n 38 [.slice b 0 L.length none 3, .int .i64 (i : Int), .slice vb 0 1 c 3] H = some (.slice H.next 0 (L.length + 1) none 3, (H.put b .dead).push (.row ((L.take i ++ u :: L.drop i).map unC).flatten 51 false false 0)) := by
  obtain ⟨n, rfl⟩ : ∃ m, n = m + 1 := ⟨n - 1, by omega⟩
  have hfl : (L.map unC).flatten.length = L.length * 3 := by rw [flatten_len (unC_all _), List.length_map]
  have hfl' : Nat.beq (L.map unC).flatten.length (L.length * 3) = true := beq_true hfl
  have e2 : Nat.beq (unC u).length 3 = true := rfl
  have e3 : Nat.ble i L.length = true := ble_true hi
  have e4 : Nat.blt L.length 100000 = true := blt_true (by omega)
  have e8 : Nat.blt 0 L.length = true := blt_true (List.length_pos_iff.2 hL)
  have e5 : (L.map unC).flatten.all SV.one = true := unC_ones L
  have e6 : (unC u).all SV.one = true := rfl
  have e7 : Nat.beq b vb = false := beq_false hne
  show callS tabT lf (n + 1) 38 [.slice b 0 L.length none 3, .int .i64 (Int.ofNat i), .slice vb 0 1 c 3] H = _
  simp only [callS, tab38, natInsert, hb, hvb, hfl', e2, e3, e4, e8, e5, e6, e7, Bool.and_self, Bool.not_false]
  rw [flat_take, flat_drop]
  simp
end
end Go.Sh
end
