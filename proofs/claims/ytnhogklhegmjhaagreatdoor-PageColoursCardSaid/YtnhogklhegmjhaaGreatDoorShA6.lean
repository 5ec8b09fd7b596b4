/-
  Regions that draw their order, part 1: what an operation looks at; operations that leave the heap alone; equality of values.
  Regions that draw their order, part 2: what the check gives; the last writer of a temporary; blocks that were hoisted.
  Regions that draw their order, part 3: blocks of zeros; two stores that change places.
  Regions that draw their order, part 4: the last writer of a temporary; the facts of a region's run in the order of its text.
  Regions that draw their order, part 5: every order does what the order of the text does.
  Regions that draw their order, part 6: one step; all steps.
  Regions that draw their order, part 7: every region; every call.
-/
import Derived.Test.YtnhogklhegmjhaaGreatDoorShA5
import Derived.Orders
set_option linter.all false
section
namespace Go.Sh
def Agree (L : List Nat) (ts us : T) : Prop := ∀ t ∈ L, ts.getD t SV.undef = us.getD t SV.undef
theorem Agree.left {L M : List Nat} {ts us : T} (h : Agree (L ++ M) ts us) : Agree L ts us := fun t ht => h t (List.mem_append.2 (.inl ht))
theorem Agree.right {L M : List Nat} {ts us : T} (h : Agree (L ++ M) ts us) : Agree M ts us := fun t ht => h t (List.mem_append.2 (.inr ht))
theorem X.congr {x : X} {ts us : T} (h : Agree x.tm ts us) : x.ev ts = x.ev us := by
  cases x with
  | t n => exact h n (List.mem_cons_self ..)
  | c v => rfl
theorem evs_congr : ∀ {xs : List X} {ts us : T}, Agree (xs.flatMap X.tm) ts us → evs ts xs = evs us xs
  | [], _, _, _ => rfl
  | x :: xs, ts, us, h => by
    rw [List.flatMap_cons] at h
    simp only [evs, X.congr h.left, evs_congr h.right]
theorem idxOpt_congr {x : Option X} {ts us : T} {d l : Nat} (h : Agree (Xo.tm x) ts us) : idxOpt ts x d l = idxOpt us x d l := by
  cases x with
  | none => rfl
  | some x => simp only [idxOpt, X.congr (x := x) h]
theorem mxS_congr {x : Option X} {ts us : T} {c : Option Nat} {n : Nat} (h : Agree (Xo.tm x) ts us) : mxS ts x c n = mxS us x c n := by
  cases x with
  | none => rfl
  | some x => simp only [mxS, X.congr (x := x) h]
theorem fillS_congr : ∀ {ps : List (Nat × Nat × X)} {cs : List SV} {ts us : T}, Agree (ps.flatMap fun p => p.2.2.tm) ts us → fillS ts cs ps = fillS us cs ps
  | [], _, _, _, _ => rfl
  | (off, size, x) :: ps, cs, ts, us, h => by
    rw [List.flatMap_cons] at h
    simp only [fillS, X.congr (x := x) h.left]
    split
    · exact fillS_congr h.right
    · rfl
theorem evalOp_congr {so : SOp} {ts us : T} {H : Heap} (h : Agree so.tm ts us) : evalOp so ts H = evalOp so us H := by
  cases so <;> simp only [SOp.tm] at h <;> simp only [evalOp]
  all_goals
    first
      | rfl
      | (rw [X.congr h]; done)
      | (rw [X.congr h.left, X.congr h.right]; done)
      | (rw [X.congr h.left, X.congr h.right.left, X.congr h.right.right]; done)
      | (rw [fillS_congr h]; done)
      | (rw [evs_congr h]; done)
      | (rw [evs_congr h.left, evs_congr h.right]; done)
      | (rw [X.congr h.right.right]; simp only [idxOpt_congr h.left, idxOpt_congr h.right.left]; done)
      | (rw [X.congr h.right.right.right]; simp only [idxOpt_congr h.left, idxOpt_congr h.right.left, idxOpt_congr h.right.right.left, mxS_congr h.right.right.left]; done)
      | (rename_i x; cases x with
          | none => rfl
          | some y => have e := X.congr (x := y) h; dsimp only; rw [e])
      | skip
theorem evalK_congr {call : CallS} {k : SK} {ts us : T} {H : Heap} (h : Agree k.tm ts us) : evalK call k ts H = evalK call k us H := by
  cases k with
  | op so => exact evalOp_congr h
  | call f xs => simp only [evalK, evs_congr (xs := xs) h]
  | calld x xs => simp only [evalK, X.congr (x := x) h.left, evs_congr (xs := xs) h.right]
  | inv x tab xs => simp only [evalK, X.congr (x := x) h.left, evs_congr (xs := xs) h.right]
theorem pure_any {so : SOp} {ts : T} {H H1 : Heap} {v : SV} (hp : so.isPure = true) (h : evalOp so ts H = some (v, H1)) (H2 : Heap) : evalOp so ts H2 = some (v, H2) := by
  cases so <;> simp only [SOp.isPure, Bool.false_eq_true] at hp <;> simp only [evalOp] at h ⊢
  all_goals
    (repeat' split at h) <;> simp_all
theorem read_heap {so : SOp} {ts : T} {H H1 : Heap} {v : SV} (hp : so.isRead = true) (h : evalOp so ts H = some (v, H1)) : H1 = H := by
  cases so <;> simp only [SOp.isRead, Bool.false_eq_true] at hp <;> simp only [evalOp] at h
  all_goals
    (repeat' split at h) <;> simp_all
theorem beqOne_eq {x y : SV} (h : beqOne x y = true) : x = y := by
  unfold beqOne at h
  split at h <;> first
    | cases h; done
    | rfl
    | (simp only [Bool.and_eq_true, beq_iff_eq, decide_eq_true_eq, Nat.beq_eq] at h; simp_all; done)
    | (simp only [Bool.and_eq_true, beq_iff_eq, decide_eq_true_eq] at h; obtain ⟨h1, h2⟩ := h; subst h1 h2; rfl)
    | (simp only [beq_iff_eq] at h; subst h; rfl)
    | (rw [eqS_iff.1 h])
theorem beqList_eq : ∀ {x y : List SV}, beqList x y = true → x = y
  | [], [], _ => rfl
  | [], _ :: _, h => by simp [beqList] at h
  | _ :: _, [], h => by simp [beqList] at h
  | a :: x, b :: y, h => by
    simp only [beqList, Bool.and_eq_true] at h
    rw [beqOne_eq h.1, beqList_eq h.2]
theorem beqS_eq {x y : SV} (h : beqS x y = true) : x = y := by
  unfold beqS at h
  split at h
  · rw [beqList_eq h]
  · rw [beqList_eq h]
  · simp only [Bool.and_eq_true] at h
    rw [Nat.eq_of_beq_eq_true h.1, beqOne_eq h.2]
  · exact beqOne_eq h
theorem cnt_zero (ops : List (SOper × DK)) : cntE ops 0 = 0 := by cases ops <;> rfl
theorem cnt_cons (p : SOper × DK) (os : List (SOper × DK)) (i : Nat) : cntE (p :: os) (i + 1) = (match p.2 with | .eff => 1 | _ => 0) + cntE os i := rfl
theorem cnt_succ (ops : List (SOper × DK)) : ∀ (i : Nat) (o : SOper) (dk : DK), ops[i]? = some (o, dk) → cntE ops (i + 1) = cntE ops i + (match dk with | .eff => 1 | _ => 0) := by
  induction ops with
  | nil => intro i o dk h; rw [List.getElem?_nil] at h; cases h
  | cons p os ih =>
    intro i o dk h
    cases i with
    | zero =>
      rw [List.getElem?_cons_zero] at h
      have h1 : p = (o, dk) := Option.some.inj h
      rw [cnt_cons, cnt_zero, cnt_zero, h1, Nat.add_zero, Nat.zero_add]
    | succ i =>
      rw [List.getElem?_cons_succ] at h
      rw [cnt_cons, cnt_cons, ih i o dk h, Nat.add_assoc]
theorem cnt_mono (ops : List (SOper × DK)) {i j : Nat} (h : i ≤ j) : cntE ops i ≤ cntE ops j := by
  induction ops generalizing i j with
  | nil => simp [cntE]
  | cons p os ih =>
    obtain ⟨o, dk⟩ := p
    cases i with
    | zero => simp [cntE]
    | succ i =>
      cases j with
      | zero => omega
      | succ j =>
        have := ih (i := i) (j := j) (by omega)
        simp only [cntE]
        omega
theorem cnt_hit : ∀ (ops : List (SOper × DK)) (i c : Nat), c < cntE ops i → ∃ j o, j < i ∧ ops[j]? = some (o, .eff) ∧ cntE ops j = c
  | [], i, c, h => by simp [cntE] at h
  | _ :: _, 0, c, h => by simp [cntE] at h
  | (o, dk) :: os, i + 1, c, h => by
    simp only [cntE] at h
    cases dk with
    | eff =>
      dsimp only at h
      cases c with
      | zero => exact ⟨0, o, by omega, rfl, by simp [cntE]⟩
      | succ c =>
        obtain ⟨j, o', h1, h2, h3⟩ := cnt_hit os i c (by omega)
        exact ⟨j + 1, o', by omega, by simpa using h2, by simp [cntE, h3]; omega⟩
    | pure =>
      obtain ⟨j, o', h1, h2, h3⟩ := cnt_hit os i c (by simpa using h)
      exact ⟨j + 1, o', by omega, by simpa using h2, by simp [cntE, h3]⟩
    | read lo hi =>
      obtain ⟨j, o', h1, h2, h3⟩ := cnt_hit os i c (by simpa using h)
      exact ⟨j + 1, o', by omega, by simpa using h2, by simp [cntE, h3]⟩
    | hoist lo hi =>
      obtain ⟨j, o', h1, h2, h3⟩ := cnt_hit os i c (by simpa using h)
      exact ⟨j + 1, o', by omega, by simpa using h2, by simp [cntE, h3]⟩
structure At (call : CallS) (ops : List (SOper × DK)) (hvs : List SV) (tss : List T) (vs : List SV) (hs : List Heap) (tn : T) (i : Nat) (o : SOper) (dk : DK) : Prop where
  ex : ∃ t v hv h, tss[i]? = some t ∧ vs[i]? = some v ∧ hvs[i]? = some hv ∧ hs[cntE ops i]? = some h ∧ (tss ++ [tn])[i + 1]? = some (putT t o.dst v) ∧
    (wantedS t o.guard = false → v = .undef ∧ (dk = .eff → hs[cntE ops i + 1]? = some h)) ∧
    (wantedS t o.guard = true → match dk with
      | .eff => ∃ h', evalK call o.k t h = some (v, h') ∧ hs[cntE ops i + 1]? = some h'
      | .hoist _ _ => v = hv
      | _ => quietOp o.k t h = some v)
theorem textD_facts {call : CallS} : ∀ (ops : List (SOper × DK)) (hvs : List SV) (ts : T) (H : Heap) (tss : List T) (vs : List SV) (hs : List Heap) (tn : T), textD call ops hvs ts H = some (tss, vs, hs, tn) →
    tss.length = ops.length ∧ vs.length = ops.length ∧ hs.length = cntE ops ops.length + 1 ∧ hs[0]? = some H ∧ (tss ++ [tn])[0]? = some ts ∧
    ∀ (i : Nat) (o : SOper) (dk : DK), ops[i]? = some (o, dk) → At call ops hvs tss vs hs tn i o dk
  | [], hvs, ts, H, tss, vs, hs, tn, h => by
    simp only [textD, Option.some.injEq, Prod.mk.injEq] at h
    obtain ⟨rfl, rfl, rfl, rfl⟩ := h
    exact ⟨rfl, rfl, rfl, rfl, rfl, fun i o dk h => by simp at h⟩
  | _ :: _, [], ts, H, tss, vs, hs, tn, h => by simp [textD] at h
  | (o, dk) :: os, hv :: hvs, ts, H, tss, vs, hs, tn, h => by
    have noeff : ∀ (v : SV) (tss' : List T) (vs' : List SV), (∀ h : dk = .eff, False) → textD call os hvs (putT ts o.dst v) H = some (tss', vs', hs, tn) → tss = ts :: tss' → vs = v :: vs' →
        (wantedS ts o.guard = false → v = .undef) → (wantedS ts o.guard = true → match dk with | .hoist _ _ => v = hv | .eff => False | _ => quietOp o.k ts H = some v) →
        tss.length = ((o, dk) :: os).length ∧ vs.length = ((o, dk) :: os).length ∧ hs.length = cntE ((o, dk) :: os) ((o, dk) :: os).length + 1 ∧ hs[0]? = some H ∧ (tss ++ [tn])[0]? = some ts ∧
          ∀ (i : Nat) (o' : SOper) (dk' : DK), ((o, dk) :: os)[i]? = some (o', dk') → At call ((o, dk) :: os) (hv :: hvs) tss vs hs tn i o' dk' := by
      intro v tss' vs' hne hrec e1 e2 hw0 hw1
      obtain ⟨q1, q2, q3, q4, q5, q6⟩ := textD_facts os hvs _ _ _ _ _ _ hrec
      subst e1 e2
      have hc : (match dk with | .eff => 1 | _ => 0) = 0 := by cases dk <;> first | rfl | exact (hne rfl).elim
      refine ⟨by simp [q1], by simp [q2], by simp only [List.length_cons, cntE, hc]; omega, q4, rfl, fun i o' dk' hi => ?_⟩
      cases i with
      | zero =>
        simp at hi
        obtain ⟨rfl, rfl⟩ := hi
        refine ⟨ts, v, hv, H, rfl, rfl, rfl, by simp [cnt_zero, q4], by simpa using q5, fun hw => ⟨hw0 hw, fun h => (hne h).elim⟩, fun hw => ?_⟩
        have := hw1 hw
        cases dk <;> first | exact this | exact (hne rfl).elim
      | succ i =>
        obtain ⟨t, v', hv', h', p1, p2, p3, p4, p5, p6, p7⟩ := (q6 i o' dk' (by simpa using hi)).ex
        have hcs : cntE ((o, dk) :: os) (i + 1) = cntE os i := by simp only [cntE, hc]; omega
        exact ⟨t, v', hv', h', by simpa using p1, by simpa using p2, by simpa using p3, by rw [hcs]; exact p4, by simpa using p5, by rw [hcs]; exact p6, by rw [hcs]; exact p7⟩
    simp only [textD] at h
    cases dk with
    | eff =>
      dsimp only at h
      have witheff : ∀ (v : SV) (H' : Heap), (wantedS ts o.guard = false → v = .undef ∧ H' = H) → (wantedS ts o.guard = true → evalK call o.k ts H = some (v, H')) →
          (match textD call os hvs (putT ts o.dst v) H' with
            | some (tss, vs, hs, tn) => some (ts :: tss, v :: vs, H :: hs, tn)
            | none => none) = some (tss, vs, hs, tn) →
          tss.length = ((o, DK.eff) :: os).length ∧ vs.length = ((o, DK.eff) :: os).length ∧ hs.length = cntE ((o, DK.eff) :: os) ((o, DK.eff) :: os).length + 1 ∧ hs[0]? = some H ∧ (tss ++ [tn])[0]? = some ts ∧
            ∀ (i : Nat) (o' : SOper) (dk' : DK), ((o, DK.eff) :: os)[i]? = some (o', dk') → At call ((o, DK.eff) :: os) (hv :: hvs) tss vs hs tn i o' dk' := by
        intro v H' hw0 hw1 hrec
        split at hrec
        · rename_i tss' vs' hs' tn' hr
          simp only [Option.some.injEq, Prod.mk.injEq] at hrec
          obtain ⟨rfl, rfl, rfl, rfl⟩ := hrec
          obtain ⟨q1, q2, q3, q4, q5, q6⟩ := textD_facts os hvs _ _ _ _ _ _ hr
          refine ⟨by simp [q1], by simp [q2], by simp only [List.length_cons, cntE]; omega, rfl, rfl, fun i o' dk' hi => ?_⟩
          cases i with
          | zero =>
            simp at hi
            obtain ⟨rfl, rfl⟩ := hi
            refine ⟨ts, v, hv, H, rfl, rfl, rfl, by simp [cnt_zero], by simpa using q5, fun hw => ⟨(hw0 hw).1, fun _ => ?_⟩, fun hw => ⟨H', hw1 hw, ?_⟩⟩
            · simp [cnt_zero, q4, (hw0 hw).2]
            · simp [cnt_zero, q4]
          | succ i =>
            obtain ⟨t, v', hv', h', p1, p2, p3, p4, p5, p6, p7⟩ := (q6 i o' dk' (by simpa using hi)).ex
            have hcs : cntE ((o, DK.eff) :: os) (i + 1) = cntE os i + 1 := by simp only [cntE]; omega
            refine ⟨t, v', hv', h', by simpa using p1, by simpa using p2, by simpa using p3, by rw [hcs]; simpa using p4, by simpa using p5, by rw [hcs]; simpa using p6, by rw [hcs]; simpa using p7⟩
        · cases hrec
      cases hw : wantedS ts o.guard with
      | true =>
        rw [hw] at h
        dsimp only at h
        split at h
        · cases h
        · rename_i v H' hev
          exact witheff v H' (fun e => by rw [hw] at e; cases e) (fun _ => hev) h
      | false =>
        rw [hw] at h
        exact witheff .undef H (fun _ => ⟨rfl, rfl⟩) (fun e => by rw [hw] at e; cases e) h
    | pure =>
      dsimp only at h
      split at h
      · cases h
      · rename_i v hr
        split at h
        · rename_i tss' vs' hs' tn' hrec
          simp only [Option.some.injEq, Prod.mk.injEq] at h
          obtain ⟨rfl, rfl, rfl, rfl⟩ := h
          refine noeff v tss' vs' (by simp) hrec rfl rfl (fun hw => ?_) (fun hw => ?_)
          · rw [hw] at hr; simpa using hr.symm
          · rw [hw] at hr; exact hr
        · cases h
    | read lo hi =>
      dsimp only at h
      split at h
      · cases h
      · rename_i v hr
        split at h
        · rename_i tss' vs' hs' tn' hrec
          simp only [Option.some.injEq, Prod.mk.injEq] at h
          obtain ⟨rfl, rfl, rfl, rfl⟩ := h
          refine noeff v tss' vs' (by simp) hrec rfl rfl (fun hw => ?_) (fun hw => ?_)
          · rw [hw] at hr; simpa using hr.symm
          · rw [hw] at hr; exact hr
        · cases h
    | hoist lo hi =>
      dsimp only at h
      split at h
      · cases h
      · rename_i v hr
        split at h
        · rename_i tss' vs' hs' tn' hrec
          simp only [Option.some.injEq, Prod.mk.injEq] at h
          obtain ⟨rfl, rfl, rfl, rfl⟩ := h
          refine noeff v tss' vs' (by simp) hrec rfl rfl (fun hw => ?_) (fun hw => ?_)
          · rw [hw] at hr; simpa using hr.symm
          · rw [hw] at hr; simpa using hr.symm
        · cases h
end Go.Sh
end
section
namespace Go.Sh
open Go.RowKit (Below)
theorem enum_get {α : Type} : ∀ (l : List α) (k i : Nat) (x : α), l[i]? = some x → (k + i, x) ∈ enum k l
  | [], k, i, x, h => by simp at h
  | y :: l, k, 0, x, h => by simp at h; subst h; simp [enum]
  | y :: l, k, i + 1, x, h => by
    have := enum_get l (k + 1) i x (by simpa using h)
    simp only [enum]
    exact List.mem_cons_of_mem _ (by rw [show k + (i + 1) = k + 1 + i by omega]; exact this)
theorem enum_all {α : Type} {l : List α} {p : Nat × α → Bool} (h : (enum 0 l).all p = true) (i : Nat) (x : α) (hi : l[i]? = some x) : p (i, x) = true := by
  have := List.all_eq_true.1 h _ (enum_get l 0 i x hi)
  simpa using this
theorem enum_mem {α : Type} : ∀ (l : List α) (k : Nat) (p : Nat × α), p ∈ enum k l → ∃ i, p.1 = k + i ∧ l[i]? = some p.2
  | [], k, p, h => by simp [enum] at h
  | y :: l, k, p, h => by
    simp only [enum, List.mem_cons] at h
    rcases h with rfl | h
    · exact ⟨0, rfl, rfl⟩
    · obtain ⟨i, h1, h2⟩ := enum_mem l (k + 1) p h
      exact ⟨i + 1, by omega, by simpa using h2⟩
theorem enum_any {α : Type} {l : List α} {p : Nat × α → Bool} (h : (enum 0 l).any p = true) : ∃ i x, l[i]? = some x ∧ p (i, x) = true := by
  obtain ⟨q, hq, hp⟩ := List.any_eq_true.1 h
  obtain ⟨i, h1, h2⟩ := enum_mem l 0 q hq
  obtain ⟨a, b⟩ := q
  simp at h1
  subst h1
  exact ⟨a, b, h2, hp⟩
structure Fine (P : Program) (ops : Array Oper) (dops : List (SOper × DK)) (A : Nat → List Nat) (sw : Bool) : Prop where
  len : dops.length = ops.size
  comp : ∀ (i : Nat) (o : Oper), ops[i]? = some o → ∃ so dk, dops[i]? = some (so, dk) ∧ compOper P ops o = some so
  back : ∀ (i : Nat) (o : Oper), ops[i]? = some o → ∀ e ∈ aft o, e < i
  anc : ∀ (i : Nat) (o : Oper), ops[i]? = some o → ∀ x ∈ A i, ∃ e ∈ aft o, x = e ∨ x ∈ A e
  clash : ∀ (i j : Nat) (p q : SOper × DK), i < j → dops[i]? = some p → dops[j]? = some q → clash p.1 q.1 = true → i ∈ A j
  effs : ∀ (i j : Nat) (p q : SOper × DK), i < j → dops[i]? = some p → dops[j]? = some q → isEff p.2 = true → isEff q.2 = true → i ∈ A j ∨
    (sw = true ∧ cntE dops i + 2 = cntE dops dops.length ∧ cntE dops j + 1 = cntE dops dops.length)
  pure : ∀ (i : Nat) (so : SOper), dops[i]? = some (so, .pure) → ∃ s, so.k = .op s ∧ s.isPure = true
  lo : ∀ (i : Nat) (p : SOper × DK) (lo hi : Nat), dops[i]? = some p → (p.2 = .read lo hi ∨ p.2 = .hoist lo hi) → lo = 0 ∨ ∃ (j : Nat) (q : SOper × DK), dops[j]? = some q ∧ isEff q.2 = true ∧ j ∈ A i ∧ cntE dops j + 1 = lo
  hi : ∀ (i : Nat) (p : SOper × DK) (lo hi : Nat), dops[i]? = some p → (p.2 = .read lo hi ∨ p.2 = .hoist lo hi) → cntE dops dops.length ≤ hi ∨ ∃ (j : Nat) (q : SOper × DK), dops[j]? = some q ∧ isEff q.2 = true ∧ i ∈ A j ∧ cntE dops j = hi
  swap : ∀ (i : Nat) (p : SOper × DK) (lo hi : Nat), dops[i]? = some p → (p.2 = .read lo hi ∨ p.2 = .hoist lo hi) → sw = true →
    (∀ (j : Nat) (q : SOper × DK), dops[j]? = some q → isEff q.2 = true → cntE dops dops.length ≤ cntE dops j + 2 → j ∈ A i) ∨ (∀ (j : Nat) (q : SOper × DK), dops[j]? = some q → isEff q.2 = true → cntE dops dops.length ≤ cntE dops j + 2 → i ∈ A j)
  read : ∀ (i : Nat) (so : SOper) (lo hi : Nat), dops[i]? = some (so, .read lo hi) → ∃ s, so.k = .op s ∧ s.isRead = true
  hoist : ∀ (i : Nat) (so : SOper) (lo hi : Nat), dops[i]? = some (so, .hoist lo hi) → (∃ s, so.k = .op s ∧ s.isHoist = true) ∧ so.guard = none
theorem contains_mem {l : List Nat} {x : Nat} (h : l.contains x = true) : x ∈ l := by simpa using h
theorem mapO_length {α β : Type} {f : α → Option β} : ∀ {l : List α} {r : List β}, mapO f l = some r → r.length = l.length
  | [], r, h => by simp [mapO] at h; subst h; rfl
  | x :: l, r, h => by
    simp only [mapO] at h
    split at h
    · split at h
      · rename_i hl
        cases h
        simp [mapO_length hl]
      · cases h
    · cases h
theorem mapO_get {α β : Type} {f : α → Option β} : ∀ {l : List α} {r : List β}, mapO f l = some r → ∀ (i : Nat) (x : α), l[i]? = some x → ∃ y, r[i]? = some y ∧ f x = some y
  | [], r, h, i, x, hi => by simp at hi
  | a :: l, r, h, i, x, hi => by
    simp only [mapO] at h
    split at h
    · rename_i y hy
      split at h
      · rename_i ys hl
        cases h
        cases i with
        | zero => simp at hi; subst hi; exact ⟨y, rfl, hy⟩
        | succ i =>
          obtain ⟨z, h1, h2⟩ := mapO_get hl i x (by simpa using hi)
          exact ⟨z, by simpa using h1, h2⟩
      · cases h
    · cases h
theorem tryD_fine {P : Program} {ops : Array Oper} {l : List SOper} {wide : Bool} {dops : List (SOper × DK)} {sw : Bool} (hl : mapO (compOper P ops) ops.toList = some l) (h : tryD ops l wide = some (.dreg dops sw)) : ∃ A, Fine P ops dops A sw := by
  unfold tryD at h
  · split at h
    rename_i dops' sw' hdr
    split at h
    · rename_i hchk
      simp only [Option.some.injEq, SCode.dreg.injEq] at h
      obtain ⟨rfl, rfl⟩ := h
      simp only [Bool.and_eq_true] at hchk
      obtain ⟨hlen, hchk⟩ := hchk
      have hlen := Nat.eq_of_beq_eq_true hlen
      have hll := mapO_length hl
      simp only [Array.length_toList] at hll
      have hcomp : ∀ (i : Nat) (o : Oper), ops[i]? = some o → ∃ so dk, dops'[i]? = some (so, dk) ∧ compOper P ops o = some so := by
        intro i o hi
        obtain ⟨so, h1, h2⟩ := mapO_get hl i o (by simpa using hi)
        have hz : ∃ dks, dops' = l.zip dks := by
          unfold draftD at hdr
          simp only [Prod.mk.injEq] at hdr
          exact ⟨_, hdr.1.symm⟩
        obtain ⟨dks, hz⟩ := hz
        have hilt : i < dops'.length := by
          have := (Array.getElem?_eq_some_iff.1 hi).1
          omega
        have hd := List.getElem?_eq_getElem hilt
        have : (l.zip dks)[i]? = some dops'[i] := by rw [← hz]; exact hd
        rw [List.getElem?_zip_eq_some] at this
        have e1 := this.1
        rw [h1] at e1
        exact ⟨so, dops'[i].2, by rw [hd, Option.some.inj e1], h2⟩
      unfold chkD at hchk
      simp only [Bool.and_eq_true] at hchk
      obtain ⟨⟨⟨c1, c2⟩, c3⟩, c4⟩ := hchk
      have hrng : ∀ (lo hi i : Nat), rangeOk dops' (ancs ops.toList []) lo hi i = true →
          (lo = 0 ∨ ∃ (j : Nat) (q : SOper × DK), dops'[j]? = some q ∧ isEff q.2 = true ∧ j ∈ (ancs ops.toList []).getD i [] ∧ cntE dops' j + 1 = lo) ∧
          (cntE dops' dops'.length ≤ hi ∨ ∃ (j : Nat) (q : SOper × DK), dops'[j]? = some q ∧ isEff q.2 = true ∧ i ∈ (ancs ops.toList []).getD j [] ∧ cntE dops' j = hi) := by
        intro lo hi i hr
        unfold rangeOk at hr
        simp only [Bool.and_eq_true, Bool.or_eq_true] at hr
        refine ⟨?_, ?_⟩
        · rcases hr.1 with h | h
          · exact .inl (Nat.eq_of_beq_eq_true h)
          · obtain ⟨j, q, h1, h2⟩ := enum_any h
            simp only [Bool.and_eq_true] at h2
            exact .inr ⟨j, q, h1, h2.1.1, contains_mem h2.1.2, Nat.eq_of_beq_eq_true h2.2⟩
        · rcases hr.2 with h | h
          · exact .inl (Nat.le_of_ble_eq_true h)
          · obtain ⟨j, q, h1, h2⟩ := enum_any h
            simp only [Bool.and_eq_true] at h2
            exact .inr ⟨j, q, h1, h2.1.1, contains_mem h2.1.2, Nat.eq_of_beq_eq_true h2.2⟩
      have hswp : ∀ (i : Nat), swapOk dops' (ancs ops.toList []) sw' i = true → sw' = true →
          (∀ (j : Nat) (q : SOper × DK), dops'[j]? = some q → isEff q.2 = true → cntE dops' dops'.length ≤ cntE dops' j + 2 → j ∈ (ancs ops.toList []).getD i []) ∨
          (∀ (j : Nat) (q : SOper × DK), dops'[j]? = some q → isEff q.2 = true → cntE dops' dops'.length ≤ cntE dops' j + 2 → i ∈ (ancs ops.toList []).getD j []) := by
        intro i hr hsw
        unfold swapOk at hr
        simp only [hsw, Bool.not_true, Bool.false_or, Bool.or_eq_true] at hr
        rcases hr with h | h
        · refine .inl fun j q h1 h2 h3 => ?_
          have := enum_all h j q h1
          simp only [h2, Nat.ble_eq_true_of_le h3, Bool.not_true, Bool.false_or] at this
          exact contains_mem this
        · refine .inr fun j q h1 h2 h3 => ?_
          have := enum_all h j q h1
          simp only [h2, Nat.ble_eq_true_of_le h3, Bool.not_true, Bool.false_or] at this
          exact contains_mem this
      have hread : ∀ (i : Nat) (so : SOper) (lo hi : Nat), dops'[i]? = some (so, .read lo hi) → (∃ s, so.k = .op s ∧ s.isRead = true) ∧ rangeOk dops' (ancs ops.toList []) lo hi i = true ∧ swapOk dops' (ancs ops.toList []) sw' i = true := by
        intro i so lo hi hi'
        have := enum_all c4 i _ hi'
        dsimp only at this
        split at this
        · rename_i s hs
          simp only [Bool.and_eq_true] at this
          exact ⟨⟨s, hs, this.1.1⟩, this.1.2, this.2⟩
        · cases this
      have hhoist : ∀ (i : Nat) (so : SOper) (lo hi : Nat), dops'[i]? = some (so, .hoist lo hi) → ((∃ s, so.k = .op s ∧ s.isHoist = true) ∧ so.guard = none) ∧ rangeOk dops' (ancs ops.toList []) lo hi i = true ∧ swapOk dops' (ancs ops.toList []) sw' i = true := by
        intro i so lo hi hi'
        have := enum_all c4 i _ hi'
        dsimp only at this
        split at this
        · rename_i s hs
          simp only [Bool.and_eq_true, Option.isNone_iff_eq_none] at this
          exact ⟨⟨⟨s, hs, this.1.1.1⟩, this.1.1.2⟩, this.1.2, this.2⟩
        · cases this
      have hquiet : ∀ (i : Nat) (p : SOper × DK) (lo hi : Nat), dops'[i]? = some p → (p.2 = .read lo hi ∨ p.2 = .hoist lo hi) → rangeOk dops' (ancs ops.toList []) lo hi i = true ∧ swapOk dops' (ancs ops.toList []) sw' i = true := by
        intro i p lo hi hp hk
        obtain ⟨so, dk⟩ := p
        rcases hk with hk | hk
        · dsimp only at hk; subst hk; exact (hread i so lo hi hp).2
        · dsimp only at hk; subst hk; exact (hhoist i so lo hi hp).2
      refine ⟨fun i => (ancs ops.toList []).getD i [], ?_⟩
      refine ⟨hlen, hcomp, ?_, ?_, ?_, ?_, ?_, ?_, ?_, ?_, fun i so lo hi h => (hread i so lo hi h).1, fun i so lo hi h => (hhoist i so lo hi h).1⟩
      · intro i o hi e he
        have := enum_all c1 i o (by simpa using hi)
        simp only [Bool.and_eq_true, List.all_eq_true] at this
        have := this.1 e he
        exact Nat.le_of_ble_eq_true this
      · intro i o hi x hx
        have := enum_all c1 i o (by simpa using hi)
        simp only [Bool.and_eq_true, List.all_eq_true] at this
        have := this.2 x hx
        obtain ⟨e, he, h2⟩ := List.any_eq_true.1 this
        simp only [Bool.or_eq_true] at h2
        rcases h2 with h2 | h2
        · exact ⟨e, he, .inl (Nat.eq_of_beq_eq_true h2)⟩
        · exact ⟨e, he, .inr (contains_mem h2)⟩
      · intro i j p q hij hp hq hcl
        have := enum_all (enum_all c2 i p hp) j q hq
        have hb : Nat.blt i j = true := Nat.ble_eq_true_of_le hij
        simp only [hb, hcl, Bool.not_true, Bool.false_or] at this
        exact contains_mem this
      · intro i j p q hij hp hq hp2 hq2
        have := enum_all (enum_all c3 i p hp) j q hq
        have hb : Nat.blt i j = true := Nat.ble_eq_true_of_le hij
        simp only [hb, hp2, hq2, Bool.not_true, Bool.false_or, Bool.or_eq_true, Bool.and_eq_true] at this
        rcases this with h | h
        · exact .inl (contains_mem h)
        · exact .inr ⟨h.1.1, Nat.eq_of_beq_eq_true h.1.2, Nat.eq_of_beq_eq_true h.2⟩
      · intro i so hi
        have := enum_all c4 i _ hi
        dsimp only at this
        split at this
        · rename_i s hs
          exact ⟨s, hs, this⟩
        · cases this
      · intro i p lo hi hp hk
        exact (hrng _ _ _ (hquiet i p lo hi hp hk).1).1
      · intro i p lo hi hp hk
        exact (hrng _ _ _ (hquiet i p lo hi hp hk).1).2
      · intro i p lo hi hp hk hsw
        exact hswp i (hquiet i p lo hi hp hk).2 hsw
    · cases h
theorem compD_fine {P : Program} {ops : Array Oper} {dops : List (SOper × DK)} {sw : Bool} (h : compD P ops = some (.dreg dops sw)) : ∃ A, Fine P ops dops A sw := by
  unfold compD at h
  split at h
  · cases h
  · rename_i l hl
    split at h
    · rename_i c hc
      cases h
      exact tryD_fine hl hc
    · exact tryD_fine hl h
end Go.Sh
end
section
namespace Go.Sh
open Go.RowKit (Below)
theorem VR.flat {φ ψ : Emb} {x : SV} {v : Value} (h : VR φ x v) (hf : x.flat = true) : VR ψ x v := by
  cases h with
  | bool b => exact .bool b
  | int k n => exact .int k n
  | str h => exact .str h
  | nilp => exact .nilp
  | nils => exact .nils
  | nilm => exact .nilm
  | nilf => exact .nilf
  | nili => exact .nili
  | _ => simp [SV.flat] at hf
/-! ### A heap that is only read -/
def SObj.froz : SObj → SObj
  | .row cs e ex _ frz => .row cs e ex true frz
  | _ => .dead
def Tr.map {α β : Type} (f : α → β) : Tr α → Tr β
  | .leaf => .leaf
  | .node l v r => .node (l.map f) (v.map f) (r.map f)
theorem Tr.get_map {α β : Type} (f : α → β) : ∀ (t : Tr α) (n : Nat), (t.map f).get n = (t.get n).map f
  | .leaf, n => by cases n <;> rfl
  | .node l v r, n => by
    cases n with
    | zero => rfl
    | succ m =>
      simp only [Tr.map, Tr.get]
      split
      · exact Tr.get_map f l _
      · exact Tr.get_map f r _
def Heap.froz (H : Heap) : Heap := ⟨H.next, H.objs.map SObj.froz⟩
theorem Heap.get_froz (H : Heap) (b : Nat) : H.froz.get b = (H.get b).map SObj.froz := Tr.get_map _ _ _
theorem Heap.froz_row {H : Heap} {b : Nat} {cs : List SV} {e : TypeId} {ex ro : Bool} {frz : Nat} (h : H.get b = some (.row cs e ex ro frz)) : H.froz.get b = some (.row cs e ex true frz) := by
  rw [Heap.get_froz, h]
  rfl
theorem HR.froz {φ : Emb} {B : Nat} {H : Heap} {w : World} (h : HR φ B H w) : HR φ w.heap.size H.froz w where
  dom b l e := h.dom b l e
  inj b b' l l' e e' hr hb hb' := by
    have key : ∀ c, live (H.froz.get c) → live (H.get c) := by
      intro c hc
      rw [Heap.get_froz] at hc
      cases hg : H.get c with
      | none => rw [hg] at hc; exact hc.elim
      | some o =>
        rw [hg] at hc
        cases o <;> first | trivial | exact hc.elim
    exact h.inj b b' l l' e e' hr (key _ hb) (key _ hb')
  obj b l e := by
    rw [Heap.get_froz]
    have ho := h.obj b l e
    cases hg : H.get b with
    | none => exact .none
    | some o =>
      rw [hg] at ho
      cases o with
      | row cs e' ex ro frz =>
        cases ho with
        | row hb hs hc hl hex hro hfr => exact .row hb hs hc hl hex (fun h => (by cases h)) (fun h => (by cases h))
      | _ => exact .dead
  sz := Nat.le_refl _
theorem VR.under {φ φ' : Emb} {b : Nat} (hs : ∀ c m, φ' c = some m → c < b → φ c = some m) {x : SV} {v : Value} (hx : x.under b = true) (h : VR φ' x v) : VR φ x v := by
  cases x with
  | ptr c o => cases h with | ptr h => exact .ptr (hs _ _ h (Nat.le_of_ble_eq_true hx))
  | slice c o n cp z => cases h with
    | slice h hc hn ht => exact .slice (hs _ _ h (Nat.le_of_ble_eq_true hx)) hc hn ht
    | slice0 hc => exact .slice0 hc
  | map c => cases h with | map h => exact .map (hs _ _ h (Nat.le_of_ble_eq_true hx))
  | _ => exact h.flat hx
section
variable {P : Program} {φ : Emb} {B : Nat} {H H' h : Heap} {w w' : World} {ts : T} {a : Act} {o : Oper} {v : SV} {call : CallS}
theorem HR.adopt (hh : HR φ B h w) {b : Nat} {l : Loc} {so : SObj} (hb : φ b = none) (hlt : b < h.next) (hrow : h.get b = some so) (hl : w.heap.size ≤ l.rb) (hsz : l.rb < w'.heap.size)
    (hw : ∀ k, k < w.heap.size → w'.heap[k]? = w.heap[k]?) (ho : OR (φ.ins b l) B w' l (some so)) : HR (φ.ins b l) B h w' where
  dom c m e := by
    unfold Emb.ins at e
    split at e
    · cases e; subst_vars; exact ⟨hlt, hsz⟩
    · have := hh.dom c m e; omega
  inj c c' m m' e e' hr hc hc' := by
    unfold Emb.ins at e e'
    split at e <;> split at e'
    · subst_vars; rfl
    · cases e; have := (hh.dom _ _ e').2; omega
    · cases e'; have := (hh.dom _ _ e).2; omega
    · exact hh.inj c c' m m' e e' hr hc hc'
  obj c m e := by
    unfold Emb.ins at e
    split at e
    · rename_i k
      cases e
      rw [k, hrow]
      exact ho
    · exact (hh.obj c m e).mono (Emb.le_ins hb) (hw _ (hh.dom c m e).2)
  sz := by have := hh.sz; omega
theorem HR.pushS (hh : HR φ B H w) (so : SObj) : HR φ B (H.push so) w where
  dom c m e := by have := hh.dom c m e; simp only [Heap.push]; omega
  inj c c' m m' e e' hr hc hc' := by
    have h1 := (hh.dom c m e).1
    have h2 := (hh.dom c' m' e').1
    rw [Heap.get_push, if_neg (by omega)] at hc hc'
    exact hh.inj c c' m m' e e' hr hc hc'
  obj c m e := by
    have h1 := (hh.dom c m e).1
    rw [Heap.get_push, if_neg (by omega)]
    exact hh.obj c m e
  sz := hh.sz
theorem HR.same (hh : HR φ B H w) (hn : H'.next = H.next) (hg : ∀ b, H'.get b = H.get b) : HR φ B H' w where
  dom c m e := by rw [hn]; exact hh.dom c m e
  inj c c' m m' e e' hr hc hc' := by
    rw [hg] at hc hc'
    exact hh.inj c c' m m' e e' hr hc hc'
  obj c m e := by rw [hg]; exact hh.obj c m e
  sz := hh.sz
def noEmb : Emb := fun _ => none
def noHeap : Heap := ⟨0, .leaf⟩
theorem HR.empty (w : World) : HR noEmb w.heap.size noHeap w := by
  constructor
  · intro b l e; cases e
  · intro b b' l l' e; cases e
  · intro b l e; cases e
  · exact Nat.le_refl _
theorem compBin_nh {op : BinOp} {t : TypeId} {x y : Operand} {so : SOp} (h : compBin P op t x y = some so) : so.isHoist = false := by
  unfold compBin at h
  (repeat' split at h) <;> first | cases h; done | (cases h; rfl)
theorem compConv_nh {s d : TypeId} {x : Operand} {so : SOp} (h : compConv P s d x = some so) : so.isHoist = false := by
  unfold compConv at h
  (repeat' split at h) <;> first | cases h; done | (cases h; rfl)
theorem compSlice_nh {t : TypeId} {x : Operand} {lo hi mx : Option Operand} {so : SOp} (h : compSlice P t x lo hi mx = some so) : so.isHoist = false := by
  unfold compSlice at h
  (repeat' split at h) <;> first | cases h; done | (cases h; rfl)
theorem compBuiltin_nh {b : Builtin} {args : Array Operand} {ats : Array TypeId} {so : SOp} (h : compBuiltin P b args ats = some so) : so.isHoist = false := by
  unfold compBuiltin at h
  (repeat' split at h) <;> first | cases h; done | (cases h; rfl)
theorem compExt_nh {f : FuncId} {args : Array Operand} {so : SOp} (h : compExt P f args = some so) : so.isHoist = false := by
  unfold compExt at h
  (repeat' split at h) <;> first | cases h; done | (cases h; rfl)
theorem placesA_nil {z : Nat} {l : List (Nat × Operand)} (h : placesA z l = some []) : l = [] := by
  cases l with
  | nil => rfl
  | cons p l =>
    obtain ⟨i, x⟩ := p
    simp only [placesA] at h
    split at h <;> cases h
theorem compOp_hoist {so : SOp} (hc : compOp P o = some so) (hp : so.isHoist = true) : (∃ e, o.op = .alloc e) ∨ ∃ t len parts e z zero ps, o.op = .buildSlice t len parts ∧ so = .bslice e z len zero ps ∧ placesA z parts.toList = some ps := by
  unfold compOp at hc
  split at hc
  case h_4 e ho => exact .inl ⟨e, ho⟩
  case h_7 t len parts ho =>
    split at hc
    · split at hc
      · split at hc
        · rename_i ps hps _
          cases hc
          exact .inr ⟨t, len, parts, _, _, _, ps, ho, rfl, hps⟩
        · cases hc
      · cases hc
    · cases hc
  all_goals
    exfalso
    (repeat' split at hc) <;> first
      | cases hc; done
      | (cases hc; cases hp; done)
      | (cases hc; rename_i hx; first
          | (rw [compBin_nh hx] at hp; cases hp; done)
          | (rw [compConv_nh hx] at hp; cases hp; done)
          | (rw [compSlice_nh hx] at hp; cases hp; done)
          | (rw [compBuiltin_nh hx] at hp; cases hp; done)
          | (rw [compExt_nh hx] at hp; cases hp; done))
def SOp.zeros (so : SOp) (ts : T) : List SV × TypeId :=
  match so with
  | .alloc zero e => (zero, e)
  | .bslice e _ _ zero ps => ((fillS ts zero ps).getD [], e)
  | _ => ([], 0)
def SOp.made (so : SOp) (b : Nat) : SV :=
  match so with
  | .alloc _ _ => .ptr b 0
  | .bslice _ z len _ _ => .slice b 0 len (some len) z
  | _ => .undef
theorem hoist_some {so : SOp} {ts : T} {H H' : Heap} {v : SV} (hp : so.isHoist = true) (h : evalOp so ts H = some (v, H')) : v = so.made H.next ∧ H' = H.push (.row (so.zeros ts).1 (so.zeros ts).2 true false 0) := by
  unfold SOp.isHoist at hp
  split at hp
  · cases h; exact ⟨rfl, rfl⟩
  · rename_i e z len zero ps
    simp only [evalOp] at h
    split at h
    · rename_i cs hf
      cases h
      refine ⟨rfl, ?_⟩
      show H.push _ = H.push (.row ((fillS ts zero ps).getD []) e true false 0)
      rw [hf]
      rfl
    · cases h
  · cases hp
theorem hoist_ok {so : SOp} {b : Nat} {ts : T} {vv : SV} {HH : Heap} (hc : compK P o = some (.op so)) (hp : so.isHoist = true) (ht : VRL φ ts a.tmps.toList) (hh : HR φ B h w) (hb : φ b = none) (hlt : b < h.next)
    (hev0 : evalOp so ts noHeap = some (vv, HH)) (hrow : h.get b = some (.row (so.zeros ts).1 (so.zeros ts).2 true false 0)) (hf : (so.zeros ts).1.all (SV.under b) = true) :
    ∃ φ1 u w', (execOp a.eval o).run P w = .ok (.value u) w' ∧ φ.le φ1 ∧ (∀ c, c ≠ b → φ1 c = φ c) ∧ HR φ1 B h w' ∧ VR φ1 (so.made b) u ∧ Below B w w' := by
  have hop : compOp P o = some so ∧ sliceFine o = true := by
    unfold compK at hc
    split at hc
    · rename_i so' h1
      split at hc
      · rename_i h2
        cases hc
        exact ⟨h1, h2⟩
      · cases hc; cases hp
    · split at hc
      · split at hc
        · rename_i k hk
          cases hc
          exfalso
          unfold compCall at hk
          (repeat' split at hk) <;> cases hk
        · cases hc; cases hp
      · cases hc; cases hp
  have hev : evalOp so ts h.froz = some (so.made h.next, h.froz.push (.row (so.zeros ts).1 (so.zeros ts).2 true false 0)) := by
    clear hrow hf hop hc
    unfold SOp.isHoist at hp
    split at hp
    · rfl
    · rename_i e z len zero ps
      simp only [evalOp] at hev0
      split at hev0
      · rename_i cs hfs
        show (match fillS ts zero ps with | some cs => some (SV.slice h.froz.next 0 len (some len) z, h.froz.push (.row cs e true false 0)) | none => none) = some (SV.slice h.next 0 len (some len) z, h.froz.push (.row ((fillS ts zero ps).getD []) e true false 0))
        rw [hfs]
        rfl
      · cases hev0
    · cases hp
  obtain ⟨hn, φ', nx, u, w', h1, h2, h3, h4, h5, h6⟩ := compOp_ok (ts := ts) (a := a) hop.1 hop.2 ht hh.froz hev
  have hold : ∀ k, k < w.heap.size → w'.heap[k]? = w.heap[k]? := h6.block
  have hsame : ∀ c m, φ' c = some m → c < b → φ c = some m := by
    intro c m e hcb
    rcases h1.2 c m e with h7 | h7
    · exact h7
    · have : h.next ≤ c := h7
      omega
  have key : ∀ l, φ' h.next = some l → HR (φ.ins b l) B h w' := by
    intro l hl
    have hob := h5.obj h.next l hl
    rw [Heap.get_push, if_pos (show h.next = h.froz.next from rfl)] at hob
    have hlt' := (h5.dom h.next l hl).2
    cases hob with
    | row hb' hs hcc hl' hex hro hfr =>
      have hro' := hro rfl
      refine hh.adopt hb hlt hrow hro' hlt' hold (.row hb' hs (fun i x hx => ?_) hl' hex (fun _ => Nat.le_trans hh.sz hro') hfr)
      obtain ⟨v, g1, g2⟩ := hcc i x hx
      exact ⟨v, g1, (g2.under hsame (List.all_eq_true.1 hf x (List.mem_of_getElem? hx))).mono (Emb.le_ins hb)⟩
  have hbel : Below B w w' := ⟨h6.os, h6.tape, h6.output, h6.size, fun k hk => h6.block k (Nat.lt_of_lt_of_le hk hh.sz)⟩
  have hins : ∀ l c, c ≠ b → φ.ins b l c = φ c := fun l c hc => by simp [Emb.ins, hc]
  clear hev
  unfold SOp.isHoist at hp
  split at hp
  · change VR φ' (.ptr h.next 0) u at h4
    cases h4 with
    | ptr hl =>
      rename_i l
      rcases h3 with rfl | ⟨rfl, h3⟩
      · exact ⟨φ.ins b l, _, w', h2, Emb.le_ins hb, hins l, key l hl, .ptr (Emb.ins_same _ _ _), hbel⟩
      · cases h3
  · rename_i e z len zero ps
    change VR φ' (.slice h.next 0 len (some len) z) u at h4
    cases h4 with
    | slice hl hc hn ht =>
      rename_i l
      rcases h3 with rfl | ⟨rfl, h3⟩
      · exact ⟨φ.ins b l, _, w', h2, Emb.le_ins hb, hins l, key l hl, .slice (Emb.ins_same _ _ _) hc hn ht, hbel⟩
      · cases h3
    | slice0 hc =>
      rcases h3 with rfl | ⟨rfl, h3⟩
      · exact ⟨φ, _, w', h2, Emb.le.refl φ, fun c _ => rfl, hh.world h6.size hold, .slice0 hc, hbel⟩
      · cases h3
  · cases hp
theorem storeC_form {b p : Nat} {vs : List SV} (h : storeC H b p vs = some H') : ∃ cs e ex frz, H.get b = some (.row cs e ex false frz) ∧ (Nat.ble (p + vs.length) cs.length && Nat.ble frz p && vs.all SV.one) = true ∧
    H' = H.put b (.row (cs.take p ++ (vs ++ cs.drop (p + vs.length))) e ex false frz) := by
  unfold storeC at h
  split at h
  · rename_i cs e ex frz hg
    split at h
    · rename_i hx
      cases h
      exact ⟨cs, e, ex, frz, hg, hx, rfl⟩
    · cases h
  · cases h
theorem storeC_swap {H1 H2 : Heap} {x y p q : Nat} {us vs : List SV} (h1 : storeC H x p us = some H1) (h2 : storeC H1 y q vs = some H2) (hne : x ≠ y) :
    ∃ G1 G2, storeC H y q vs = some G1 ∧ storeC G1 x p us = some G2 ∧ H2.next = G2.next ∧ ∀ b, H2.get b = G2.get b := by
  obtain ⟨cs, e, ex, frz, a1, a2, rfl⟩ := storeC_form h1
  obtain ⟨cs', e', ex', frz', b1, b2, rfl⟩ := storeC_form h2
  rw [Heap.get_put, if_neg (Ne.symm hne)] at b1
  refine ⟨H.put y (.row (cs'.take q ++ (vs ++ cs'.drop (q + vs.length))) e' ex' false frz'), (H.put y (.row (cs'.take q ++ (vs ++ cs'.drop (q + vs.length))) e' ex' false frz')).put x (.row (cs.take p ++ (us ++ cs.drop (p + us.length))) e ex false frz), ?_, ?_, ?_, ?_⟩
  · simp only [storeC, b1, b2]
  · simp only [storeC, Heap.get_put, if_neg hne, a1, a2]
  · rfl
  · intro b
    simp only [Heap.get_put]
    by_cases e1 : b = x
    · subst e1; simp [hne]
    · by_cases e2 : b = y
      · subst e2; simp [e1]
      · simp [e1, e2]
end
end Go.Sh
end
section
namespace Go.Sh
open Go.RowKit (Below)
def Wr (dst : Nat → Option Nat) (val : Nat → SV) (init : SV) (S : Nat → Prop) (t : Nat) (x : SV) : Prop :=
  (∃ i, S i ∧ dst i = some t ∧ x = val i ∧ ∀ k, S k → dst k = some t → k ≤ i) ∨ (x = init ∧ ∀ i, S i → dst i ≠ some t)
theorem Wr.det {dst : Nat → Option Nat} {val : Nat → SV} {init : SV} {S S' : Nat → Prop} {t : Nat} {x y : SV} (h : Wr dst val init S t x) (k : Wr dst val init S' t y)
    (hs : ∀ i, dst i = some t → (S i ↔ S' i)) : x = y := by
  rcases h with ⟨i, a1, a2, a3, a4⟩ | ⟨a1, a2⟩ <;> rcases k with ⟨j, b1, b2, b3, b4⟩ | ⟨b1, b2⟩
  · have h1 := b4 i ((hs i a2).1 a1) a2
    have h2 := a4 j ((hs j b2).2 b1) b2
    have : i = j := Nat.le_antisymm h1 h2
    subst this
    rw [a3, b3]
  · exact absurd a2 (b2 i ((hs i a2).1 a1))
  · exact absurd b2 (a2 j ((hs j b2).2 b1))
  · rw [a1, b1]
theorem Wr.congr {dst : Nat → Option Nat} {val : Nat → SV} {init : SV} {S S' : Nat → Prop} {t : Nat} {x : SV} (h : Wr dst val init S t x)
    (hs : ∀ i, dst i = some t → (S i ↔ S' i)) : Wr dst val init S' t x := by
  rcases h with ⟨i, a1, a2, a3, a4⟩ | ⟨a1, a2⟩
  · exact .inl ⟨i, (hs i a2).1 a1, a2, a3, fun k hk hd => a4 k ((hs k hd).2 hk) hd⟩
  · exact .inr ⟨a1, fun i hi hd => a2 i ((hs i hd).2 hi) hd⟩
theorem Wr.new {dst : Nat → Option Nat} {val : Nat → SV} {init : SV} {S : Nat → Prop} {t j : Nat} (hj : S j) (hd : dst j = some t) (hl : ∀ k, S k → dst k = some t → k ≤ j) : Wr dst val init S t (val j) :=
  .inl ⟨j, hj, hd, rfl, hl⟩
theorem pickL {n : Nat} {p : Nat → SV → Prop} (h : ∀ t, t < n → ∃ x, p t x) : ∃ l : List SV, l.length = n ∧ ∀ t, t < n → p t (l.getD t SV.undef) := by
  induction n with
  | zero => exact ⟨[], rfl, fun t ht => by omega⟩
  | succ n ih =>
    obtain ⟨l, h1, h2⟩ := ih fun t ht => h t (by omega)
    obtain ⟨x, hx⟩ := h n (by omega)
    refine ⟨l ++ [x], by simp [h1], fun t ht => ?_⟩
    by_cases e : t < n
    · have := h2 t e
      rwa [List.getD_eq_getElem?_getD, List.getElem?_append_left (by omega), ← List.getD_eq_getElem?_getD]
    · have : t = n := by omega
      subst this
      rw [List.getD_eq_getElem?_getD, List.getElem?_append_right (by omega), h1]
      simpa using hx
theorem putT_length (ts : T) (d : Option Nat) (v : SV) : (putT ts d v).length = ts.length := by cases d <;> simp [putT]
theorem putT_get {ts : T} {d : Option Nat} {v : SV} {t : Nat} (ht : t < ts.length) : (putT ts d v).getD t SV.undef = if d = some t then v else ts.getD t SV.undef := by
  cases d with
  | none => simp [putT]
  | some d =>
    simp only [putT, List.getD_eq_getElem?_getD, List.getElem?_set, Option.some.injEq]
    split
    · rename_i e; subst e; simp [ht]
    · rfl
theorem cnt_inj {ops : List (SOper × DK)} {i j : Nat} {p q : SOper × DK} (hi : ops[i]? = some p) (hj : ops[j]? = some q) (h1 : isEff p.2 = true) (h2 : isEff q.2 = true) (h : cntE ops i = cntE ops j) : i = j := by
  obtain ⟨o, dk⟩ := p
  obtain ⟨o', dk'⟩ := q
  have a := cnt_succ ops i o dk hi
  have b := cnt_succ ops j o' dk' hj
  cases dk <;> simp only [isEff, Bool.false_eq_true] at h1
  cases dk' <;> simp only [isEff, Bool.false_eq_true] at h2
  dsimp only at a b
  rcases Nat.lt_trichotomy i j with hlt | he | hlt
  · have := cnt_mono ops (show i + 1 ≤ j from hlt); omega
  · exact he
  · have := cnt_mono ops (show j + 1 ≤ i from hlt); omega
theorem cnt_lt {ops : List (SOper × DK)} {i : Nat} {p : SOper × DK} (hi : ops[i]? = some p) (h1 : isEff p.2 = true) : cntE ops i < cntE ops ops.length := by
  obtain ⟨o, dk⟩ := p
  have a := cnt_succ ops i o dk hi
  cases dk <;> simp only [isEff, Bool.false_eq_true] at h1
  dsimp only at a
  have := cnt_mono ops (show i + 1 ≤ ops.length from (List.getElem?_eq_some_iff.1 hi).1)
  omega
/-! ### Hoisted blocks -/
theorem hoistD_facts : ∀ (ops : List (SOper × DK)) (ts : T) (H : Heap) (hvs : List SV) (H0 : Heap), hoistD ops ts H = some (hvs, H0) →
    (∀ (i : Nat) (so : SOper) (lo hi : Nat), ops[i]? = some (so, .hoist lo hi) → ∃ s, so.k = .op s ∧ s.isHoist = true) →
    H.next ≤ H0.next ∧ (∀ φ B w, HR φ B H w → HR φ B H0 w) ∧ ∃ hb : Nat → Nat,
      (∀ (i : Nat) (so : SOper) (lo hi : Nat), ops[i]? = some (so, .hoist lo hi) → H.next ≤ hb i ∧ hb i < H0.next ∧ ∀ s, so.k = .op s → hvs[i]? = some (s.made (hb i))) ∧
      ∀ (i j : Nat) (so so' : SOper) (lo hi lo' hi' : Nat), i < j → ops[i]? = some (so, .hoist lo hi) → ops[j]? = some (so', .hoist lo' hi') → hb i < hb j
  | [], ts, H, hvs, H0, h, _ => by
    simp only [hoistD, Option.some.injEq, Prod.mk.injEq] at h
    obtain ⟨rfl, rfl⟩ := h
    exact ⟨Nat.le_refl _, fun _ _ _ h => h, fun _ => 0, fun i so lo hi h => by simp at h, fun i j so so' lo hi lo' hi' _ h => by simp at h⟩
  | (o, dk) :: os, ts, H, hvs, H0, h, hk => by
    have hk' : ∀ (i : Nat) (so : SOper) (lo hi : Nat), os[i]? = some (so, .hoist lo hi) → ∃ s, so.k = .op s ∧ s.isHoist = true := fun i so lo hi h => hk (i + 1) so lo hi (by simpa using h)
    have other : ∀ vs H' ts', (∀ lo hi, dk ≠ .hoist lo hi) → hoistD os ts' H = some (vs, H') → hvs = .undef :: vs → H0 = H' →
        H.next ≤ H0.next ∧ (∀ φ B w, HR φ B H w → HR φ B H0 w) ∧ ∃ hb : Nat → Nat,
      (∀ (i : Nat) (so : SOper) (lo hi : Nat), ((o, dk) :: os)[i]? = some (so, .hoist lo hi) → H.next ≤ hb i ∧ hb i < H0.next ∧ ∀ s, so.k = .op s → hvs[i]? = some (s.made (hb i))) ∧
      ∀ (i j : Nat) (so so' : SOper) (lo hi lo' hi' : Nat), i < j → ((o, dk) :: os)[i]? = some (so, .hoist lo hi) → ((o, dk) :: os)[j]? = some (so', .hoist lo' hi') → hb i < hb j := by
      intro vs H' ts' hne hr e1 e2
      subst e1 e2
      obtain ⟨h1, h2, hb, h3, h4⟩ := hoistD_facts os ts' H vs H0 hr hk'
      refine ⟨h1, h2, fun i => hb (i - 1), fun i so lo hi hi' => ?_, fun i j so so' lo hi lo' hi' hij ha hb' => ?_⟩
      · cases i with
        | zero => simp at hi'; exact absurd hi'.2 (hne _ _)
        | succ i => simpa using h3 i so lo hi (by simpa using hi')
      · cases i with
        | zero => simp at ha; exact absurd ha.2 (hne _ _)
        | succ i =>
          cases j with
          | zero => omega
          | succ j => exact h4 i j so so' lo hi lo' hi' (by omega) (by simpa using ha) (by simpa using hb')
    cases dk with
    | hoist lo0 hi0 =>
      obtain ⟨s, hs1, hs2⟩ := hk 0 o lo0 hi0 rfl
      simp only [hoistD, hs1] at h
      split at h
      case h_2 => cases h
      rename_i v1 H1 hev
      obtain ⟨rfl, rfl⟩ := hoist_some hs2 hev
      split at h
      · rename_i vs H' hr
        simp only [Option.some.injEq, Prod.mk.injEq] at h
        obtain ⟨rfl, rfl⟩ := h
        obtain ⟨h1, h2, hb, h3, h4⟩ := hoistD_facts os _ _ vs H' hr hk'
        simp only [Heap.push] at h1
        refine ⟨by omega, fun φ B w hh => h2 φ B w (hh.pushS _), fun i => match i with | 0 => H.next | i + 1 => hb i, fun i so lo hi hi' => ?_, fun i j so so' lo hi lo' hi' hij ha hb' => ?_⟩
        · cases i with
          | zero =>
            simp at hi'
            obtain ⟨rfl, _⟩ := hi'
            refine ⟨Nat.le_refl _, show H.next < H'.next by omega, fun s' hs' => ?_⟩
            rw [hs1] at hs'
            cases hs'
            rfl
          | succ i =>
            obtain ⟨a1, a2, a3⟩ := h3 i so lo hi (by simpa using hi')
            simp only [Heap.push] at a1
            exact ⟨by dsimp only; omega, a2, fun s' hs' => by simpa using a3 s' hs'⟩
        · cases j with
          | zero => omega
          | succ j =>
            cases i with
            | zero =>
              obtain ⟨a1, _⟩ := h3 j so' lo' hi' (by simpa using hb')
              simp only [Heap.push] at a1
              dsimp only; omega
            | succ i => exact h4 i j so so' lo hi lo' hi' (by omega) (by simpa using ha) (by simpa using hb')
      · cases h
    | pure =>
      simp only [hoistD] at h
      split at h
      · rename_i vs H' hr
        simp only [Option.some.injEq, Prod.mk.injEq] at h
        exact other vs H' _ (by simp) hr h.1.symm h.2.symm
      · cases h
    | read lo hi =>
      simp only [hoistD] at h
      split at h
      · rename_i vs H' hr
        simp only [Option.some.injEq, Prod.mk.injEq] at h
        exact other vs H' _ (by simp) hr h.1.symm h.2.symm
      · cases h
    | eff =>
      simp only [hoistD] at h
      split at h
      · rename_i vs H' hr
        simp only [Option.some.injEq, Prod.mk.injEq] at h
        exact other vs H' _ (by simp) hr h.1.symm h.2.symm
      · cases h
/-! ### Heaps between effects -/
theorem allFrom_get {p : Heap → Bool} : ∀ {hs : List Heap} {lo hi c : Nat} {h : Heap}, allFrom p hs lo hi = true → lo ≤ c → c ≤ hi → hs[c]? = some h → p h = true
  | [], lo, hi, c, h, _, _, _, hc => by simp at hc
  | x :: xs, lo, hi, c, h, ha, hlo, hhi, hc => by
    unfold allFrom at ha
    cases lo with
    | zero =>
      simp only [Bool.and_eq_true] at ha
      cases c with
      | zero => simp at hc; subst hc; exact ha.1
      | succ c =>
        cases hi with
        | zero => omega
        | succ hi => exact allFrom_get (lo := 0) (hi := hi) (c := c) ha.2 (by omega) (by omega) (by simpa using hc)
    | succ lo =>
      cases hi with
      | zero => omega
      | succ hi =>
        cases c with
        | zero => omega
        | succ c => exact allFrom_get (lo := lo) (hi := hi) (c := c) ha (by omega) (by omega) (by simpa using hc)
theorem rowIs_facts {zero : List SV} {e : TypeId} {b : Nat} {h : Heap} (hr : rowIs zero e b h = true) : h.get b = some (.row zero e true false 0) ∧ zero.all (SV.under b) = true := by
  unfold rowIs at hr
  split at hr
  · rename_i cs e' hg
    simp only [Bool.and_eq_true] at hr
    rw [hg, beqList_eq hr.1.2, Nat.eq_of_beq_eq_true hr.2]
    exact ⟨rfl, hr.1.1⟩
  · cases hr
theorem readsD_facts {hs : List Heap} : ∀ {ops : List (SOper × DK)} {tss : List T} {vs : List SV}, readsD hs ops tss vs = true → ∀ (i : Nat) (so : SOper) (dk : DK) (t : T) (v : SV), ops[i]? = some (so, dk) → tss[i]? = some t → vs[i]? = some v →
    wantedS t so.guard = true →
    (∀ lo hi, dk = .read lo hi → allFrom (fun H => match quietOp so.k t H with | some u => beqS u v | none => false) hs lo hi = true) ∧
    (∀ lo hi, dk = .hoist lo hi → ∀ s b, so.k = .op s → s.isHoist = true → v = s.made b → (∀ ro, s.zeros t = ro → (∃ v' H', evalOp s t noHeap = some (v', H')) ∧ allFrom (rowIs ro.1 ro.2 b) hs lo hi = true))
  | [], _, _, _, i, so, dk, t, v, h, _, _, _ => by simp at h
  | _ :: _, [], _, _, i, so, dk, t, v, _, h, _, _ => by simp at h
  | _ :: _, _ :: _, [], _, i, so, dk, t, v, _, _, h, _ => by simp at h
  | (o, d) :: os, t0 :: tss, v0 :: vs, hr, i, so, dk, t, v, h1, h2, h3, hw => by
    simp only [readsD, Bool.and_eq_true] at hr
    cases i with
    | succ i => exact readsD_facts hr.2 i so dk t v (by simpa using h1) (by simpa using h2) (by simpa using h3) hw
    | zero =>
      simp at h1 h2 h3
      obtain ⟨rfl, rfl⟩ := h1
      subst h2 h3
      have hr := hr.1
      rw [hw] at hr
      refine ⟨fun lo hi e => ?_, fun lo hi e s b hs1 hs2 hv => ?_⟩
      · subst e; exact hr
      · subst e hv
        dsimp only at hr
        rw [hs1] at hr
        cases s with
        | alloc zero e =>
          rintro ro rfl
          exact ⟨⟨_, _, rfl⟩, hr⟩
        | bslice e2 z2 len2 zero2 ps2 =>
          rintro ro rfl
          have hr' : (match fillS t0 zero2 ps2 with | some cs => allFrom (rowIs cs e2 b) hs lo hi | none => false) = true := hr
          split at hr'
          · rename_i cs hf
            refine ⟨⟨.slice 0 0 len2 (some len2) z2, noHeap.push (.row cs e2 true false 0), ?_⟩, ?_⟩
            · simp only [evalOp, hf]
              rfl
            · show allFrom (rowIs ((fillS t0 zero2 ps2).getD []) e2 b) hs lo hi = true
              rw [hf]
              exact hr'
          · cases hr'
        | _ => cases hs2
theorem effsD_get : ∀ (ops : List (SOper × DK)) (k m x : Nat), (effsD ops k)[m]? = some x → ∃ i o, x = k + i ∧ ops[i]? = some (o, .eff) ∧ cntE ops i = m
  | [], k, m, x, h => by simp [effsD] at h
  | (o, dk) :: os, k, m, x, h => by
    have other : cntE ((o, dk) :: os) 1 = 0 → effsD ((o, dk) :: os) k = effsD os (k + 1) → ∃ i o', x = k + i ∧ ((o, dk) :: os)[i]? = some (o', .eff) ∧ cntE ((o, dk) :: os) i = m := by
      intro hz e
      rw [e] at h
      obtain ⟨i, o', h1, h2, h3⟩ := effsD_get os (k + 1) m x h
      refine ⟨i + 1, o', by omega, by simpa using h2, ?_⟩
      simp only [cntE, cnt_zero] at hz ⊢
      omega
    cases dk with
    | eff =>
      simp only [effsD] at h
      cases m with
      | zero => simp at h; subst h; exact ⟨0, o, rfl, rfl, by simp [cntE]⟩
      | succ m =>
        obtain ⟨i, o', h1, h2, h3⟩ := effsD_get os (k + 1) m x (by simpa using h)
        exact ⟨i + 1, o', by omega, by simpa using h2, by simp only [cntE, h3]; omega⟩
    | pure => exact other (by simp [cntE, cnt_zero]) rfl
    | read lo hi => exact other (by simp [cntE, cnt_zero]) rfl
    | hoist lo hi => exact other (by simp [cntE, cnt_zero]) rfl
theorem effsD_length : ∀ (ops : List (SOper × DK)) (k : Nat), (effsD ops k).length = cntE ops ops.length
  | [], k => rfl
  | (o, dk) :: os, k => by cases dk <;> simp [effsD, cntE, effsD_length os, Nat.add_comm]
theorem swapD_facts {ops : List (SOper × DK)} {tss : List T} (h : swapD ops tss = true) : ∃ (i j : Nat) (d e : Option Nat) (n m : Nat) (a x b y : X) (t u : T) (p p' q q' : Nat),
    ops[i]? = some (⟨d, .op (.store n a x), none⟩, .eff) ∧ ops[j]? = some (⟨e, .op (.store m b y), none⟩, .eff) ∧ tss[i]? = some t ∧ tss[j]? = some u ∧ a.ev t = .ptr p p' ∧ b.ev u = .ptr q q' ∧ p ≠ q ∧
    cntE ops i + 2 = cntE ops ops.length ∧ cntE ops j + 1 = cntE ops ops.length := by
  unfold swapD at h
  split at h
  · rename_i j i rest hrev
    have hl := effsD_length ops 0
    have he : effsD ops 0 = rest.reverse ++ [i, j] := by
      have := congrArg List.reverse hrev
      simpa using this
    have hlr : rest.length + 2 = cntE ops ops.length := by rw [← hl, he]; simp
    obtain ⟨i', oi, e1, e2, e3⟩ := effsD_get ops 0 rest.length i (by rw [he]; simp)
    obtain ⟨j', oj, f1, f2, f3⟩ := effsD_get ops 0 (rest.length + 1) j (by rw [he, List.getElem?_append_right (by simp)]; simp)
    have e1' : i = i' := by omega
    have f1' : j = j' := by omega
    subst e1' f1'
    split at h
    · rename_i d n a x dk e m b y dk' t u h1 h2 h3 h4
      split at h
      · rename_i p p' q q' h5 h6
        rw [e2] at h1
        rw [f2] at h2
        cases h1
        cases h2
        refine ⟨i, j, d, e, n, m, a, x, b, y, t, u, p, p', q, q', e2, f2, h3, h4, h5, h6, fun hpq => ?_, by omega, by omega⟩
        subst hpq
        simp at h
      · cases h
    · cases h
  · cases h
end Go.Sh
end
section
namespace Go.Sh
open Go.RowKit (Below)
def dstD (dops : List (SOper × DK)) (i : Nat) : Option Nat := (dops[i]?).bind (·.1.dst)
structure Run (G : Ground) (P : Program) (call : CallS) (ops : Array Oper) (dops : List (SOper × DK)) (A : Nat → List Nat) (sw : Bool) (ts : T) (m : Nat) (H0 Hn G1 G2 : Heap) (hvs : List SV) (tss : List T) (vs : List SV) (hs : List Heap) (tn : T) (hb : Nat → Nat) : Prop where
  fine : Fine P ops dops A sw
  cok : CallOK G P call
  hl : hs.length = cntE dops dops.length + 1
  h0 : hs[0]? = some H0
  t0 : (tss ++ [tn])[0]? = some ts
  tl : tss.length = dops.length
  at_ : ∀ (i : Nat) (o : SOper) (dk : DK), dops[i]? = some (o, dk) → At call dops hvs tss vs hs tn i o dk
  hn : hs[cntE dops dops.length]? = some Hn
  m0 : m ≤ H0.next
  hoist : ∀ (i : Nat) (so : SOper) (lo hi : Nat), dops[i]? = some (so, .hoist lo hi) → m ≤ hb i ∧ hb i < H0.next ∧ ∀ s, so.k = .op s → hvs[i]? = some (s.made (hb i))
  hinj : ∀ (i j : Nat) (so so' : SOper) (lo hi lo' hi' : Nat), i < j → dops[i]? = some (so, .hoist lo hi) → dops[j]? = some (so', .hoist lo' hi') → hb i < hb j
  reads : readsD hs dops tss vs = true
  swp : sw = true → ∃ (i j : Nat) (p q : SOper) (t u : T) (v v' : SV) (h : Heap), dops[i]? = some (p, .eff) ∧ dops[j]? = some (q, .eff) ∧ tss[i]? = some t ∧ tss[j]? = some u ∧ p.guard = none ∧ q.guard = none ∧
    vs[i]? = some v ∧ vs[j]? = some v' ∧ cntE dops i + 2 = cntE dops dops.length ∧ cntE dops j + 1 = cntE dops dops.length ∧ hs[cntE dops i]? = some h ∧
    evalK call q.k u h = some (v', G1) ∧ evalK call p.k t G1 = some (v, G2) ∧ Hn.next = G2.next ∧ ∀ b, Hn.get b = G2.get b
section
variable {G : Ground} {P : Program} {call : CallS} {ops : Array Oper} {dops : List (SOper × DK)} {A : Nat → List Nat} {sw : Bool} {ts : T} {m B : Nat} {H0 Hn G1 G2 : Heap} {hvs : List SV} {tss : List T} {vs : List SV} {hs : List Heap} {tn : T} {hb : Nat → Nat} {φ0 φ : Emb} {w0 w : World} {a : Act} {L : Array Bool} {ds : List Deferred}
abbrev Lst (L : Array Bool) (i : Nat) : Prop := L.getD i false = true
theorem Lst.lt {i : Nat} (h : Lst L i) : i < L.size := by
  unfold Lst at h
  rw [Array.getD_eq_getD_getElem?] at h
  by_cases hi : i < L.size
  · exact hi
  · rw [Array.getElem?_eq_none (Nat.le_of_not_lt hi)] at h; cases h
theorem Lst.set {i j : Nat} (hj : j < L.size) : Lst (L.setIfInBounds j true) i ↔ i = j ∨ Lst L i := by
  by_cases h : i = j
  · subst h
    simp [Lst, Array.getD_eq_getD_getElem?, Array.getElem?_setIfInBounds, hj]
  · simp only [h, false_or, Lst]
    rw [getD_set_ne false (Ne.symm h)]
def HS (dops : List (SOper × DK)) (hs : List Heap) (G1 : Heap) (sw : Bool) (B : Nat) (S : Nat → Prop) (φ : Emb) (h : Heap) (w : World) : Prop :=
  HR φ B h w ∧ ((∃ c, hs[c]? = some h ∧ ∀ (j : Nat) (p : SOper × DK), dops[j]? = some p → isEff p.2 = true → (S j ↔ cntE dops j < c)) ∨
    (sw = true ∧ h = G1 ∧ ∀ (j : Nat) (p : SOper × DK), dops[j]? = some p → isEff p.2 = true → (S j ↔ cntE dops j + 2 ≠ cntE dops dops.length)))
structure Inv (ops : Array Oper) (dops : List (SOper × DK)) (sw : Bool) (ts : T) (m B : Nat) (H0 G1 : Heap) (vs : List SV) (hs : List Heap) (hb : Nat → Nat) (φ0 : Emb) (w0 : World) (ds : List Deferred) (L : Array Bool) (φ : Emb) (a : Act) (w : World) : Prop where
  size : L.size = ops.size
  down : ∀ (j : Nat) (o : Oper), ops[j]? = some o → Lst L j → ∀ e ∈ aft o, Lst L e
  tsz : a.tmps.size = ts.length
  tmps : ∀ t, t < ts.length → ∃ x u, a.tmps[t]? = some u ∧ VR φ x u ∧ Wr (dstD dops) (fun i => vs.getD i SV.undef) (ts.getD t SV.undef) (Lst L) t x
  heap : ∃ h, H0.next ≤ h.next ∧ HS dops hs G1 sw B (Lst L) φ h w
  hst : ∀ (i : Nat) (so : SOper) (lo hi : Nat), dops[i]? = some (so, .hoist lo hi) → ¬ Lst L i → φ (hb i) = none
  ext : φ0.ext φ m
  bel : Below B w0 w
  dfr : a.defers = ds
theorem Run.canon (R : Run G P call ops dops A sw ts m H0 Hn G1 G2 hvs tss vs hs tn hb) : ∀ (j : Nat) (t : T), (tss ++ [tn])[j]? = some t → t.length = ts.length ∧
    ∀ i, i < ts.length → Wr (dstD dops) (fun i => vs.getD i SV.undef) (ts.getD i SV.undef) (· < j) i (t.getD i SV.undef)
  | 0, t, h => by
    rw [R.t0] at h
    cases h
    exact ⟨rfl, fun i _ => .inr ⟨rfl, fun k hk => absurd hk (Nat.not_lt_zero _)⟩⟩
  | j + 1, t, h => by
    have hj : j < dops.length := by
      have := (List.getElem?_eq_some_iff.1 h).1
      simp [R.tl] at this
      omega
    have hd := List.getElem?_eq_getElem hj
    obtain ⟨t', v, hv, hh, p1, p2, p3, p4, p5, p6, p7⟩ := (R.at_ j _ _ hd).ex
    rw [p5] at h
    cases h
    have hp : (tss ++ [tn])[j]? = some t' := by
      rw [List.getElem?_append_left (by rw [R.tl]; exact hj)]; exact p1
    obtain ⟨q1, q2⟩ := R.canon j t' hp
    refine ⟨by rw [putT_length, q1], fun i hi => ?_⟩
    rw [putT_get (by rw [q1]; exact hi)]
    have hdj : dstD dops j = dops[j].1.dst := by simp [dstD, hd]
    split
    · rename_i e
      have hval : v = (fun i => vs.getD i SV.undef) j := by simp [List.getD_eq_getElem?_getD, p2]
      rw [hval]
      exact Wr.new (Nat.lt_succ_self j) (hdj.trans e) fun k hk _ => Nat.le_of_lt_succ hk
    · rename_i e
      refine (q2 i hi).congr fun k hk => ⟨fun h => Nat.lt_succ_of_lt h, fun h => ?_⟩
      rcases Nat.lt_succ_iff_lt_or_eq.1 h with h | h
      · exact h
      · subst h; exact absurd (hdj.symm.trans hk) e
theorem Run.before (R : Run G P call ops dops A sw ts m H0 Hn G1 G2 hvs tss vs hs tn hb) (hd : ∀ (j : Nat) (o : Oper), ops[j]? = some o → Lst L j → ∀ e ∈ aft o, Lst L e) : ∀ (j : Nat) (o : Oper), ops[j]? = some o → (∀ e ∈ aft o, Lst L e) → ∀ x ∈ A j, Lst L x := by
  intro j
  induction j using Nat.strongRecOn with
  | ind j ih =>
    intro o ho ha x hx
    obtain ⟨e, he, h⟩ := R.fine.anc j o ho x hx
    have hlt := R.fine.back j o ho e he
    rcases h with rfl | h
    · exact ha x he
    · have hoe : ops[e]? = some ops[e]! := by
        have : e < ops.size := by have := (Array.getElem?_eq_some_iff.1 ho).1; omega
        rw [getElem!_def, Array.getElem?_eq_getElem this]
      exact ih e hlt _ hoe (hd e _ hoe (ha e he)) x h
theorem Inv.next (R : Run G P call ops dops A sw ts m H0 Hn G1 G2 hvs tss vs hs tn hb) (I : Inv ops dops sw ts m B H0 G1 vs hs hb φ0 w0 ds L φ a w) {j : Nat} {o : Oper} {so : SOper} {dk : DK} {v : SV} {u : Value} {φ' : Emb} {w' : World}
    (ho : ops[j]? = some o) (hd : dops[j]? = some (so, dk)) (haft : ∀ e ∈ aft o, Lst L e) (hnl : ¬ Lst L j) (hv : vs[j]? = some v) (hle : φ.le φ') (hr : VR φ' v u)
    (hheap : ∃ h, H0.next ≤ h.next ∧ HS dops hs G1 sw B (fun i => i = j ∨ Lst L i) φ' h w')
    (hhst : ∀ (i : Nat) (so : SOper) (lo hi : Nat), dops[i]? = some (so, .hoist lo hi) → i ≠ j → ¬ Lst L i → φ' (hb i) = none) (hext : φ0.ext φ' m) (hbel : Below B w w') :
    Inv ops dops sw ts m B H0 G1 vs hs hb φ0 w0 ds (L.setIfInBounds j true) φ' (a.put so.dst u) w' := by
  have hj : j < L.size := by rw [I.size]; exact (Array.getElem?_eq_some_iff.1 ho).1
  have hset := fun i => Lst.set (i := i) hj
  have hpred : Lst (L.setIfInBounds j true) = fun i => i = j ∨ Lst L i := funext fun i => propext (hset i)
  refine ⟨by simp [I.size], ?_, ?_, ?_, ?_, ?_, hext, I.bel.trans hbel, by rw [put_defers]; exact I.dfr⟩
  · intro k ok hk hlk e he
    rcases (hset k).1 hlk with rfl | hlk
    · rw [ho] at hk; cases hk
      exact (hset e).2 (.inr (haft e he))
    · exact (hset e).2 (.inr (I.down k ok hk hlk e he))
  · cases hdst : so.dst <;> simp [Act.put, I.tsz]
  · intro t ht
    obtain ⟨x, y, h1, h2, h3⟩ := I.tmps t ht
    rw [hpred]
    have hdj : dstD dops j = so.dst := by simp [dstD, hd]
    by_cases e : so.dst = some t
    · refine ⟨v, u, ?_, hr, ?_⟩
      · rw [e]
        simp [Act.put, Array.getElem?_setIfInBounds, I.tsz, ht]
      · have hval : v = (fun i => vs.getD i SV.undef) j := by simp [List.getD_eq_getElem?_getD, hv]
        rw [hval]
        refine Wr.new (.inl rfl) (hdj.trans e) fun k hk hdk => ?_
        rcases hk with rfl | hk
        · exact Nat.le_refl _
        · rcases Nat.lt_or_ge j k with hjk | hjk
          · exfalso
            unfold dstD at hdk
            cases hk2 : dops[k]? with
            | none => rw [hk2] at hdk; cases hdk
            | some q =>
              rw [hk2] at hdk
              have hcl : clash so q.1 = true := by
                simp only [Option.bind_some] at hdk
                simp [clash, e, hdk]
              have := R.fine.clash j k (so, dk) q hjk hd hk2 hcl
              have hok : ops[k]? = some ops[k]! := by
                have hlt := (List.getElem?_eq_some_iff.1 hk2).1
                rw [R.fine.len] at hlt
                rw [getElem!_def, Array.getElem?_eq_getElem hlt]
              exact hnl (R.before I.down k _ hok (I.down k _ hok hk) j this)
          · exact hjk
    · refine ⟨x, y, ?_, h2.mono hle, ?_⟩
      · cases hdst : so.dst with
        | none => exact h1
        | some d =>
          have : d ≠ t := fun e' => e (by rw [hdst, e'])
          simp [Act.put, Array.getElem?_setIfInBounds, this, h1]
      · refine h3.congr fun k hk => ⟨.inr, fun h => ?_⟩
        rcases h with rfl | h
        · exact absurd (hdj.symm.trans hk) e
        · exact h
  · obtain ⟨h, h1, h2⟩ := hheap
    exact ⟨h, h1, by rw [hpred]; exact h2⟩
  · intro i so' lo hi hi' hn
    rw [hset i] at hn
    simp only [not_or] at hn
    exact hhst i so' lo hi hi' hn.1 hn.2
theorem wantedS_congr {g : Option (Nat × Bool)} {us t : T} (h : ∀ x b, g = some (x, b) → us.getD x SV.undef = t.getD x SV.undef) : wantedS us g = wantedS t g := by
  cases g with
  | none => rfl
  | some p =>
    obtain ⟨x, b⟩ := p
    simp only [wantedS, h x b rfl]
theorem HS.quiet {S S' : Nat → Prop} {φ' : Emb} {w' : World} {h : Heap} (hh : HS dops hs G1 sw B S φ h w) (hr : HR φ' B h w') (hS : ∀ (j : Nat) (p : SOper × DK), dops[j]? = some p → isEff p.2 = true → (S j ↔ S' j)) : HS dops hs G1 sw B S' φ' h w' := by
  refine ⟨hr, ?_⟩
  rcases hh.2 with ⟨c, h1, h2⟩ | ⟨h1, h2, h3⟩
  · exact .inl ⟨c, h1, fun j p hp he => (hS j p hp he).symm.trans (h2 j p hp he)⟩
  · exact .inr ⟨h1, h2, fun j p hp he => (hS j p hp he).symm.trans (h3 j p hp he)⟩
end
end Go.Sh
end
section
namespace Go.Sh
open Go.RowKit (Below)
section
variable {G : Ground} {P : Program} {call : CallS} {ops : Array Oper} {dops : List (SOper × DK)} {A : Nat → List Nat} {sw : Bool} {ts : T} {m B : Nat} {H0 Hn G1 G2 : Heap} {hvs : List SV} {tss : List T} {vs : List SV} {hs : List Heap} {tn : T} {hb : Nat → Nat} {φ0 φ : Emb} {w0 w : World} {a : Act} {L : Array Bool} {ds : List Deferred}
  {Q : Exit → Act → World → Prop} {K : Act → World → Prop}
theorem Run.step (R : Run G P call ops dops A sw ts m H0 Hn G1 G2 hvs tss vs hs tn hb) (I : Inv ops dops sw ts m B H0 G1 vs hs hb φ0 w0 ds L φ a w) (hg0 : G.p φ0 B w0) {j : Nat} (hr : j ∈ Region.ready .any ops L)
    (hK : ∀ φ' a' w', Inv ops dops sw ts m B H0 G1 vs hs hb φ0 w0 ds (L.setIfInBounds j true) φ' a' w' → K a' w') : wpOp P ops Q j K a w := by
  rw [mem_ready] at hr
  obtain ⟨hl, o, ho, hbind⟩ := hr
  have haft : ∀ e ∈ aft o, Lst L e := by
    intro e he
    unfold aft at he
    simp only [List.mem_map, List.mem_filter] at he
    obtain ⟨e', ⟨h1, h2⟩, rfl⟩ := he
    exact hbind e' (by simpa using h1) h2
  have hjs : j < ops.size := (Array.getElem?_eq_some_iff.1 ho).1
  have hnl : ¬ Lst L j := by
    intro h
    have : j < L.size := by rw [I.size]; exact hjs
    unfold Lst at h
    rw [Array.getD_eq_getD_getElem?, Array.getElem?_eq_getElem this] at h hl
    simp only [Option.getD_some] at h hl
    rw [hl] at h; cases h
  obtain ⟨so, dk, hd, hso⟩ := R.fine.comp j o ho
  obtain ⟨hck, hdst⟩ := compOper_k hso
  have hA := R.before I.down j o ho haft
  have hopk : ∀ (k : Nat) (q : SOper × DK), dops[k]? = some q → ops[k]? = some ops[k]! := by
    intro k q hk
    have hlt := (List.getElem?_eq_some_iff.1 hk).1
    rw [R.fine.len] at hlt
    rw [getElem!_def, Array.getElem?_eq_getElem hlt]
  have hS : ∀ (k : Nat) (q : SOper × DK), dops[k]? = some q → j ∈ A k → ¬ Lst L k := by
    intro k q hk hjk hlk
    exact hnl (R.before I.down k _ (hopk k q hk) (I.down k _ (hopk k q hk) hlk) j hjk)
  obtain ⟨t, v, hv, hh, p1, p2, p3, p4, p5, p6, p7⟩ := (R.at_ j so dk hd).ex
  have hjd : j < dops.length := (List.getElem?_eq_some_iff.1 hd).1
  have htp : (tss ++ [tn])[j]? = some t := by rw [List.getElem?_append_left (by rw [R.tl]; exact hjd)]; exact p1
  obtain ⟨htl, hcan⟩ := R.canon j t htp
  obtain ⟨us, hul, hup⟩ := pickL (n := ts.length) (p := fun i x => ∃ u, a.tmps[i]? = some u ∧ VR φ x u ∧ Wr (dstD dops) (fun i => vs.getD i SV.undef) (ts.getD i SV.undef) (Lst L) i x)
    (fun i hi => let ⟨x, u, h⟩ := I.tmps i hi; ⟨x, u, h⟩)
  have hvr : VRL φ us a.tmps.toList := by
    refine VRL.mk (by rw [hul]; simp [I.tsz]) fun i x hi => ?_
    have hlt : i < ts.length := by rw [← hul]; exact (List.getElem?_eq_some_iff.1 hi).1
    obtain ⟨u, h1, h2, _⟩ := hup i hlt
    rw [List.getD_eq_getElem?_getD, hi] at h2
    exact ⟨u, by simpa using h1, h2⟩
  have hag : Agree so.looks us t := by
    intro x hx
    by_cases hlt : x < ts.length
    · obtain ⟨u, _, _, h3⟩ := hup x hlt
      refine h3.det (hcan x hlt) fun k hk => ?_
      have hk' : ∃ q, dops[k]? = some q ∧ q.1.dst = some x := by
        unfold dstD at hk
        cases e : dops[k]? with
        | none => rw [e] at hk; cases hk
        | some q => rw [e] at hk; exact ⟨q, rfl, by simpa using hk⟩
      obtain ⟨q, hq, hqd⟩ := hk'
      rcases Nat.lt_trichotomy k j with hkj | rfl | hkj
      · have hcl : clash q.1 so = true := by simp [clash, hqd, hx]
        exact ⟨fun _ => hkj, fun _ => hA k (R.fine.clash k j q (so, dk) hkj hq hd hcl)⟩
      · exact ⟨fun h => absurd h hnl, fun h => absurd h (Nat.lt_irrefl _)⟩
      · have hcl : clash so q.1 = true := by simp [clash, hqd, hx]
        exact ⟨fun h => absurd h (hS k q hq (R.fine.clash j k (so, dk) q hkj hd hq hcl)), fun h => by omega⟩
    · rw [List.getD_eq_getElem?_getD, List.getD_eq_getElem?_getD, List.getElem?_eq_none (by omega), List.getElem?_eq_none (by omega)]
  have hwant : Region.wanted o (yielded ops a.tmps) = wantedS t so.guard := by
    rw [wanted_ok hso hvr]
    refine wantedS_congr fun x b hg => hag x ?_
    simp [SOper.looks, hg]
  have hagk : Agree so.k.tm us t := fun x hx => hag x (by simp only [SOper.looks, List.mem_append]; exact .inr hx)
  obtain ⟨h, hn0, hHS⟩ := I.heap
  have hHR := hHS.1
  have goOn : ∀ (h' : Heap), wantedS t so.guard = true → evalK call so.k t h = some (v, h') →
      (∀ φ' w', HR φ' B h' w' → H0.next ≤ h'.next → ∃ g, H0.next ≤ g.next ∧ HS dops hs G1 sw B (fun i => i = j ∨ Lst L i) φ' g w') → wpOp P ops Q j K a w := by
    intro h' hw hev hfin
    unfold wpOp
    rw [ho]
    dsimp only
    rw [if_pos (by rw [hwant, hw])]
    rw [← evalK_congr hagk] at hev
    refine .inl (wpK (w := w) R.cok hck hvr ⟨hHR, G.st _ _ _ _ _ hg0 I.ext.1 I.bel⟩ hev fun φ' u w' hn1 h1 h2 h3 h4 => ?_)
    rw [← hdst]
    refine hK φ' _ w' (I.next R ho hd haft hnl p2 h1.1 h2 (hfin φ' w' h3.1 (Nat.le_trans hn0 hn1)) ?_ (I.ext.trans h1 (Nat.le_trans R.m0 hn0)) h4)
    intro i so' lo hi hi' _ hnli
    cases hx : φ' (hb i) with
    | none => rfl
    | some l =>
      exfalso
      rcases h1.2 _ _ hx with h5 | h5
      · rw [I.hst i so' lo hi hi' hnli] at h5; cases h5
      · have := (R.hoist i so' lo hi hi').2.1; omega
  have skip : wantedS t so.guard = false → (∃ g, H0.next ≤ g.next ∧ HS dops hs G1 sw B (fun i => i = j ∨ Lst L i) φ g w) → wpOp P ops Q j K a w := by
    intro hw hfin
    unfold wpOp
    rw [ho]
    dsimp only
    rw [if_neg (by rw [hwant, hw]; simp), ← hdst]
    have hvu := (p6 hw).1
    subst hvu
    exact hK φ _ w (I.next R ho hd haft hnl p2 (Emb.le.refl φ) (VR.undef φ) hfin (fun i so' lo hi hi' _ hnli => I.hst i so' lo hi hi' hnli) I.ext (Below.refl _ _))
  have hquiet : isEff dk = false → ∀ (k : Nat) (q : SOper × DK), dops[k]? = some q → isEff q.2 = true → (Lst L k ↔ (k = j ∨ Lst L k)) := by
    intro hne k q hk he
    refine ⟨.inr, fun h => h.elim (fun e => ?_) id⟩
    subst e
    rw [hd] at hk
    cases hk
    rw [hne] at he; cases he
  have hplace : ∀ lo hi, (dk = .read lo hi ∨ dk = .hoist lo hi) → ∃ c, hs[c]? = some h ∧ lo ≤ c ∧ c ≤ hi := by
    intro lo hi hdk
    rcases hHS.2 with ⟨c, hc, hiff⟩ | ⟨hsw, hmid, hiff⟩
    · refine ⟨c, hc, ?_, ?_⟩
      · rcases R.fine.lo j (so, dk) lo hi hd hdk with h0 | ⟨k, q, h1, h2, h3, h4⟩
        · omega
        · have := (hiff k q h1 h2).1 (hA k h3)
          omega
      · have hcl : c < hs.length := (List.getElem?_eq_some_iff.1 hc).1
        rw [R.hl] at hcl
        rcases R.fine.hi j (so, dk) lo hi hd hdk with h0 | ⟨k, q, h1, h2, h3, h4⟩
        · omega
        · rcases Nat.lt_or_ge hi c with hlt | hge
          · exact absurd ((hiff k q h1 h2).2 (by omega)) (hS k q h1 h3)
          · exact hge
    · exfalso
      obtain ⟨i1, i2, q1, q2, t1, t2, v1, v2, hx, e1, e2, e3, e4, e5, e6, e7, e8, e9, e10, e11⟩ := R.swp hsw
      rcases R.fine.swap j (so, dk) lo hi hd hdk hsw with h1 | h1
      · exact ((hiff i1 _ e1 rfl).1 (hA i1 (h1 i1 _ e1 rfl (by omega)))) e9
      · exact hS i2 _ e2 (h1 i2 _ e2 rfl (by omega)) ((hiff i2 _ e2 rfl).2 (by omega))
  cases dk with
  | pure =>
    cases hw : wantedS t so.guard with
    | false => exact skip hw ⟨h, hn0, hHS.quiet hHR (hquiet rfl)⟩
    | true =>
      obtain ⟨s, hs1, hs2⟩ := R.fine.pure j so hd
      have := p7 hw
      dsimp only at this
      simp only [quietOp, hs1] at this
      split at this
      · rename_i v' H' hev
        cases this
        refine goOn h hw ?_ fun φ' w' g1 g2 => ⟨h, g2, hHS.quiet g1 (hquiet rfl)⟩
        rw [hs1]
        exact pure_any hs2 hev h
      · cases this
  | read lo hi =>
    cases hw : wantedS t so.guard with
    | false => exact skip hw ⟨h, hn0, hHS.quiet hHR (hquiet rfl)⟩
    | true =>
      obtain ⟨s, hs1, hs2⟩ := R.fine.read j so lo hi hd
      obtain ⟨c, hc, hlo, hhi⟩ := hplace lo hi (.inl rfl)
      have := allFrom_get ((readsD_facts R.reads j so _ t v hd p1 p2 hw).1 lo hi rfl) hlo hhi hc
      split at this
      · rename_i u hq
        have := beqS_eq this
        subst this
        simp only [quietOp, hs1] at hq
        split at hq
        · rename_i v' H' hev
          cases hq
          have := read_heap hs2 hev
          subst this
          exact goOn H' hw (by rw [hs1]; exact hev) fun φ' w' g1 g2 => ⟨H', g2, hHS.quiet g1 (hquiet rfl)⟩
        · cases hq
      · cases this
  | hoist lo hi =>
    obtain ⟨⟨s, hs1, hs2⟩, hg⟩ := R.fine.hoist j so lo hi hd
    have hw : wantedS t so.guard = true := by rw [hg]; rfl
    obtain ⟨c, hc, hlo, hhi⟩ := hplace lo hi (.inr rfl)
    have hvv := p7 hw
    dsimp only at hvv
    obtain ⟨hb1, hb2, hb3⟩ := R.hoist j so lo hi hd
    have hvs' := hb3 s hs1
    rw [p3] at hvs'
    have hvm : v = s.made (hb j) := by rw [hvv]; exact Option.some.inj hvs'
    have hags : Agree s.tm us t := by
      have := hagk
      rw [hs1] at this
      exact this
    have hzz : s.zeros us = s.zeros t := by
      cases s with
      | bslice e z len zero ps =>
        have hx : Agree (ps.flatMap fun p => p.2.2.tm) us t := hags
        show ((fillS us zero ps).getD [], e) = ((fillS t zero ps).getD [], e)
        rw [fillS_congr hx]
      | _ => rfl
    obtain ⟨⟨v1, HH1, hev1⟩, hall⟩ := (readsD_facts R.reads j so _ t v hd p1 p2 hw).2 lo hi rfl s (hb j) hs1 hs2 hvm _ rfl
    have hrow := rowIs_facts (allFrom_get hall hlo hhi hc)
    rw [← evalOp_congr hags] at hev1
    rw [← hzz] at hrow
    rw [hs1] at hck
    obtain ⟨φ1, u, w', g1, g2, g3, g4, g5, g6⟩ := hoist_ok (a := a) hck hs2 hvr hHR (I.hst j so lo hi hd hnl) (by omega) hev1 hrow.1 hrow.2
    rw [← hvm] at g5
    unfold wpOp
    rw [ho]
    dsimp only
    rw [if_pos (by rw [hwant, hw])]
    left
    unfold Oper.wp
    rw [g1]
    show K (a.put o.dst u) w'
    rw [← hdst]
    refine hK φ1 _ w' (I.next R ho hd haft hnl p2 g2 g5 ⟨h, hn0, hHS.quiet g4 (hquiet rfl)⟩ ?_ ?_ g6)
    · intro i so' lo' hi' hi'' hij hnli
      have hne : hb i ≠ hb j := by
        intro e
        rcases Nat.lt_or_gt_of_ne hij with hlt | hlt
        · have := R.hinj i j so' so lo' hi' lo hi hlt hi'' hd; omega
        · have := R.hinj j i so so' lo hi lo' hi' hlt hd hi''; omega
      rw [g3 _ hne]
      exact I.hst i so' lo' hi' hi'' hnli
    · refine ⟨fun b l hx => g2 b l (I.ext.1 b l hx), fun b l hx => ?_⟩
      by_cases e : b = hb j
      · exact .inr (by omega)
      · rw [g3 b e] at hx
        exact I.ext.2 b l hx
  | eff =>
    rcases hHS.2 with ⟨c, hc, hiff⟩ | ⟨hsw, hmid, hiff⟩
    · have hge : c ≤ cntE dops j := by
        rcases Nat.lt_or_ge (cntE dops j) c with h1 | h1
        · exact absurd ((hiff j _ hd rfl).2 h1) hnl
        · exact h1
      rcases Nat.lt_or_ge c (cntE dops j) with hlt | hle
      · -- the last effect before the last but one
        obtain ⟨i, oi, h1, h2, h3⟩ := cnt_hit dops j c hlt
        have hnli : ¬ Lst L i := fun h => by have := (hiff i _ h2 rfl).1 h; omega
        rcases R.fine.effs i j _ _ h1 h2 hd rfl rfl with h4 | ⟨hsw, h5, h6⟩
        · exact absurd (hA i h4) hnli
        · obtain ⟨i1, i2, q1, q2, t1, t2, v1, v2, hx, e1, e2, e3, e4, e5, e6, e7, e8, e9, e10, e11, e12, e13, e14⟩ := R.swp hsw
          have ej : i2 = j := cnt_inj e2 hd rfl rfl (by omega)
          subst ej
          rw [hd] at e2
          cases e2
          rw [p1] at e4
          cases e4
          rw [p2] at e8
          cases e8
          have ehx : hx = h := by
            have : cntE dops i1 = c := by omega
            rw [this, hc] at e11
            exact (Option.some.inj e11).symm
          subst ehx
          refine goOn G1 (by rw [e6]; rfl) e12 fun φ' w' g1 g2 => ⟨G1, g2, g1, .inr ⟨hsw, rfl, fun k q hk he => ?_⟩⟩
          have hkl := cnt_lt hk he
          constructor
          · rintro (rfl | hkk)
            · omega
            · have := (hiff k q hk he).1 hkk; omega
          · intro hne
            by_cases hkj : k = i2
            · exact .inl hkj
            · refine .inr ((hiff k q hk he).2 ?_)
              have : cntE dops k ≠ cntE dops i2 := fun e => hkj (cnt_inj hk hd he rfl e)
              omega
      · have hcj : cntE dops j = c := Nat.le_antisymm hle hge
        rw [hcj, hc] at p4
        cases p4
        have hnew : ∀ (k : Nat) (q : SOper × DK), dops[k]? = some q → isEff q.2 = true → ((k = j ∨ Lst L k) ↔ cntE dops k < c + 1) := by
          intro k q hk he
          constructor
          · rintro (rfl | hkk)
            · omega
            · have := (hiff k q hk he).1 hkk; omega
          · intro hlt
            by_cases hkj : k = j
            · exact .inl hkj
            · refine .inr ((hiff k q hk he).2 ?_)
              have : cntE dops k ≠ cntE dops j := fun e => hkj (cnt_inj hk hd he rfl e)
              omega
        cases hw : wantedS t so.guard with
        | false =>
          have := (p6 hw).2 rfl
          rw [hcj] at this
          exact skip hw ⟨_, hn0, hHR, .inl ⟨c + 1, this, hnew⟩⟩
        | true =>
          obtain ⟨h', h1, h2⟩ := p7 hw
          rw [hcj] at h2
          exact goOn h' hw h1 fun φ' w' g1 g2 => ⟨h', g2, g1, .inl ⟨c + 1, h2, hnew⟩⟩
    · obtain ⟨i1, i2, q1, q2, t1, t2, v1, v2, hx, e1, e2, e3, e4, e5, e6, e7, e8, e9, e10, e11, e12, e13, e14, e15⟩ := R.swp hsw
      have hcj : cntE dops j + 2 = cntE dops dops.length := by
        by_cases e : cntE dops j + 2 = cntE dops dops.length
        · exact e
        · exact absurd ((hiff j _ hd rfl).2 e) hnl
      have ej : i1 = j := cnt_inj e1 hd rfl rfl (by omega)
      subst ej
      rw [hd] at e1
      cases e1
      rw [p1] at e3
      cases e3
      rw [p2] at e7
      cases e7
      subst hmid
      refine goOn G2 (by rw [e5]; rfl) e13 fun φ' w' g1 g2 => ⟨Hn, by omega, g1.same e14 e15, .inl ⟨_, R.hn, fun k q hk he => ?_⟩⟩
      have hkl := cnt_lt hk he
      refine ⟨fun _ => hkl, fun _ => ?_⟩
      by_cases hkj : k = i1
      · exact .inl hkj
      · refine .inr ((hiff k q hk he).2 fun e => hkj (cnt_inj hk hd he rfl (by omega)))
theorem Run.all (R : Run G P call ops dops A sw ts m H0 Hn G1 G2 hvs tss vs hs tn hb) (hg0 : G.p φ0 B w0) (hT : ∀ φ' a' w', m ≤ Hn.next → φ0.ext φ' m → VRL φ' tn a'.tmps.toList → HR φ' B Hn w' → Below B w0 w' → a'.defers = ds → Q .normal a' w') :
    ∀ (fuel : Nat) (U : List Nat) (L : Array Bool) (φ : Emb) (a : Act) (w : World), U.length ≤ fuel → (∀ j, j < ops.size → ¬ Lst L j → j ∈ U) → Inv ops dops sw ts m B H0 G1 vs hs hb φ0 w0 ds L φ a w → wpAny P .any ops Q fuel L a w := by
  have fin : ∀ (L : Array Bool) (φ : Emb) (a : Act) (w : World), Inv ops dops sw ts m B H0 G1 vs hs hb φ0 w0 ds L φ a w → (∀ j, j < ops.size → Lst L j) → Q .normal a w := by
    intro L φ a w I hall
    obtain ⟨h, hn0, hHS⟩ := I.heap
    have hop : ∀ (k : Nat) (q : SOper × DK), dops[k]? = some q → k < ops.size := by
      intro k q hk
      have := (List.getElem?_eq_some_iff.1 hk).1
      rw [R.fine.len] at this
      exact this
    have hh : h = Hn := by
      rcases hHS.2 with ⟨c, hc, hiff⟩ | ⟨hsw, hmid, hiff⟩
      · have hcl : c < hs.length := (List.getElem?_eq_some_iff.1 hc).1
        rw [R.hl] at hcl
        have : c = cntE dops dops.length := by
          rcases Nat.lt_or_ge c (cntE dops dops.length) with hlt | hge
          · obtain ⟨i, oi, h1, h2, h3⟩ := cnt_hit dops dops.length c hlt
            have := (hiff i _ h2 rfl).1 (hall i (hop i _ h2))
            omega
          · omega
        rw [this, R.hn] at hc
        exact (Option.some.inj hc).symm
      · exfalso
        obtain ⟨i1, i2, q1, q2, t1, t2, v1, v2, hx, e1, e2, e3, e4, e5, e6, e7, e8, e9, e10⟩ := R.swp hsw
        exact (hiff i1 _ e1 rfl).1 (hall i1 (hop i1 _ e1)) e9
    subst hh
    obtain ⟨htl, hcan⟩ := R.canon dops.length tn (by rw [List.getElem?_append_right (by rw [R.tl]; exact Nat.le_refl _), R.tl]; simp)
    refine hT φ a w (Nat.le_trans R.m0 hn0) I.ext (VRL.mk (by rw [htl]; simp [I.tsz]) fun i x hi => ?_) hHS.1 I.bel I.dfr
    have hlt : i < ts.length := by rw [← htl]; exact (List.getElem?_eq_some_iff.1 hi).1
    obtain ⟨y, u, h1, h2, h3⟩ := I.tmps i hlt
    have he := h3.det (hcan i hlt) fun k hk => by
      have hk' : ∃ q, dops[k]? = some q := by
        unfold dstD at hk
        cases e : dops[k]? with
        | none => rw [e] at hk; cases hk
        | some q => exact ⟨q, rfl⟩
      obtain ⟨q, hq⟩ := hk'
      exact ⟨fun _ => (List.getElem?_eq_some_iff.1 hq).1, fun _ => hall k (hop k q hq)⟩
    rw [List.getD_eq_getElem?_getD, hi] at he
    simp only [Option.getD_some] at he
    subst he
    exact ⟨u, by simpa using h1, h2⟩
  intro fuel
  induction fuel with
  | zero =>
    intro U L φ a w hU hU' I
    have : U = [] := List.eq_nil_of_length_eq_zero (by omega)
    subst this
    have hall : ∀ j, j < ops.size → Lst L j := fun j hj => by
      by_cases h : Lst L j
      · exact h
      · exact absurd (hU' j hj h) (by simp)
    refine ⟨?_, fin L φ a w I hall⟩
    apply List.eq_nil_iff_forall_not_mem.2
    intro j hj
    rw [mem_ready] at hj
    obtain ⟨h1, o, ho, _⟩ := hj
    have hjs : j < ops.size := (Array.getElem?_eq_some_iff.1 ho).1
    have h2 := hall j hjs
    have : j < L.size := by rw [I.size]; exact hjs
    unfold Lst at h2
    rw [Array.getD_eq_getD_getElem?, Array.getElem?_eq_getElem this] at h1 h2
    simp only [Option.getD_some] at h1 h2
    rw [h1] at h2; cases h2
  | succ fuel ih =>
    intro U L φ a w hU hU' I
    refine ⟨fun hnil => fin L φ a w I ?_, fun j hj => R.step I hg0 hj fun φ' a' w' I' => ?_⟩
    · intro j
      induction j using Nat.strongRecOn with
      | ind j ihj =>
        intro hjs
        by_cases h : Lst L j
        · exact h
        · exfalso
          have hmem : j ∈ Region.ready .any ops L := by
            rw [mem_ready]
            refine ⟨?_, ops[j], Array.getElem?_eq_getElem hjs, fun e he hbnd => ?_⟩
            · have : j < L.size := by rw [I.size]; exact hjs
              unfold Lst at h
              rw [Array.getD_eq_getD_getElem?, Array.getElem?_eq_getElem this] at h ⊢
              simpa using h
            · have hea : e.on ∈ aft ops[j] := by
                unfold aft
                simp only [List.mem_map, List.mem_filter]
                exact ⟨e, ⟨by simpa using he, hbnd⟩, rfl⟩
              have hlt := R.fine.back j _ (Array.getElem?_eq_getElem hjs) e.on hea
              exact ihj e.on hlt (by omega)
          rw [hnil] at hmem
          cases hmem
    · have hjm := (mem_ready.1 hj)
      obtain ⟨h1, o, ho, _⟩ := hjm
      have hjs : j < ops.size := (Array.getElem?_eq_some_iff.1 ho).1
      have hjl : j < L.size := by rw [I.size]; exact hjs
      have hnl : ¬ Lst L j := by
        intro h
        unfold Lst at h
        rw [Array.getD_eq_getD_getElem?, Array.getElem?_eq_getElem hjl] at h h1
        simp only [Option.getD_some] at h h1
        rw [h1] at h; cases h
      have hjU := hU' j hjs hnl
      refine ih (U.erase j) _ φ' a' w' (by rw [List.length_erase_of_mem hjU]; omega) (fun k hk hnk => ?_) I'
      rw [Lst.set hjl] at hnk
      simp only [not_or] at hnk
      exact (List.mem_erase_of_ne hnk.1).2 (hU' k hk hnk.2)
end
end Go.Sh
end
section
namespace Go.Sh
open Go.RowKit (Below)
theorem storeD_eval {n : Nat} {a x : X} {ts : T} {H H' : Heap} {v : SV} {p p' : Nat} {call : CallS} (ha : a.ev ts = .ptr p p') (h : evalK call (.op (.store n a x)) ts H = some (v, H')) : v = .undef ∧ Nat.beq (x.ev ts).cells.length n = true ∧ storeC H p p' (x.ev ts).cells = some H' := by
  simp only [evalK, evalOp, ha] at h
  split at h
  · rename_i hb
    split at h
    · rename_i H1 hs
      cases h
      exact ⟨rfl, hb, hs⟩
    · cases h
  · cases h
theorem storeD_mk {n : Nat} {a x : X} {ts : T} {H H' : Heap} {p p' : Nat} {call : CallS} (ha : a.ev ts = .ptr p p') (hb : Nat.beq (x.ev ts).cells.length n = true) (h : storeC H p p' (x.ev ts).cells = some H') : evalK call (.op (.store n a x)) ts H = some (.undef, H') := by
  simp only [evalK, evalOp, ha, hb, h]
theorem draw_ok {G : Ground} {P : Program} (hm : P.follows .mixedOrders = true) {call : CallS} (hcall : CallOK G P call) : DrawOK G P call := by
  intro φ B H H' w ts ts' a ops dops swap id Q ds hc he ht hh hd hT
  obtain ⟨A, hfine⟩ := compD_fine hc
  unfold evalD at he
  split at he
  · cases he
  · rename_i hvs H0 hho
    split at he
    · cases he
    · rename_i tss vs hs tn htx
      split at he
      · cases he
      · rename_i hchk
        split at he
        · rename_i Hn hlast
          simp only [Option.some.injEq, Prod.mk.injEq] at he
          obtain ⟨rfl, rfl⟩ := he
          simp only [Bool.and_eq_true, Bool.or_eq_true, Bool.not_eq_true'] at hchk
          obtain ⟨hrd, hsw⟩ := hchk
          obtain ⟨m0, hH0, hb, hb1, hb2⟩ := hoistD_facts dops ts H hvs H0 hho fun i so lo hi h => (hfine.hoist i so lo hi h).1
          obtain ⟨q1, q2, q3, q4, q5, q6⟩ := textD_facts dops hvs ts H0 tss vs hs tn htx
          have hn : hs[cntE dops dops.length]? = some Hn := by
            rw [List.getLast?_eq_getElem?, q3] at hlast
            simpa using hlast
          have hswp : ∃ G1 G2, swap = true → ∃ (i j : Nat) (p q : SOper) (t u : T) (v v' : SV) (h : Heap), dops[i]? = some (p, .eff) ∧ dops[j]? = some (q, .eff) ∧ tss[i]? = some t ∧ tss[j]? = some u ∧ p.guard = none ∧ q.guard = none ∧
              vs[i]? = some v ∧ vs[j]? = some v' ∧ cntE dops i + 2 = cntE dops dops.length ∧ cntE dops j + 1 = cntE dops dops.length ∧ hs[cntE dops i]? = some h ∧
              evalK call q.k u h = some (v', G1) ∧ evalK call p.k t G1 = some (v, G2) ∧ Hn.next = G2.next ∧ ∀ b, Hn.get b = G2.get b := by
            cases swap with
            | false => exact ⟨H, H, fun e => by cases e⟩
            | true =>
              rcases hsw with h | h
              · cases h
              · obtain ⟨i, j, d, e, n, m, x, x', y, y', t, u, p, p', q, q', e1, e2, e3, e4, e5, e6, e7, e8, e9⟩ := swapD_facts h
                obtain ⟨t0, v, hv, h0, p1, p2, p3, p4, _, _, p7⟩ := (q6 i _ _ e1).ex
                obtain ⟨u0, v', hv', h1, r1, r2, r3, r4, _, _, r7⟩ := (q6 j _ _ e2).ex
                rw [e3] at p1; cases p1
                rw [e4] at r1; cases r1
                obtain ⟨h1', s1, s2⟩ := p7 rfl
                obtain ⟨h2', s3, s4⟩ := r7 rfl
                have ec : cntE dops i + 1 = cntE dops j := by omega
                rw [ec, r4] at s2
                cases s2
                rw [e9, hn] at s4
                cases s4
                obtain ⟨v1, b1, c1⟩ := storeD_eval e5 s1
                obtain ⟨v2, b2, c2⟩ := storeD_eval e6 s3
                obtain ⟨G1, G2, g1, g2, g3, g4⟩ := storeC_swap c1 c2 e7
                subst v1 v2
                exact ⟨G1, G2, fun _ => ⟨i, j, _, _, t, u, _, _, h0, e1, e2, e3, e4, rfl, rfl, p2, r2, e8, e9, p4, storeD_mk e6 b2 g1, storeD_mk e5 b1 g2, g3, g4⟩⟩
          obtain ⟨G1, G2, hswp⟩ := hswp
          have R : Run G P call ops dops A swap ts H.next H0 Hn G1 G2 hvs tss vs hs tn hb :=
            { fine := hfine, cok := hcall, hl := q3, h0 := q4, t0 := q5, tl := q1, at_ := q6, hn := hn, m0 := m0, hoist := hb1, hinj := hb2, reads := hrd, swp := hswp }
          refine wp_region_any hm ?_
          have hh0 : HR φ B H0 { w with drawn := w.drawn + 1 } := (hH0 φ B w hh.1).world (Nat.le_refl _) fun _ _ => rfl
          have hno : ∀ i, ¬ Lst (Array.replicate ops.size false) i := by
            intro i h
            unfold Lst at h
            rw [Array.getD_eq_getD_getElem?, Array.getElem?_replicate] at h
            split at h <;> cases h
          refine R.all (B := B) (φ0 := φ) (w0 := w) (ds := ds) hh.2 (fun φ' a' w' h1 h2 h3 h4 h5 h6 => hT φ' a' w' h1 h2 h3 ⟨h4, G.st _ _ _ _ _ hh.2 h2.1 h5⟩ h5 h6) ops.size (List.range ops.size) _ φ a _ (by simp) (fun j hj _ => by simpa using hj) ?_
          refine ⟨by simp, fun j o _ hl => absurd hl (hno j), ?_, ?_, ?_, ?_, Emb.ext.refl φ _, ?_, hd⟩
          · have := ht.length
            simpa using this.symm
          · intro t hlt
            obtain ⟨u, h1, h2⟩ := ht.get t ts[t] (List.getElem?_eq_getElem hlt)
            refine ⟨ts[t], u, by simpa using h1, h2, .inr ⟨by simp [List.getD_eq_getElem?_getD, hlt], fun i hi => absurd hi (hno i)⟩⟩
          · refine ⟨H0, Nat.le_refl _, hh0, .inl ⟨0, q4, fun j p _ _ => ⟨fun h => absurd h (hno j), fun h => absurd h (Nat.not_lt_zero _)⟩⟩⟩
          · intro i so lo hi hi' _
            cases hx : φ (hb i) with
            | none => rfl
            | some l =>
              have h1 := (hh.1.dom _ _ hx).1
              have h2 := (hb1 i so lo hi hi').1
              omega
          · exact ⟨rfl, rfl, rfl, Nat.le_refl _, fun _ _ => rfl⟩
        · cases he
theorem shadow_ok {G : Ground} {P : Program} (hm : P.follows .mixedOrders = true) {tab : FuncId → Option SFun} (htab : TabOK G P tab) (lf n : Nat) : CallOK G P (callS tab lf n) :=
  callS_ok htab (fun _ h => draw_ok hm h) n
end Go.Sh
end
