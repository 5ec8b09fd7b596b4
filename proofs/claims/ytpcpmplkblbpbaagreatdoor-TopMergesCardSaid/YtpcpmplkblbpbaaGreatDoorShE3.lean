/-
  The plain law of TopMerges: the units of a text, and the text of units.
-/
import Derived.Test.YtpcpmplkblbpbaaGreatDoorShE2
import Derived.Test.YtpcpmplkblbpbaaGreatDoorShC8
import Derived.Test.YtpcpmplkblbpbaaGreatDoorShD8
set_option linter.all false
section
namespace Go.Sh
set_option maxRecDepth 10000
set_option linter.all false
/-! ### The units of a text by its lines -/
def cutL : List (List Nat) → List Nat → List Nat × List (List Nat × List Nat)
  | [], last => (last, [])
  | l :: ls, last => if isH l = true then ([], ((headF l).2.1, l ++ 10 :: (cutL ls last).1) :: (cutL ls last).2) else (l ++ 10 :: (cutL ls last).1, (cutL ls last).2)
def numU : List (List Nat) → List (List Nat × List Nat) → List Un
  | _, [] => []
  | seen, p :: us => ⟨p.1, seen.count p.1, p.2⟩ :: numU (seen ++ [p.1]) us
def nextF (tot : Nat) (S : List Sec) : Nat := match S with
  | [] => tot
  | y :: _ => y.frm
theorem unitsFrom_next (s : List Nat) (seen : List (List Nat)) (x : Sec) (S : List Sec) : unitsFrom s seen (x :: S) = ⟨x.title, seen.count x.title, (s.drop x.frm).take (nextF s.length S - x.frm)⟩ :: unitsFrom s (seen ++ [x.title]) S := by
  rw [unitsFrom_cons]
  cases S <;> rfl
theorem unitsFrom_secs (s : List Nat) : ∀ (L : List Sec) (seen : List (List Nat)), unitsFrom s seen (secsF L) = unitsFrom s seen L
  | [], _ => rfl
  | x :: L, seen => by
    have ih := unitsFrom_secs s L
    rw [secsF, unitsFrom_next, unitsFrom_next, ih]
    have : nextF s.length (secsF L) = nextF s.length L := by cases L <;> rfl
    rw [this]
theorem cut_of {tot : Nat} {last : List Nat} (hl : last = [] ∨ isH last = false) : ∀ (ls : List (List Nat)) (pre : List Nat) (seen : List (List Nat)) (s : List Nat), s = pre ++ textL ls last →
    unitsFrom s seen (headsL tot pre.length ls last) = numU seen (cutL ls last).2 ∧ nextF s.length (headsL tot pre.length ls last) = pre.length + (cutL ls last).1.length ∧ ∃ r, textL ls last = (cutL ls last).1 ++ r ∧ ((cutL ls last).2 = [] → r = [])
  | [], pre, seen, s, hs => by
    rw [headsL_nil hl]
    refine ⟨rfl, ?_, [], ?_, fun _ => rfl⟩
    · rw [hs]; simp [nextF, cutL, textL]
    · simp [cutL, textL]
  | l :: ls, pre, seen, s, hs => by
    have hs2 : s = (pre ++ l ++ [10]) ++ textL ls last := by rw [hs, textL_cons]; simp
    have hpl : (pre ++ l ++ [10]).length = pre.length + l.length + 1 := by simp; omega
    cases h : isH l with
    | true =>
      obtain ⟨h1, h2, r, h3, h4⟩ := cut_of hl ls (pre ++ l ++ [10]) (seen ++ [(headF l).2.1]) s hs2
      rw [hpl] at h1 h2
      rw [headsL_cons, if_pos h, unitsFrom_next]
      have hc : cutL (l :: ls) last = ([], ((headF l).2.1, l ++ 10 :: (cutL ls last).1) :: (cutL ls last).2) := by rw [cutL, if_pos h]
      rw [hc]
      refine ⟨?_, by simp [nextF], _, (by rfl : textL (l :: ls) last = [] ++ textL (l :: ls) last), fun h => by simp at h⟩
      dsimp only [numU]
      rw [h1, h2]
      congr 2
      rw [hs, List.drop_left, textL_cons, h3, show pre.length + l.length + 1 + (cutL ls last).1.length - pre.length = (l ++ 10 :: (cutL ls last).1).length by simp; omega]
      rw [show l ++ 10 :: ((cutL ls last).1 ++ r) = (l ++ 10 :: (cutL ls last).1) ++ r by simp, List.take_left]
    | false =>
      obtain ⟨h1, h2, r, h3, h4⟩ := cut_of hl ls (pre ++ l ++ [10]) seen s hs2
      rw [hpl] at h1 h2
      rw [headsL_cons, if_neg (by simp [h])]
      have hc : cutL (l :: ls) last = (l ++ 10 :: (cutL ls last).1, (cutL ls last).2) := by rw [cutL, if_neg (by simp [h])]
      rw [hc]
      refine ⟨h1, by rw [h2]; simp; omega, r, ?_, h4⟩
      rw [textL_cons, h3]
      simp
def unL (ls : List (List Nat)) (last : List Nat) : List Un := ⟨[], 0, (cutL ls last).1⟩ :: numU [] (cutL ls last).2
theorem units_eq {tot : Nat} {ls : List (List Nat)} {last : List Nat} (hl : last = [] ∨ isH last = false) : unitsF (textL ls last) (secsF (headsL tot 0 ls last)) = unL ls last := by
  obtain ⟨h1, h2, r, h3, h4⟩ := cut_of (tot := tot) hl ls [] [] (textL ls last) rfl
  rw [unitsF, unL, unitsFrom_secs]
  change unitsFrom (textL ls last) [] (headsL tot 0 ls last) = _ at h1
  change nextF (textL ls last).length (headsL tot 0 ls last) = _ at h2
  rw [h1]
  congr 2
  have hn : leadF (textL ls last) (secsF (headsL tot 0 ls last)) = (textL ls last).take (nextF (textL ls last).length (headsL tot 0 ls last)) := by
    cases headsL tot 0 ls last with
    | nil => simp [leadF, nextF, secsF]
    | cons x L => rfl
  rw [hn, h2, h3]
  simp
/-! ### Names -/
theorem numU_mem : ∀ {us : List (List Nat × List Nat)} {seen : List (List Nat)} {y : Un}, y ∈ numU seen us → seen.count y.title ≤ y.nth ∧ ∃ p ∈ us, y.title = p.1 ∧ y.text = p.2
  | p :: us, seen, y, h => by
    rw [numU] at h
    rcases List.mem_cons.1 h with rfl | h
    · exact ⟨Nat.le_refl _, p, List.mem_cons_self .., rfl, rfl⟩
    · obtain ⟨h1, q, h2, h3⟩ := numU_mem h
      rw [List.count_append] at h1
      exact ⟨by omega, q, List.mem_cons_of_mem _ h2, h3⟩
theorem numU_get : ∀ {us : List (List Nat × List Nat)} {seen : List (List Nat)} {p : List Nat × List Nat}, p ∈ us → ∃ y ∈ numU seen us, y.title = p.1 ∧ y.text = p.2
  | q :: us, seen, p, h => by
    rw [numU]
    rcases List.mem_cons.1 h with rfl | h
    · exact ⟨_, List.mem_cons_self .., rfl, rfl⟩
    · obtain ⟨y, h1, h2⟩ := numU_get (seen := seen ++ [q.1]) h
      exact ⟨y, List.mem_cons_of_mem _ h1, h2⟩
theorem numU_nodup : ∀ (us : List (List Nat × List Nat)) (seen : List (List Nat)), ((numU seen us).map nmU).Nodup
  | [], _ => by simp [numU]
  | p :: us, seen => by
    rw [numU, List.map_cons, List.nodup_cons]
    refine ⟨fun h => ?_, numU_nodup us _⟩
    obtain ⟨y, hy, he⟩ := List.mem_map.1 h
    obtain ⟨h1, _⟩ := numU_mem hy
    have e1 : y.title = p.1 := congrArg Prod.fst he
    have e2 : y.nth = seen.count p.1 := congrArg Prod.snd he
    rw [e1, List.count_append] at h1
    simp at h1
    omega
theorem numU_len : ∀ (us : List (List Nat × List Nat)) (seen : List (List Nat)), (numU seen us).length = us.length
  | [], _ => rfl
  | p :: us, seen => by rw [numU, List.length_cons, List.length_cons, numU_len]
theorem cutL_len (last : List Nat) : ∀ ls : List (List Nat), (cutL ls last).2.length ≤ ls.length
  | [] => by simp [cutL]
  | l :: ls => by
    have := cutL_len last ls
    rw [cutL]
    split <;> simp <;> omega
theorem texts_mem {L : List Un} (hn : (L.map nmU).Nodup) {u : Un} (hu : u ∈ L) : textsF L (nmU u) = some u.text := by
  induction L with
  | nil => simp at hu
  | cons x L ih =>
    rw [List.map_cons, List.nodup_cons] at hn
    rw [textsF]
    rcases List.mem_cons.1 hu with rfl | h
    · have : textsF L (nmU u) = none := by
        have hno : ∀ y ∈ L, nmU y ≠ nmU u := fun y hy e => hn.1 (List.mem_map.2 ⟨y, hy, e⟩)
        clear ih hn hu
        induction L with
        | nil => rfl
        | cons y L ih =>
          rw [textsF, ih fun z hz => hno z (List.mem_cons_of_mem _ hz)]
          have := hno y (List.mem_cons_self ..)
          rw [if_neg (fun e => this e.symm)]
      rw [this]
      show (if nmU u = (u.title, u.nth) then some u.text else none) = _
      exact if_pos rfl
    · rw [ih hn.2 h]
theorem texts_none {L : List Un} {k : Nm} (hno : ∀ y ∈ L, nmU y ≠ k) : textsF L k = none := by
  induction L with
  | nil => rfl
  | cons y L ih =>
    rw [textsF, ih fun z hz => hno z (List.mem_cons_of_mem _ hz)]
    have := hno y (List.mem_cons_self ..)
    rw [if_neg (fun e => this e.symm)]
theorem unit_texts {L : List Un} (hn : (L.map nmU).Nodup) (u : Un) : unitF L u = textsF L (nmU u) := by
  by_cases h : ∃ y ∈ L, nmU y = nmU u
  · obtain ⟨y, h1, h2⟩ := h
    rw [← h2, texts_mem hn h1, unitF]
    cases hf : L.find? (fun z => decide (z.title = u.title ∧ z.nth = u.nth)) with
    | none =>
      rw [List.find?_eq_none] at hf
      have e1 : y.title = u.title := congrArg Prod.fst h2
      have e2 : y.nth = u.nth := congrArg Prod.snd h2
      have := hf y h1
      simp [e1, e2] at this
    | some z =>
      have h3 := List.find?_some hf
      have h4 := List.mem_of_find?_eq_some hf
      have e : nmU z = nmU y := by
        rw [h2]
        simp only [decide_eq_true_eq] at h3
        exact Prod.ext h3.1 h3.2
      have h5 := texts_mem hn h4
      rw [e, texts_mem hn h1] at h5
      exact congrArg some (Option.some.inj h5).symm
  · have hno : ∀ y ∈ L, nmU y ≠ nmU u := fun y hy e => h ⟨y, hy, e⟩
    rw [texts_none hno, unitF]
    have : L.find? (fun z => decide (z.title = u.title ∧ z.nth = u.nth)) = none := by
      rw [List.find?_eq_none]
      intro z hz
      have := hno z hz
      simp only [decide_eq_true_eq]
      exact fun e => this (Prod.ext e.1 e.2)
    rw [this]
    rfl
/-! ### What is merged -/
theorem texts_some {L : List Un} {k : Nm} {x : List Nat} : textsF L k = some x → ∃ y ∈ L, nmU y = k ∧ y.text = x := by
  induction L with
  | nil => intro h; cases h
  | cons u L ih =>
    rw [textsF]
    intro h
    cases h1 : textsF L k with
    | some t =>
      rw [h1] at h
      obtain ⟨y, h2, h3⟩ := ih (h1.trans h)
      exact ⟨y, List.mem_cons_of_mem _ h2, h3⟩
    | none =>
      rw [h1] at h
      dsimp only at h
      split at h
      · rename_i e
        exact ⟨u, List.mem_cons_self .., e.symm, Option.some.inj h⟩
      · cases h
theorem choose_from {b o t : Option (List Nat)} : (chooseF b o t).1 = o ∨ (chooseF b o t).1 = t := by
  unfold chooseF
  repeat' split
  all_goals simp
theorem merged_mem {B O T : List Un} {y : Un} (h : y ∈ mergedU B O T) : y ∈ O ∨ y ∈ T := by
  unfold mergedU at h
  obtain ⟨u, hu, hs⟩ := List.mem_filterMap.1 h
  unfold mergedStep at hs
  cases hc : (chooseF (textsF B (nmU u)) (textsF O (nmU u)) (textsF T (nmU u))).1 with
  | none => rw [hc] at hs; cases hs
  | some x =>
    rw [hc] at hs
    have e := Option.some.inj hs
    have key : ∀ L : List Un, textsF L (nmU u) = some x → y ∈ L := fun L hL => by
      obtain ⟨z, h1, h2, h3⟩ := texts_some hL
      have e1 : z.title = u.title := congrArg Prod.fst h2
      have e2 : z.nth = u.nth := congrArg Prod.snd h2
      have : z = y := by
        rw [← e]
        cases z
        simp_all
      rw [← this]
      exact h1
    rcases choose_from (b := textsF B (nmU u)) (o := textsF O (nmU u)) (t := textsF T (nmU u)) with h1 | h1
    · exact .inl (key O (by rw [← h1, hc]))
    · exact .inr (key T (by rw [← h1, hc]))
theorem merged_has {B O T : List Un} {u : Un} {x : List Nat} (hu : ∃ y ∈ ordF O T, nmU y = nmU u) (hc : (chooseF (textsF B (nmU u)) (textsF O (nmU u)) (textsF T (nmU u))).1 = some x) : ⟨u.title, u.nth, x⟩ ∈ mergedU B O T := by
  obtain ⟨y, h1, h2⟩ := hu
  refine List.mem_filterMap.2 ⟨y, h1, ?_⟩
  unfold mergedStep
  rw [h2, hc]
  have e1 : y.title = u.title := congrArg Prod.fst h2
  have e2 : y.nth = u.nth := congrArg Prod.snd h2
  simp [e1, e2]
theorem ord_nodup {O T : List Un} (h : (O.map nmU).Nodup) : ∀ i, ((ordI O T i).map nmU).Nodup
  | 0 => h
  | i + 1 => by
    have ih := ord_nodup (T := T) h i
    rw [ordI]
    unfold stepO
    repeat' split
    all_goals first | exact ih | skip
    rename_i u _ _ hno _ _ _ _ j _
    have hu : ∀ y ∈ ordI O T i, nmU y ≠ nmU u := fun y hy e => by
      obtain ⟨k, hk⟩ := ixP_has.2 ⟨y, hy, e⟩
      rw [hk] at hno
      cases hno
    rw [List.map_append, List.map_cons, List.perm_middle.nodup_iff, ← List.map_append, List.take_append_drop, List.nodup_cons]
    refine ⟨fun hm => ?_, ih⟩
    obtain ⟨y, hy, e⟩ := List.mem_map.1 hm
    exact hu y hy e
/-! ### The text of units, cut again -/
abbrev endL : List Nat := [101, 110, 100]
def Ln0 (A : List (List Nat)) : Prop := ∀ x ∈ A, x ∈ menu ∧ isH x = false
def LaOK (l : List Nat) : Prop := l = [] ∨ l = endL
def SecN (N : Nat) (t x : List Nat) : Prop := ∃ h A l, A.length ≤ N ∧ h ∈ menu ∧ isH h = true ∧ (headF h).2.1 = t ∧ Ln0 A ∧ LaOK l ∧ x = textL (h :: A) l
def LeadN (N : Nat) (x : List Nat) : Prop := ∃ A l, A.length ≤ N ∧ Ln0 A ∧ LaOK l ∧ x = textL A l
theorem SecN.mono {N M : Nat} {t x : List Nat} (h : SecN N t x) (hm : N ≤ M) : SecN M t x := by
  obtain ⟨a, A, l, h0, h1⟩ := h
  exact ⟨a, A, l, Nat.le_trans h0 hm, h1⟩
theorem LeadN.mono {N M : Nat} {x : List Nat} (h : LeadN N x) (hm : N ≤ M) : LeadN M x := by
  obtain ⟨A, l, h0, h1⟩ := h
  exact ⟨A, l, Nat.le_trans h0 hm, h1⟩
abbrev SecP := SecN 9
abbrev LeadP := LeadN 9
theorem cut_parts {last : List Nat} (hl : LaOK last) : ∀ ls : List (List Nat), (∀ l ∈ ls, l ∈ menu) → LeadN ls.length (cutL ls last).1 ∧ ∀ p ∈ (cutL ls last).2, SecN ls.length p.1 p.2
  | [], _ => ⟨⟨[], last, by simp, fun x hx => by simp at hx, hl, by simp [cutL, textL]⟩, fun p hp => by simp [cutL] at hp⟩
  | l :: ls, hm => by
    obtain ⟨⟨A, e, h0, h1, h2, h3⟩, h4⟩ := cut_parts hl ls fun x hx => hm x (List.mem_cons_of_mem _ hx)
    have hlm := hm l (List.mem_cons_self ..)
    cases h : isH l with
    | true =>
      have hc : cutL (l :: ls) last = ([], ((headF l).2.1, l ++ 10 :: (cutL ls last).1) :: (cutL ls last).2) := by rw [cutL, if_pos h]
      rw [hc]
      refine ⟨⟨[], [], by simp, fun x hx => by simp at hx, .inl rfl, rfl⟩, fun p hp => ?_⟩
      rcases List.mem_cons.1 hp with rfl | hp
      · exact ⟨l, A, e, by simp; omega, hlm, h, rfl, h1, h2, by rw [textL_cons, h3]⟩
      · exact (h4 p hp).mono (by simp)
    | false =>
      have hc : cutL (l :: ls) last = (l ++ 10 :: (cutL ls last).1, (cutL ls last).2) := by rw [cutL, if_neg (by simp [h])]
      rw [hc]
      refine ⟨⟨l :: A, e, by simp; omega, fun x hx => ?_, h2, by rw [textL_cons, h3]⟩, fun p hp => (h4 p hp).mono (by simp)⟩
      rcases List.mem_cons.1 hx with rfl | hx
      · exact ⟨hlm, h⟩
      · exact h1 x hx
theorem cut_app {last : List Nat} : ∀ (A ls : List (List Nat)), (∀ x ∈ A, isH x = false) → cutL (A ++ ls) last = (textL A [] ++ (cutL ls last).1, (cutL ls last).2)
  | [], ls, _ => by simp [textL]
  | a :: A, ls, h => by
    have ih := cut_app (last := last) A ls fun x hx => h x (List.mem_cons_of_mem _ hx)
    have ha := h a (List.mem_cons_self ..)
    rw [List.cons_append, cutL, if_neg (by simp [ha]), ih, textL_cons]
    simp
theorem cut_only {last : List Nat} {A : List (List Nat)} (h : ∀ x ∈ A, isH x = false) : cutL A last = (textL A last, []) := by
  have := cut_app (last := last) A [] h
  rw [List.append_nil] at this
  rw [this]
  simp [cutL, textL]
theorem cut_head {last h : List Nat} {A ls : List (List Nat)} (hh : isH h = true) (hA : ∀ x ∈ A, isH x = false) : cutL (h :: (A ++ ls)) last = ([], ((headF h).2.1, textL (h :: A) [] ++ (cutL ls last).1) :: (cutL ls last).2) := by
  rw [cutL, if_pos hh, cut_app A ls hA, textL_cons]
  simp
theorem trim_nl (s : List Nat) : trimF (s ++ [10]) = s := by
  unfold trimF
  rw [List.length_append, List.length_singleton, Nat.add_sub_cancel, List.drop_left, if_pos rfl, List.take_left]
theorem end_not (s : List Nat) : ¬ (s ++ endL).drop ((s ++ endL).length - 1) = [10] := by
  rw [show s ++ endL = (s ++ [101, 110]) ++ [100] by simp [endL], List.length_append, List.length_singleton, Nat.add_sub_cancel, List.drop_left]
  decide
theorem trim_end (s : List Nat) : trimF (s ++ endL) = s ++ endL := by
  unfold trimF
  rw [if_neg (end_not s)]
def addE0 (A : List (List Nat)) (l : List Nat) : List (List Nat) := if l = [] then A else A ++ [l]
theorem gap_text {A : List (List Nat)} {l : List Nat} {i last : Nat} (hl : LaOK l) (hi : i < last) : textL A l ++ gapF i last (textL A l) = textL (addE0 A l) [] ∧ trimF (textL (addE0 A l) []) = trimF (textL A l) := by
  rcases hl with rfl | rfl
  · have hg : gapF i last (textL A []) = [] := by
      unfold gapF
      rw [if_neg]
      rintro ⟨_, h1, h2⟩
      apply h2
      rcases List.eq_nil_or_concat A with e | ⟨A0, a, e⟩
      · subst e
        exact absurd rfl h1
      · rw [List.concat_eq_append] at e
        subst e
        rw [← textL_nil, List.length_append, List.length_singleton, Nat.add_sub_cancel, List.drop_left]
    rw [hg, addE0, if_pos rfl, List.append_nil]
    exact ⟨rfl, rfl⟩
  · have hs : textL A endL = textL A [] ++ endL := (textL_end A endL).symm
    have hg : gapF i last (textL A endL) = [10] := by
      unfold gapF
      rw [if_pos]
      rw [hs]
      exact ⟨hi, by simp [endL], end_not _⟩
    rw [hg, addE0, if_neg (by simp [endL]), ← textL_nil, hs, trim_nl, trim_end]
    exact ⟨rfl, rfl⟩
theorem gap_no {i last : Nat} {s : List Nat} (h : ¬ i < last) : gapF i last s = [] := by
  unfold gapF
  rw [if_neg (fun h1 => h h1.1)]
theorem isH_end : isH endL = false := end_ok.1
theorem ln0_h {A : List (List Nat)} (h : Ln0 A) : ∀ x ∈ A, isH x = false := fun x hx => (h x hx).2
theorem addE0_h {A : List (List Nat)} {l : List Nat} (h : Ln0 A) (hl : LaOK l) : ∀ x ∈ addE0 A l, (x ∈ menu ∨ x = endL) ∧ isH x = false := by
  intro x hx
  rcases hl with rfl | rfl
  · rw [addE0, if_pos rfl] at hx
    exact ⟨.inl (h x hx).1, (h x hx).2⟩
  · rw [addE0, if_neg (by simp [endL])] at hx
    rcases List.mem_append.1 hx with hx | hx
    · exact ⟨.inl (h x hx).1, (h x hx).2⟩
    · simp only [List.mem_singleton] at hx
      subst hx
      exact ⟨.inr rfl, isH_end⟩
theorem addE0_len (A : List (List Nat)) (l : List Nat) : (addE0 A l).length ≤ A.length + 1 := by
  unfold addE0
  split <;> simp
theorem secs_join {last : Nat} : ∀ (L : List Un) (i : Nat), (∀ y ∈ L, SecP y.title y.text) → L ≠ [] → last + 1 = i + L.length →
    ∃ ls e, ls.length ≤ 11 * L.length ∧ (∀ x ∈ ls, x ∈ menu ∨ x = endL) ∧ LaOK e ∧ joinF last L i = textL ls e ∧ (cutL ls e).1 = [] ∧ (cutL ls e).2.length = L.length ∧ ∀ y ∈ L, ∃ p ∈ (cutL ls e).2, p.1 = y.title ∧ trimF p.2 = trimF y.text
  | [], i, _, h, _ => absurd rfl h
  | [u], i, hs, _, hl => by
    obtain ⟨h, A, l, hAl, h1, h2, h3, h4, h5, h6⟩ := hs u (by simp)
    have hc : cutL (h :: A) l = ([], [((headF h).2.1, textL (h :: A) l)]) := by
      have := cut_head (last := l) (A := A) (ls := []) h2 (ln0_h h4)
      rw [List.append_nil] at this
      rw [this]
      simp [cutL, textL]
    refine ⟨h :: A, l, by simp; omega, fun x hx => ?_, h5, ?_, by rw [hc], by rw [hc]; rfl, fun y hy => ?_⟩
    · rcases List.mem_cons.1 hx with rfl | hx
      · exact .inl h1
      · exact .inl (h4 x hx).1
    · rw [joinF, joinF, h6, gap_no (by simp at hl; omega)]
      simp
    · simp only [List.mem_singleton] at hy
      subst hy
      rw [hc]
      exact ⟨_, List.mem_cons_self .., h3, by rw [h6]⟩
  | u :: v :: L, i, hs, _, hl => by
    obtain ⟨ls, e, k0, k1, k2, k3, k4, k6, k5⟩ := secs_join (last := last) (v :: L) (i + 1) (fun y hy => hs y (List.mem_cons_of_mem _ hy)) (by simp) (by simp at hl ⊢; omega)
    obtain ⟨h, A, l, hAl, h1, h2, h3, h4, h5, h6⟩ := hs u (by simp)
    have hA := addE0_h h4 h5
    have hc := cut_head (last := e) (A := addE0 A l) (ls := ls) h2 (fun x hx => (hA x hx).2)
    rw [k4, List.append_nil] at hc
    have hg := gap_text (A := h :: A) (l := l) (i := i) (last := last) h5 (by simp at hl; omega)
    have ha : addE0 (h :: A) l = h :: addE0 A l := by
      unfold addE0
      split <;> simp
    rw [ha] at hg
    have hal := addE0_len A l
    refine ⟨h :: (addE0 A l ++ ls), e, by simp at k0 ⊢; omega, fun x hx => ?_, k2, ?_, by rw [hc], by rw [hc, List.length_cons, k6]; rfl, fun y hy => ?_⟩
    · rcases List.mem_cons.1 hx with rfl | hx
      · exact .inl h1
      · rcases List.mem_append.1 hx with hx | hx
        · exact (hA x hx).1
        · exact k1 x hx
    · rw [joinF, k3, h6, hg.1, show h :: (addE0 A l ++ ls) = (h :: addE0 A l) ++ ls by simp, textL_append]
    · rw [hc]
      rcases List.mem_cons.1 hy with rfl | hy
      · exact ⟨_, List.mem_cons_self .., h3, by rw [h6]; exact hg.2⟩
      · obtain ⟨p, q1, q2, q3⟩ := k5 y hy
        exact ⟨p, List.mem_cons_of_mem _ q1, q2, q3⟩
theorem end_chars : ∀ c ∈ endL, c ∉ needles ∧ c < 256 := by decide
theorem ok_of {ls : List (List Nat)} {e : List Nat} (h : ∀ x ∈ ls, x ∈ menu ∨ x = endL) (he : LaOK e) : TextOK ls e :=
  ⟨fun l hl => (h l hl).elim .inl fun h => .inr (by rw [h]; exact end_chars), he.elim (fun h => .inr (by rw [h]; simp)) .inl⟩
theorem join_law {ld : Un} {L : List Un} (hld : LeadP ld.text) (hL : ∀ y ∈ L, SecP y.title y.text) :
    ∃ ls e, ls.length ≤ 11 * (L.length + 1) ∧ (∀ x ∈ ls, x ∈ menu ∨ x = endL) ∧ LaOK e ∧ joinU (ld :: L) = textL ls e ∧ trimF (cutL ls e).1 = trimF ld.text ∧ (cutL ls e).2.length = L.length ∧ ∀ y ∈ L, ∃ p ∈ (cutL ls e).2, p.1 = y.title ∧ trimF p.2 = trimF y.text := by
  obtain ⟨A, l, hAl, h1, h2, h3⟩ := hld
  by_cases h0 : L = []
  · subst h0
    have hlast : lastF [ld] 0 0 = 0 := by simp [lastF]
    refine ⟨A, l, by simp; omega, fun x hx => .inl (h1 x hx).1, h2, ?_, by rw [cut_only (ln0_h h1), h3], by rw [cut_only (ln0_h h1)]; rfl, fun y hy => by simp at hy⟩
    rw [joinU, hlast, joinF, joinF, gap_no (by omega), h3]
    simp
  · have hlast : lastF (ld :: L) 0 0 = L.length := by
      rcases List.eq_nil_or_concat L with e | ⟨L0, z, e⟩
      · exact absurd e h0
      · rw [List.concat_eq_append] at e
        subst e
        obtain ⟨h, A', l', _, _, _, _, _, _, hz⟩ := hL z (by simp)
        rw [← List.cons_append, lastF_snoc, if_pos]
        · simp
        · rw [hz, textL_cons]
          simp
    obtain ⟨ls, e, k0, k1, k2, k3, k4, k6, k5⟩ := secs_join (last := L.length) L 1 hL h0 (by omega)
    have hA := addE0_h h1 h2
    have hp : 0 < L.length := List.length_pos_iff.2 h0
    have hg := gap_text (A := A) (l := l) (i := 0) (last := L.length) h2 hp
    have hc := cut_app (last := e) (addE0 A l) ls (fun x hx => (hA x hx).2)
    rw [k4, List.append_nil] at hc
    have hal := addE0_len A l
    refine ⟨addE0 A l ++ ls, e, by rw [List.length_append]; omega, fun x hx => ?_, k2, ?_, by rw [hc, h3]; exact hg.2, by rw [hc]; exact k6, fun y hy => by rw [hc]; exact k5 y hy⟩
    · rcases List.mem_append.1 hx with hx | hx
      · exact (hA x hx).1
      · exact k1 x hx
    · rw [joinU, hlast, joinF, k3, h3, hg.1, textL_append]
/-! ### The law -/
structure ULs (L : List Un) : Prop where
  ex : ∃ ld S, L = ld :: S ∧ nmU ld = ([], 0) ∧ LeadP ld.text ∧ ∀ y ∈ S, SecP y.title y.text
  nd : (L.map nmU).Nodup
theorem sec_title {t x : List Nat} (h : SecP t x) : t ≠ [] := by
  obtain ⟨l, _, _, _, h1, h2, h3, _⟩ := h
  rw [← h3]
  rcases menu_title l h1 h2 with e | e <;> rw [e] <;> simp
theorem unL_ok {ls : List (List Nat)} {last : List Nat} (hm : ∀ l ∈ ls, l ∈ menu) (hl : LaOK last) (hn : ls.length ≤ 9) : ULs (unL ls last) := by
  obtain ⟨h1, h2'⟩ := cut_parts hl ls hm
  have h2 : ∀ p ∈ (cutL ls last).2, SecP p.1 p.2 := fun p hp => (h2' p hp).mono hn
  replace h1 := h1.mono hn
  have hs : ∀ y ∈ numU [] (cutL ls last).2, SecP y.title y.text := fun y hy => by
    obtain ⟨_, p, h3, h4, h5⟩ := numU_mem hy
    rw [h4, h5]
    exact h2 p h3
  refine ⟨⟨_, _, rfl, rfl, h1, hs⟩, ?_⟩
  rw [unL, List.map_cons, List.nodup_cons]
  refine ⟨fun h => ?_, numU_nodup _ _⟩
  obtain ⟨y, hy, e⟩ := List.mem_map.1 h
  exact sec_title (hs y hy) (congrArg Prod.fst e)
theorem ULs.split {L : List Un} (h : ULs L) {y : Un} (hy : y ∈ L) : (nmU y = ([], 0) ∧ LeadP y.text) ∨ (y.title ≠ [] ∧ SecP y.title y.text) := by
  obtain ⟨ld, S, rfl, h1, h2, h3⟩ := h.ex
  rcases List.mem_cons.1 hy with rfl | hy
  · exact .inl ⟨h1, h2⟩
  · exact .inr ⟨sec_title (h3 y hy), h3 y hy⟩
theorem ULs.lead {L : List Un} (h : ULs L) : ∃ x, textsF L ([], 0) = some x := by
  obtain ⟨ld, S, e, h1, h2, h3⟩ := h.ex
  refine ⟨ld.text, ?_⟩
  rw [← h1]
  exact texts_mem h.nd (by rw [e]; simp)
theorem ULs.zero {O T : List Un} (hO : ULs O) (hT : ULs T) : ∀ u, T[0]? = some u → ∃ y ∈ O, nmU y = nmU u := by
  intro u hu
  obtain ⟨lo, S, e1, h1, _⟩ := hO.ex
  obtain ⟨lt, S', e2, h2, _⟩ := hT.ex
  rw [e2] at hu
  have : lt = u := by simpa using hu
  subst this
  exact ⟨lo, by rw [e1]; simp, by rw [h1, h2]⟩
theorem choose_some {b o t : Option (List Nat)} (ho : ∃ x, o = some x) (ht : ∃ x, t = some x) : ∃ x, (chooseF b o t).1 = some x := by
  rcases choose_from (b := b) (o := o) (t := t) with h | h <;> rw [h]
  · exact ho
  · exact ht
theorem merged_law {B O T : List Un} (hO : ULs O) (hT : ULs T) : ∃ ld L, mergedU B O T = ld :: L ∧ nmU ld = ([], 0) ∧ LeadP ld.text ∧ ∀ y ∈ L, SecP y.title y.text := by
  obtain ⟨lo, S, eO, h1, h2, h3⟩ := hO.ex
  have hne : O ≠ [] := by rw [eO]; simp
  have hh := ordI_head (T := T) hne T.length
  change (ordF O T).head? = O.head? at hh
  have hnd := ord_nodup (T := T) hO.nd T.length
  change ((ordF O T).map nmU).Nodup at hnd
  obtain ⟨W', hW⟩ : ∃ W', ordF O T = lo :: W' := by
    cases hW : ordF O T with
    | nil => rw [hW, eO] at hh; simp at hh
    | cons w W' =>
      rw [hW, eO] at hh
      have : w = lo := by simpa using hh
      exact ⟨W', by rw [this]⟩
  obtain ⟨x, hx⟩ := choose_some (b := textsF B ([], 0)) hO.lead hT.lead
  have hst : mergedStep B O T lo = some ⟨lo.title, lo.nth, x⟩ := by
    unfold mergedStep
    rw [h1, hx]
    rfl
  have hM : mergedU B O T = ⟨lo.title, lo.nth, x⟩ :: W'.filterMap (mergedStep B O T) := by
    unfold mergedU
    rw [hW, List.filterMap_cons, hst]
  have hmem : ∀ y ∈ mergedU B O T, (nmU y = ([], 0) ∧ LeadP y.text) ∨ (y.title ≠ [] ∧ SecP y.title y.text) := fun y hy => (merged_mem hy).elim hO.split hT.split
  refine ⟨_, _, hM, h1, ?_, fun y hy => ?_⟩
  · rcases hmem ⟨lo.title, lo.nth, x⟩ (by rw [hM]; simp) with h | h
    · exact h.2
    · exact absurd (congrArg Prod.fst h1) h.1
  · rcases hmem y (by rw [hM]; exact List.mem_cons_of_mem _ hy) with h | h
    · exfalso
      obtain ⟨w, hw, hs⟩ := List.mem_filterMap.1 hy
      have hn : nmU w = nmU y := by
        unfold mergedStep at hs
        cases hc : (chooseF (textsF B (nmU w)) (textsF O (nmU w)) (textsF T (nmU w))).1 with
        | none => rw [hc] at hs; cases hs
        | some z =>
          rw [hc] at hs
          have e := Option.some.inj hs
          rw [← e]
          rfl
      rw [hW, List.map_cons, List.nodup_cons] at hnd
      exact hnd.1 (List.mem_map.2 ⟨w, hw, by rw [hn, h.1, h1]⟩)
    · exact h.2
theorem unL_has {ls : List (List Nat)} {e : List Nat} {p : List Nat × List Nat} (hp : p ∈ (cutL ls e).2) : ∃ y ∈ unL ls e, y.title = p.1 ∧ y.text = p.2 := by
  obtain ⟨y, h1, h2⟩ := numU_get (seen := []) hp
  exact ⟨y, List.mem_cons_of_mem _ h1, h2⟩
def Kept (B T O R : List Un) : Prop := ∀ u ∈ O, unitF B u = unitF T u → ∃ y ∈ R, y.title = u.title ∧ trimF y.text = trimF u.text
theorem kept_self {B T O : List Un} : Kept B T O O := fun u hu _ => ⟨u, hu, rfl, rfl⟩
theorem kept_same {B T O : List Un} (hB : ULs B) (hT : ULs T) (he : O = B) : Kept B T O T := fun u hu h => by
  rw [unit_texts hB.nd, unit_texts hT.nd, texts_mem hB.nd (he ▸ hu)] at h
  obtain ⟨y, h1, h2, h3⟩ := texts_some h.symm
  exact ⟨y, h1, congrArg Prod.fst h2, by rw [h3]⟩
theorem kept_join {B O T : List Un} (hB : ULs B) (hO : ULs O) (hT : ULs T) :
    ∃ ls e, ls.length ≤ 11 * (O.length + T.length + 1) ∧ (∀ x ∈ ls, x ∈ menu ∨ x = endL) ∧ LaOK e ∧ joinU (mergedU B O T) = textL ls e ∧ (cutL ls e).2.length ≤ O.length + T.length ∧ Kept B O T (unL ls e) ∧ Kept B T O (unL ls e) := by
  obtain ⟨ld, L, hM, h1, h2, h3⟩ := merged_law (B := B) hO hT
  obtain ⟨ls, e, k0, k1, k1', k2, k3, k5, k4⟩ := join_law h2 h3
  have hlen : (cutL ls e).2.length ≤ O.length + T.length := by
    have a1 : (mergedU B O T).length ≤ (ordF O T).length := List.length_filterMap_le _ _
    have a2 : (ordF O T).length ≤ O.length + T.length := (ordI_len O T T.length).2
    rw [hM, List.length_cons] at a1
    omega
  have hin : ∀ y ∈ mergedU B O T, ∃ r ∈ unL ls e, r.title = y.title ∧ trimF r.text = trimF y.text := fun y hy => by
    rw [hM] at hy
    rcases List.mem_cons.1 hy with rfl | hy
    · exact ⟨⟨[], 0, (cutL ls e).1⟩, by rw [unL]; simp, (congrArg Prod.fst h1).symm, k3⟩
    · obtain ⟨p, q1, q2, q3⟩ := k4 y hy
      obtain ⟨r, r1, r2, r3⟩ := unL_has q1
      exact ⟨r, r1, by rw [r2, q2], by rw [r3, q3]⟩
  have h0 := hO.zero hT
  have hasT : ∀ u ∈ T, ∃ y ∈ ordF O T, nmU y = nmU u := fun u hu => by
    obtain ⟨j, hj, rfl⟩ := List.getElem_of_mem hu
    exact ordI_has h0 T.length j _ hj (List.getElem?_eq_getElem hj)
  have hasO : ∀ u ∈ O, ∃ y ∈ ordF O T, nmU y = nmU u := fun u hu => ⟨u, ordI_old hu _, rfl⟩
  refine ⟨ls, e, by omega, k1, k1', by rw [hM, k2], hlen, fun u hu h => ?_, fun u hu h => ?_⟩
  · rw [unit_texts hB.nd, unit_texts hO.nd] at h
    have ht := texts_mem hT.nd hu
    have hc : (chooseF (textsF B (nmU u)) (textsF O (nmU u)) (textsF T (nmU u))).1 = some u.text := by
      unfold chooseF
      by_cases e1 : textsF O (nmU u) = textsF T (nmU u)
      · rw [if_pos e1, e1, ht]
      · rw [if_neg e1, if_pos h.symm, ht]
    exact hin _ (merged_has (hasT u hu) hc)
  · rw [unit_texts hB.nd, unit_texts hT.nd] at h
    have ho := texts_mem hO.nd hu
    have hc : (chooseF (textsF B (nmU u)) (textsF O (nmU u)) (textsF T (nmU u))).1 = some u.text := by
      unfold chooseF
      by_cases e1 : textsF O (nmU u) = textsF T (nmU u)
      · rw [if_pos e1, ho]
      · rw [if_neg e1]
        by_cases e2 : textsF O (nmU u) = textsF B (nmU u)
        · exact absurd (e2.trans h) e1
        · rw [if_neg e2, if_pos h.symm, ho]
    exact hin _ (merged_has (hasO u hu) hc)
theorem unL_len (ls : List (List Nat)) (e : List Nat) : (unL ls e).length = (cutL ls e).2.length + 1 := by rw [unL, List.length_cons, numU_len]
theorem cut_nH (e : List Nat) : ∀ ls : List (List Nat), nH ls = (cutL ls e).2.length
  | [] => rfl
  | l :: ls => by
    have ih := cut_nH e ls
    rw [nH] at ih
    rw [cutL, nH, List.filter_cons]
    cases h : isH l <;> simp [ih]
theorem cut_small (e : List Nat) : ∀ ls : List (List Nat), (cutL ls e).1.length ≤ (textL ls e).length ∧ ∀ p ∈ (cutL ls e).2, p.2.length ≤ (textL ls e).length
  | [] => by simp [cutL, textL]
  | l :: ls => by
    obtain ⟨h1, h2⟩ := cut_small e ls
    have hl : (textL (l :: ls) e).length = l.length + 1 + (textL ls e).length := by rw [textL_cons]; simp; omega
    rw [cutL]
    split
    · refine ⟨by simp, fun p hp => ?_⟩
      rcases List.mem_cons.1 hp with rfl | hp
      · rw [hl]; simp; omega
      · have := h2 p hp; omega
    · refine ⟨by rw [hl]; simp; omega, fun p hp => ?_⟩
      have := h2 p hp
      omega
theorem unL_small {ls : List (List Nat)} {e : List Nat} {y : Un} (hy : y ∈ unL ls e) : y.text.length ≤ (textL ls e).length := by
  obtain ⟨h1, h2⟩ := cut_small e ls
  rw [unL] at hy
  rcases List.mem_cons.1 hy with rfl | hy
  · exact h1
  · obtain ⟨_, p, h3, _, h5⟩ := numU_mem hy
    rw [h5]
    exact h2 p h3
theorem uls_bts {L : List Un} (h : ULs L) {y : Un} (hy : y ∈ L) : Bts y.text := by
  have key : ∀ (A : List (List Nat)) (l : List Nat), (∀ x ∈ A, x ∈ menu) → LaOK l → Bts (textL A l) := fun A l h1 h2 x hx => ((ok_of (fun z hz => .inl (h1 z hz)) h2).chars x hx).1
  rcases h.split hy with ⟨_, A, l, _, h1, h2, h3⟩ | ⟨_, a, A, l, _, h1, _, _, h4, h5, h6⟩
  · rw [h3]
    exact key A l (fun x hx => (h1 x hx).1) h2
  · rw [h6]
    exact key (a :: A) l (fun x hx => (List.mem_cons.1 hx).elim (fun h => h ▸ h1) fun h => (h4 x h).1) h5
theorem headsL_mono {tot : Nat} {last : List Nat} (h : last = [] ∨ isH last = false) : ∀ (ls : List (List Nat)) (a i : Nat) (x y : Sec), (headsL tot a ls last)[i]? = some x → (headsL tot a ls last)[i + 1]? = some y → x.frm ≤ y.frm
  | [], a, i, x, y, hx, _ => by rw [headsL_nil h] at hx; simp at hx
  | l :: ls, a, i, x, y, hx, hy => by
    rw [headsL_cons] at hx hy
    cases hl : isH l with
    | true =>
      rw [if_pos hl] at hx hy
      rw [List.getElem?_cons_succ] at hy
      cases i with
      | zero =>
        have e : (⟨(headF l).1, (headF l).2.1, a, a + l.length + 1, tot⟩ : Sec) = x := by simpa using hx
        have := headsL_frm h ls _ y (List.mem_of_getElem? hy)
        rw [← e]
        show a ≤ y.frm
        omega
      | succ i =>
        rw [List.getElem?_cons_succ] at hx
        exact headsL_mono h ls _ i x y hx hy
    | false =>
      rw [if_neg (by simp [hl])] at hx hy
      exact headsL_mono h ls _ i x y hx hy
theorem law_merge {lb lo lt : List (List Nat)} {eb eo et : List Nat} (mb : ∀ l ∈ lb, l ∈ menu) (mo : ∀ l ∈ lo, l ∈ menu) (mt : ∀ l ∈ lt, l ∈ menu) (hb : LaOK eb) (ho : LaOK eo) (ht : LaOK et) (nb : lb.length ≤ 9) (no : lo.length ≤ 9) (nt : lt.length ≤ 9) :
    ∃ ls e, ls.length ≤ 11 * ((unL lo eo).length + (unL lt et).length + 1) ∧ (∀ x ∈ ls, x ∈ menu ∨ x = endL) ∧ LaOK e ∧ mergeF (textL lb eb) (textL lo eo) (textL lt et) (unL lb eb) (unL lo eo) (unL lt et) = textL ls e ∧ (cutL ls e).2.length ≤ (unL lo eo).length + (unL lt et).length ∧
      Kept (unL lb eb) (unL lo eo) (unL lt et) (unL ls e) ∧ Kept (unL lb eb) (unL lt et) (unL lo eo) (unL ls e) := by
  have tb := ok_of (fun x hx => .inl (mb x hx)) hb
  have to_ := ok_of (fun x hx => .inl (mo x hx)) ho
  have tt := ok_of (fun x hx => .inl (mt x hx)) ht
  have uB := unL_ok mb hb nb
  have uO := unL_ok mo ho no
  have uT := unL_ok mt ht nt
  unfold mergeF
  by_cases h1 : textL lo eo = textL lb eb ∨ textL lo eo = textL lt et
  · rw [if_pos h1]
    refine ⟨lt, et, by omega, fun x hx => .inl (mt x hx), ht, rfl, by rw [unL_len lt]; omega, kept_self, ?_⟩
    rcases h1 with h | h
    · obtain ⟨e1, e2⟩ := LinesOK.inj (h ▸ to_.lines) tb.lines
      exact kept_same uB uT (by rw [e1, e2])
    · obtain ⟨e1, e2⟩ := LinesOK.inj (h ▸ to_.lines) tt.lines
      rw [e1, e2]
      exact kept_self
  · rw [if_neg h1]
    by_cases h2 : textL lt et = textL lb eb
    · rw [if_pos h2]
      obtain ⟨e1, e2⟩ := LinesOK.inj (h2 ▸ tt.lines) tb.lines
      exact ⟨lo, eo, by omega, fun x hx => .inl (mo x hx), ho, rfl, by rw [unL_len lo]; omega, kept_same uB uO (by rw [e1, e2]), kept_self⟩
    · rw [if_neg h2]
      exact kept_join uB uO uT
end Go.Sh
end
