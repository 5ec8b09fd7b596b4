/-
  The plain law of TopSections: what a replaced section does to the sections of a text.
  The plain law of TopSections: the texts.
  The plain law of TopSections: the replaced text.
-/
import Derived.Test.YtahldjbgkkfdgaaGreatDoorShC9
set_option linter.all false
section
namespace Go.Sh
set_option maxRecDepth 10000
set_option linter.all false

def sz (ls : List (List Nat)) : Nat := (textL ls []).length
theorem textL_append (A B : List (List Nat)) (last : List Nat) : textL (A ++ B) last = textL A [] ++ textL B last := by simp [textL]
theorem sz_cons (l : List Nat) (ls : List (List Nat)) : sz (l :: ls) = l.length + 1 + sz ls := by
  simp only [sz, textL_cons, List.length_append, List.length_cons]
  omega
theorem textL_length (ls : List (List Nat)) (last : List Nat) : (textL ls last).length = sz ls + last.length := by simp [sz, textL]
theorem sz_append (A B : List (List Nat)) : sz (A ++ B) = sz A + sz B := by
  simp only [sz, textL_append, List.length_append]

/-- Whether a line is a heading. -/
def isH (l : List Nat) : Bool := (headF l).2.2

theorem headsL_cons (tot a : Nat) (l : List Nat) (ls : List (List Nat)) (last : List Nat) :
    headsL tot a (l :: ls) last = if isH l = true then ⟨(headF l).1, (headF l).2.1, a, a + l.length + 1, tot⟩ :: headsL tot (a + l.length + 1) ls last else headsL tot (a + l.length + 1) ls last := rfl
theorem headsL_nil {tot a : Nat} {last : List Nat} (h : last = [] ∨ isH last = false) : headsL tot a [] last = [] := by
  rcases h with h | h
  · subst h; rfl
  · have h' : (headF last).2.2 = false := h
    simp [headsL, h']
theorem headsL_append (tot : Nat) (last : List Nat) : ∀ (A B : List (List Nat)) (a : Nat), headsL tot a (A ++ B) last = headsL tot a A [] ++ headsL tot (a + sz A) B last
  | [], B, a => by simp [headsL_nil, sz, textL]
  | l :: A, B, a => by
    rw [List.cons_append, headsL_cons, headsL_cons, headsL_append tot last A B, sz_cons]
    have e : a + l.length + 1 + sz A = a + (l.length + 1 + sz A) := by omega
    rw [e]
    split
    · rfl
    · rfl

/-- How many headings. -/
def nH (ls : List (List Nat)) : Nat := (ls.filter isH).length
theorem headsL_len {tot : Nat} {last : List Nat} (h : last = [] ∨ isH last = false) : ∀ (ls : List (List Nat)) (a : Nat), (headsL tot a ls last).length = nH ls
  | [], a => by rw [headsL_nil h]; rfl
  | l :: ls, a => by
    rw [headsL_cons, nH, List.filter_cons]
    split
    · rw [List.length_cons, headsL_len h ls]; rfl
    · rw [headsL_len h ls]; rfl

/-- Every heading starts behind the start and ends within. -/
theorem headsL_frm {tot : Nat} {last : List Nat} (h : last = [] ∨ isH last = false) : ∀ (ls : List (List Nat)) (a : Nat) (y : Sec), y ∈ headsL tot a ls last → a ≤ y.frm ∧ y.frm < a + sz ls ∧ y.to = tot
  | [], a, y, hy => by rw [headsL_nil h] at hy; simp at hy
  | l :: ls, a, y, hy => by
    rw [headsL_cons] at hy
    rw [sz_cons]
    split at hy
    · rcases List.mem_cons.1 hy with e | hy
      · subst e
        exact ⟨Nat.le_refl _, by dsimp only; omega, rfl⟩
      · have := headsL_frm h ls _ y hy
        omega
    · have := headsL_frm h ls _ y hy
      omega

/-- The i-th heading cuts the lines. -/
theorem headsL_cut {tot : Nat} {last : List Nat} (h : last = [] ∨ isH last = false) : ∀ (ls : List (List Nat)) (a i : Nat) (x : Sec), (headsL tot a ls last)[i]? = some x → ∃ A l B, ls = A ++ l :: B ∧ isH l = true ∧ nH A = i ∧ x = ⟨(headF l).1, (headF l).2.1, a + sz A, a + sz A + l.length + 1, tot⟩
  | [], a, i, x, hx => by rw [headsL_nil h] at hx; simp at hx
  | l :: ls, a, i, x, hx => by
    rw [headsL_cons] at hx
    cases hl : isH l with
    | true =>
      rw [hl, if_pos rfl] at hx
      cases i with
      | zero =>
        simp at hx
        subst hx
        exact ⟨[], l, ls, rfl, hl, rfl, by simp [sz, textL]⟩
      | succ i =>
        rw [List.getElem?_cons_succ] at hx
        obtain ⟨A, l2, B, h1, h2, h3, h4⟩ := headsL_cut h ls _ i x hx
        refine ⟨l :: A, l2, B, by rw [h1]; rfl, h2, by rw [nH, List.filter_cons, if_pos hl, List.length_cons]; rw [nH] at h3; omega, ?_⟩
        rw [h4, sz_cons]
        congr 1 <;> omega
    | false =>
      rw [hl, if_neg (by simp)] at hx
      obtain ⟨A, l2, B, h1, h2, h3, h4⟩ := headsL_cut h ls _ i x hx
      refine ⟨l :: A, l2, B, by rw [h1]; rfl, h2, by rw [nH, List.filter_cons, if_neg (by simp [hl])]; exact h3, ?_⟩
      rw [h4, sz_cons]
      congr 1 <;> omega

/-- The first heading of a kind cuts the lines too. -/
theorem headsL_find {tot : Nat} {last : List Nat} (h : last = [] ∨ isH last = false) (k : Nat) : ∀ (ls : List (List Nat)) (a : Nat),
    (headsL tot a ls last).find? (fun y => decide (y.level ≤ k)) = none ∨ ∃ C l D y, ls = C ++ l :: D ∧ isH l = true ∧ (headsL tot a ls last).find? (fun y => decide (y.level ≤ k)) = some y ∧ y.frm = a + sz C
  | [], a => by rw [headsL_nil h]; exact .inl rfl
  | l :: ls, a => by
    rw [headsL_cons]
    cases hl : isH l with
    | true =>
      rw [if_pos rfl]
      by_cases hk : (headF l).1 ≤ k
      · exact .inr ⟨[], l, ls, _, rfl, hl, List.find?_cons_of_pos (by simpa using hk), by simp [sz, textL]⟩
      · rw [List.find?_cons_of_neg (by simpa using hk)]
        rcases headsL_find h k ls (a + l.length + 1) with h1 | ⟨C, l2, D, y, h1, h2, h3, h4⟩
        · exact .inl h1
        · exact .inr ⟨l :: C, l2, D, y, by rw [h1]; rfl, h2, h3, by rw [h4, sz_cons]; omega⟩
    | false =>
      rw [if_neg (by simp)]
      rcases headsL_find h k ls (a + l.length + 1) with h1 | ⟨C, l2, D, y, h1, h2, h3, h4⟩
      · exact .inl h1
      · exact .inr ⟨l :: C, l2, D, y, by rw [h1]; rfl, h2, h3, by rw [h4, sz_cons]; omega⟩
end Go.Sh
end
section
namespace Go.Sh
set_option maxRecDepth 10000
set_option linter.all false

theorem menu_title : ∀ l ∈ menu, isH l = true → (headF l).2.1 = [115] ∨ (headF l).2.1 = [116] := by decide
theorem menu_ok : ∀ l ∈ menu, 10 ∉ l ∧ ∀ c ∈ l, c < 256 ∧ c ≠ 60 ∧ c ≠ 123 ∧ c ≠ 125 ∧ c ≠ 91 ∧ c ≠ 93 := by decide
theorem end_ok : isH [101, 110, 100] = false ∧ 10 ∉ [101, 110, 100] ∧ ∀ c ∈ [101, 110, 100], c < 256 ∧ c ≠ 60 ∧ c ≠ 123 ∧ c ≠ 125 ∧ c ≠ 91 ∧ c ≠ 93 := by decide

theorem dw_id {p : Nat → Bool} : ∀ {l : List Nat}, (∀ c ∈ l, p c = false) → l.dropWhile p = l
  | [], _ => rfl
  | x :: l, h => by rw [List.dropWhile_cons, h x (List.mem_cons_self ..)]; simp
theorem trimR_sub {p : Nat → Bool} : ∀ {l : List Nat} {c : Nat}, c ∈ trimR p l → c ∈ l := by
  intro l c h
  unfold trimR at h
  exact List.mem_reverse.1 ((List.dropWhile_sublist p).subset (List.mem_reverse.1 h))
theorem noeq_isH {t : List Nat} (h : 61 ∉ t) : isH t = false := by
  have h1 : (trimR isSp t).dropWhile isEq = trimR isSp t := dw_id fun c hc => by
    unfold isEq
    simp only [decide_eq_false_iff_not]
    intro e
    subst e
    exact h (trimR_sub hc)
  unfold isH headF
  simp only [h1, Nat.sub_self, true_or, if_true]

theorem isH_nil : isH [] = false := noeq_isH (by simp)

/-- A text that the tape can lay, or one made of it. -/
structure TextOK (ls : List (List Nat)) (last : List Nat) : Prop where
  ln : ∀ l ∈ ls, l ∈ menu ∨ (∀ c ∈ l, c ∉ needles ∧ c < 256)
  la : last = [101, 110, 100] ∨ (∀ c ∈ last, c ∉ needles ∧ c < 256)

theorem needles_out {c : Nat} (h : c ∉ needles) : c ≠ 61 ∧ c ≠ 123 ∧ c ≠ 125 ∧ c ≠ 91 ∧ c ≠ 93 ∧ c ≠ 60 ∧ c ≠ 10 := by
  simp only [needles, List.mem_cons, List.mem_nil_iff, or_false, not_or] at h
  omega
theorem TextOK.chars {ls : List (List Nat)} {last : List Nat} (h : TextOK ls last) : ∀ c ∈ textL ls last, c < 256 ∧ c ≠ 60 ∧ c ≠ 123 ∧ c ≠ 125 ∧ c ≠ 91 ∧ c ≠ 93 := by
  intro c hc
  unfold textL at hc
  rcases List.mem_append.1 hc with hc | hc
  · obtain ⟨x, hx, hcx⟩ := List.mem_flatten.1 hc
    obtain ⟨l, hl, rfl⟩ := List.mem_map.1 hx
    rcases List.mem_append.1 hcx with h1 | h1
    · rcases h.ln l hl with h2 | h2
      · exact (menu_ok l h2).2 c h1
      · have := needles_out (h2 c h1).1
        have := (h2 c h1).2
        omega
    · simp at h1
      omega
  · rcases h.la with h2 | h2
    · subst h2
      exact end_ok.2.2 c hc
    · have := needles_out (h2 c hc).1
      have := (h2 c hc).2
      omega
theorem TextOK.lines {ls : List (List Nat)} {last : List Nat} (h : TextOK ls last) : LinesOK (textL ls last) ls last where
  eq := rfl
  nl := fun l hl => by
    rcases h.ln l hl with h2 | h2
    · exact (menu_ok l h2).1
    · exact fun hm => (needles_out (h2 10 hm).1).2.2.2.2.2.2 rfl
  nlast := by
    rcases h.la with h2 | h2
    · subst h2
      exact end_ok.2.1
    · exact fun hm => (needles_out (h2 10 hm).1).2.2.2.2.2.2 rfl
theorem TextOK.last {ls : List (List Nat)} {last : List Nat} (h : TextOK ls last) : isH last = false := by
  rcases h.la with h2 | h2
  · subst h2
    exact end_ok.1
  · exact noeq_isH fun hm => (needles_out (h2 61 hm).1).1 rfl
theorem headsL_title {tot : Nat} {last : List Nat} (h : last = [] ∨ isH last = false) : ∀ (ls : List (List Nat)) (a : Nat) (y : Sec), y ∈ headsL tot a ls last → ∃ l ∈ ls, isH l = true ∧ y.title = (headF l).2.1
  | [], a, y, hy => by rw [headsL_nil h] at hy; simp at hy
  | l :: ls, a, y, hy => by
    rw [headsL_cons] at hy
    split at hy
    · rename_i hl
      rcases List.mem_cons.1 hy with e | hy
      · subst e
        exact ⟨l, List.mem_cons_self .., hl, rfl⟩
      · obtain ⟨l2, h1, h2⟩ := headsL_title h ls _ y hy
        exact ⟨l2, List.mem_cons_of_mem _ h1, h2⟩
    · obtain ⟨l2, h1, h2⟩ := headsL_title h ls _ y hy
      exact ⟨l2, List.mem_cons_of_mem _ h1, h2⟩
theorem TextOK.title {ls : List (List Nat)} {last : List Nat} (h : TextOK ls last) {tot a : Nat} {y : Sec} (hy : y ∈ headsL tot a ls last) : y.title = [115] ∨ y.title = [116] := by
  obtain ⟨l, h1, h2, h3⟩ := headsL_title (.inr h.last) ls a y hy
  rcases h.ln l h1 with h4 | h4
  · rw [h3]; exact menu_title l h4 h2
  · rw [noeq_isH fun hm => (needles_out (h4 61 hm).1).1 rfl] at h2
    exact (by cases h2)
theorem secsF_mem : ∀ {L : List Sec} {y : Sec}, y ∈ secsF L → ∃ x ∈ L, y.title = x.title ∧ y.frm = x.frm ∧ y.level = x.level ∧ y.body = x.body
  | x :: L, y, h => by
    rw [secsF] at h
    rcases List.mem_cons.1 h with e | h
    · subst e
      exact ⟨x, List.mem_cons_self .., rfl, rfl, rfl, rfl⟩
    · obtain ⟨z, h1, h2⟩ := secsF_mem h
      exact ⟨z, List.mem_cons_of_mem _ h1, h2⟩
theorem secsF_inv {L : List Sec} {i : Nat} {y : Sec} (h : (secsF L)[i]? = some y) : ∃ x, L[i]? = some x ∧ y = toF L i x := by
  have hi : i < L.length := by
    have := (List.getElem?_eq_some_iff.1 h).1
    rw [secsF_length] at this
    exact this
  refine ⟨L[i], List.getElem?_eq_getElem hi, ?_⟩
  have := secsF_get L i L[i] (List.getElem?_eq_getElem hi)
  rw [h] at this
  exact Option.some.inj this

theorem TextOK.noSec {ls : List (List Nat)} {last : List Nat} (h : TextOK ls last) (hlen : (textL ls last).length ≤ 8192) (hn : ls.length ≤ 8192) {c : Nat} (hc : c = 115 ∨ c = 116) : NoSec (textL ls last) [c, 120] := by
  refine ⟨fun x hx => (h.chars x hx).2, fun x hx => (h.chars x hx).1, hlen, ls, last, h.lines, ?_, fun y hy => ?_⟩
  · rw [secsF_length, headsL_len (.inr h.last)]
    exact Nat.le_trans (List.length_filter_le ..) hn
  · obtain ⟨x, hx, h1, _⟩ := secsF_mem hy
    have ht : (trimR isSp [c, 120]).dropWhile isSp = [c, 120] := by
      rcases hc with rfl | rfl <;> decide
    rw [ht, h1]
    rcases h.title hx with e | e <;> rw [e] <;> simp
end Go.Sh
end
section
namespace Go.Sh
set_option maxRecDepth 10000
set_option linter.all false

/-- What the law needs of a text, a section of it and the text that takes the section's place. -/
structure Law (s t : List Nat) (S : List Sec) (i : Nat) (x : Sec) (s' : List Nat) (S' : List Sec) (dr : Nat) : Prop where
  fb : x.frm < x.body
  bt : x.body ≤ x.to
  tl : x.to ≤ s.length
  nl : s[x.body - 1]? = some 10
  new : repS s ((s.drop x.frm).take (x.body - x.frm) ++ t) x = s'
  get : ∃ x', S'[i]? = some x' ∧ x'.title = x.title ∧ x'.level = x.level
  drop1 : ∀ j, i + 1 ≤ j → j < i + 1 + dr → ∃ y, S[j]? = some y ∧ y.frm < x.to
  drop2 : ∀ y, S[i + 1 + dr]? = some y → x.to ≤ y.frm
  drop3 : i + 1 + dr ≤ S.length
  len : S'.length + dr = S.length

theorem last_nl (l : List Nat) : (l ++ [10]).drop ((l ++ [10]).length - 1) = [10] := by
  rw [List.length_append, List.length_singleton, Nat.add_sub_cancel, List.drop_left]
theorem last_not {a t : List Nat} (ht : t ≠ []) (h : 10 ∉ t) : ¬ (a ++ t).drop ((a ++ t).length - 1) = [10] := by
  rcases List.eq_nil_or_concat t with e | ⟨r, z, e⟩
  · exact absurd e ht
  · rw [List.concat_eq_append] at e
    subst e
    rw [← List.append_assoc, List.length_append, List.length_singleton, Nat.add_sub_cancel, List.drop_left]
    intro e
    have : z = 10 := by simpa using e
    exact h (by simp [this])

theorem law_of {ls : List (List Nat)} {last t : List Nat} (hT : TextOK ls last) (ht : ∀ c ∈ t, c ∉ needles ∧ c < 256) {i : Nat} {x : Sec} (hx : (secsF (headsL (textL ls last).length 0 ls last))[i]? = some x) :
    ∃ ls' last' dr, TextOK ls' last' ∧ ls'.length ≤ ls.length + 1 ∧ (textL ls' last').length ≤ (textL ls last).length + t.length + 1 ∧
      Law (textL ls last) t (secsF (headsL (textL ls last).length 0 ls last)) i x (textL ls' last') (secsF (headsL (textL ls' last').length 0 ls' last')) dr := by
  obtain ⟨x0, hx0, hxe⟩ := secsF_inv hx
  have hl := Or.inr (a := last = []) hT.last
  obtain ⟨A, l, B, rfl, hh, hA, hx0e⟩ := headsL_cut hl _ _ _ _ hx0
  obtain ⟨tot, htot⟩ : ∃ tot, (textL (A ++ l :: B) last).length = tot := ⟨_, rfl⟩
  rw [htot] at hx hx0 hxe hx0e ⊢
  have htot2 : tot = sz A + (l.length + 1 + (sz B + last.length)) := by
    rw [← htot, textL_length, sz_append, sz_cons]
    omega
  have hs : textL (A ++ l :: B) last = textL A [] ++ (l ++ 10 :: textL B last) := by rw [textL_append, textL_cons]
  have hAl : (textL A []).length = sz A := rfl
  have hHA : (headsL tot 0 A []).length = i := by rw [headsL_len (.inl rfl), hA]
  have hR : headsL tot 0 (A ++ l :: B) last = headsL tot 0 A [] ++ x0 :: headsL tot (sz A + l.length + 1) B last := by
    rw [headsL_append, headsL_cons, if_pos hh, hx0e, Nat.zero_add]
  have hRd : (headsL tot 0 (A ++ l :: B) last).drop (i + 1) = headsL tot (sz A + l.length + 1) B last := by
    rw [hR, ← hHA, List.drop_append, List.drop_of_length_le (by omega), show (headsL tot 0 A []).length + 1 - (headsL tot 0 A []).length = 1 by omega]
    rfl
  have hRj : ∀ j, i + 1 ≤ j → (headsL tot 0 (A ++ l :: B) last)[j]? = (headsL tot (sz A + l.length + 1) B last)[j - (i + 1)]? := fun j hj => by
    rw [← hRd, List.getElem?_drop]
    congr 1
    omega
  have hfx : x.frm = sz A := by rw [hxe, hx0e]; simp [toF]
  have hbx : x.body = sz A + l.length + 1 := by rw [hxe, hx0e]; simp [toF]
  have htx : x.title = (headF l).2.1 := by rw [hxe, hx0e]; simp [toF]
  have hlx : x.level = (headF l).1 := by rw [hxe, hx0e]; simp [toF]
  have hhead : ((textL (A ++ l :: B) last).drop x.frm).take (x.body - x.frm) = l ++ [10] := by
    rw [hs, hfx, hbx, ← hAl, List.drop_left, show (textL A []).length + l.length + 1 - (textL A []).length = (l ++ [10]).length by simp; omega, show l ++ 10 :: textL B last = (l ++ [10]) ++ textL B last by simp, List.take_left]
  have hnl : (textL (A ++ l :: B) last)[x.body - 1]? = some 10 := by
    rw [hs, hbx, List.getElem?_append_right (by omega), List.getElem?_append_right (by omega)]
    rw [show sz A + l.length + 1 - 1 - (textL A []).length - l.length = 0 by omega]
    rfl
  have htk : (textL (A ++ l :: B) last).take x.frm = textL A [] := by rw [hs, hfx, ← hAl, List.take_left]
  have hSlen : ∀ L, (secsF L).length = L.length := secsF_length
  have hRlen : (headsL tot 0 (A ++ l :: B) last).length = i + 1 + nH B := by
    rw [hR, List.length_append, List.length_cons, hHA, headsL_len hl]
    omega
  have h10t : 10 ∉ t := fun hm => (needles_out (ht 10 hm).1).2.2.2.2.2.2 rfl
  have htH : isH t = false := noeq_isH fun hm => (needles_out (ht 61 hm).1).1 rfl
  have htl : ∀ m ∈ A, m ∈ menu ∨ (∀ c ∈ m, c ∉ needles ∧ c < 256) := fun m hm => hT.ln m (by simp [hm])
  have hll : l ∈ menu ∨ (∀ c ∈ l, c ∉ needles ∧ c < 256) := hT.ln l (by simp)
  have hxto : x.to = match (headsL tot (sz A + l.length + 1) B last).find? (fun y => decide (y.level ≤ x0.level)) with | some y => y.frm | none => x0.to := by
    rw [hxe, toF, hRd]
    cases (headsL tot (sz A + l.length + 1) B last).find? (fun y => decide (y.level ≤ x0.level)) <;> rfl
  rcases headsL_find hl x0.level B (sz A + l.length + 1) with hn | ⟨C, l2, D, y, hB, hl2, hf, hyf⟩
  · rw [hn] at hxto
    have hto : x.to = tot := by rw [hxto, hx0e]
    refine ⟨A ++ [l], t, nH B, ⟨fun m hm => ?_, .inr ht⟩, by simp, ?_, ⟨by omega, by omega, by omega, hnl, ?_, ?_, fun j h1 h2 => ?_, fun y hy => ?_, ?_, ?_⟩⟩
    · rcases List.mem_append.1 hm with h | h
      · exact htl m h
      · simp at h
        subst h
        exact hll
    · rw [textL_length, sz_append, sz_cons, show sz [] = 0 from rfl]
      omega
    · rw [hhead, repS, repT, if_neg (fun h => by omega), htk, hto, List.drop_of_length_le (by omega), textL_append, textL_cons]
      simp [textL]
    · refine ⟨_, secsF_get _ i ⟨(headF l).1, (headF l).2.1, 0 + sz A, 0 + sz A + l.length + 1, (textL (A ++ [l]) t).length⟩ ?_, ?_, ?_⟩
      · rw [headsL_append, headsL_cons, if_pos hh, List.getElem?_append_right (by rw [headsL_len (.inl rfl), hA]; exact Nat.le_refl _), headsL_len (.inl rfl), hA, Nat.sub_self]
        rfl
      · rw [htx]
      · rw [hlx]
    · have hj : j < (secsF (headsL tot 0 (A ++ l :: B) last)).length := by rw [hSlen, hRlen]; omega
      obtain ⟨y0, hy0, hye⟩ := secsF_inv (List.getElem?_eq_getElem hj)
      refine ⟨_, List.getElem?_eq_getElem hj, ?_⟩
      rw [hye, hto]
      show y0.frm < tot
      rw [hRj j h1] at hy0
      have := headsL_frm hl _ _ _ (List.mem_of_getElem? hy0)
      omega
    · have := (List.getElem?_eq_some_iff.1 hy).1
      rw [hSlen, hRlen] at this
      omega
    · rw [hSlen, hRlen]
      exact Nat.le_refl _
    · rw [hSlen, hSlen, hRlen, headsL_len (.inr htH), nH, List.filter_append, List.length_append, List.filter_cons, if_pos hh]
      rw [nH] at hA
      simp
      omega
  · rw [hf] at hxto
    have hto : x.to = sz A + l.length + 1 + sz C := by rw [hxto]; exact hyf
    subst hB
    have hszB : sz (C ++ l2 :: D) = sz C + (l2.length + 1 + sz D) := by rw [sz_append, sz_cons]
    have hnB : nH (C ++ l2 :: D) = nH C + nH (l2 :: D) := by rw [nH, List.filter_append, List.length_append]; rfl
    have hRB : headsL tot (sz A + l.length + 1) (C ++ l2 :: D) last = headsL tot (sz A + l.length + 1) C [] ++ headsL tot (sz A + l.length + 1 + sz C) (l2 :: D) last := headsL_append ..
    have hCl : (headsL tot (sz A + l.length + 1) C []).length = nH C := headsL_len (.inl rfl) ..
    have hdr : (textL (A ++ l :: (C ++ l2 :: D)) last).drop x.to = textL (l2 :: D) last := by
      rw [show A ++ l :: (C ++ l2 :: D) = (A ++ l :: C) ++ l2 :: D by simp, textL_append, hto, show sz A + l.length + 1 + sz C = (textL (A ++ l :: C) []).length by rw [textL_length, sz_append, sz_cons]; simp; omega, List.drop_left]
    have hlt : x.to < (textL (A ++ l :: (C ++ l2 :: D)) last).length := by omega
    obtain ⟨M, hM⟩ : ∃ M : List (List Nat), M = if t = [] then [] else [t] := ⟨_, rfl⟩
    have hMl : M.length ≤ 1 := by rw [hM]; split <;> simp
    have hMh : nH M = 0 := by
      rw [hM]
      split
      · rfl
      · rw [nH, List.filter_cons, if_neg (by simp [htH])]; rfl
    have hMs : sz M ≤ t.length + 1 := by
      rw [hM]
      split
      · simp [sz, textL]
      · rw [sz_cons]; simp [sz, textL]
    have hMm : ∀ m ∈ M, ∀ c ∈ m, c ∉ needles ∧ c < 256 := fun m hm => by
      rw [hM] at hm
      split at hm
      · simp at hm
      · simp at hm
        subst hm
        exact ht
    have hMt : textL M [] = if t = [] then [] else t ++ [10] := by
      rw [hM]
      split <;> simp [textL]
    refine ⟨A ++ l :: (M ++ l2 :: D), last, nH C, ⟨fun m hm => ?_, hT.la⟩, by simp; omega, ?_, ⟨by omega, by omega, by omega, hnl, ?_, ?_, fun j h1 h2 => ?_, fun y hy => ?_, ?_, ?_⟩⟩
    · rcases List.mem_append.1 hm with h | h
      · exact htl m h
      · rcases List.mem_cons.1 h with h | h
        · subst h
          exact hll
        · rcases List.mem_append.1 h with h | h
          · exact .inr (hMm m h)
          · exact hT.ln m (List.mem_append_right _ (List.mem_cons_of_mem _ (List.mem_append_right _ h)))
    · rw [textL_length, sz_append, sz_cons, sz_append, sz_cons]
      omega
    · have hnew : textL (A ++ l :: (M ++ l2 :: D)) last = textL A [] ++ (l ++ 10 :: (textL M [] ++ textL (l2 :: D) last)) := by rw [textL_append, textL_cons, textL_append]
      rw [hhead, repS, htk, hdr, hnew, hMt]
      by_cases e : t = []
      · subst e
        rw [List.append_nil, repT, if_neg (fun h => h.1 (last_nl l))]
        simp
      · rw [repT, if_pos ⟨last_not e h10t, hlt⟩, if_neg e]
        simp
    · refine ⟨_, secsF_get _ i ⟨(headF l).1, (headF l).2.1, 0 + sz A, 0 + sz A + l.length + 1, (textL (A ++ l :: (M ++ l2 :: D)) last).length⟩ ?_, ?_, ?_⟩
      · rw [headsL_append, headsL_cons, if_pos hh, List.getElem?_append_right (by rw [headsL_len (.inl rfl), hA]; exact Nat.le_refl _), headsL_len (.inl rfl), hA, Nat.sub_self]
        rfl
      · rw [htx]
      · rw [hlx]
    · have hj : j < (secsF (headsL tot 0 (A ++ l :: (C ++ l2 :: D)) last)).length := by rw [hSlen, hRlen]; omega
      obtain ⟨y0, hy0, hye⟩ := secsF_inv (List.getElem?_eq_getElem hj)
      refine ⟨_, List.getElem?_eq_getElem hj, ?_⟩
      rw [hye, hto]
      show y0.frm < _
      rw [hRj j h1, hRB, List.getElem?_append_left (by omega)] at hy0
      have := headsL_frm (.inl rfl) _ _ _ (List.mem_of_getElem? hy0)
      omega
    · obtain ⟨y0, hy0, hye⟩ := secsF_inv hy
      rw [hye, hto]
      show _ ≤ y0.frm
      rw [hRj _ (by omega), hRB, List.getElem?_append_right (by omega)] at hy0
      have := headsL_frm hl _ _ _ (List.mem_of_getElem? hy0)
      omega
    · rw [hSlen, hRlen]
      omega
    · rw [hSlen, hSlen, hRlen, headsL_len hl, hnB]
      have e1 : nH (A ++ l :: (M ++ l2 :: D)) = nH A + (1 + (nH M + nH (l2 :: D))) := by
        simp only [nH, List.filter_append, List.filter_cons, hh, if_true, List.length_append, List.length_cons]
        omega
      rw [e1]
      omega
end Go.Sh
end
