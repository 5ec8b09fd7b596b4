/-
  Symbolic reckoning: runes. (frame style z)
  The plain law of TopSections: what a replaced section does to the sections of a text.
  The plain law of TopSections: the texts.
-/
import Derived.Test.YtpcpmplkblbpbaaGreatDoorShC7
set_option linter.all false
section
namespace Go.Sh
set_option maxRecDepth 10000
set_option linter.all false
theorem enc_hi (r : Int) (h : 128 ≤ r) : ∃ u c, encS r = u ++ [c] ∧ 128 ≤ c ∧ c < 256 ∧ 1 ≤ u.length ∧ u.length ≤ 3 := by
  unfold encS Utf8.encode
  have h1 : 128 ≤ (if Utf8.valid r then r.toNat else Utf8.runeError) := by
    split
    · omega
    · decide
  generalize (if Utf8.valid r then r.toNat else Utf8.runeError) = c at h1
  have hl : 128 ≤ (128 + c % 64) % 256 ∧ (128 + c % 64) % 256 < 256 := by omega
  simp only
  rw [if_neg (by omega)]
  split
  · exact ⟨[_], _, rfl, by simpa [UInt8.toNat_ofNat] using hl.1, by simpa [UInt8.toNat_ofNat] using hl.2, by simp, by simp⟩
  · split
    · exact ⟨[_, _], _, rfl, by simpa [UInt8.toNat_ofNat] using hl.1, by simpa [UInt8.toNat_ofNat] using hl.2, by simp, by simp⟩
    · exact ⟨[_, _, _], _, rfl, by simpa [UInt8.toNat_ofNat] using hl.1, by simpa [UInt8.toNat_ofNat] using hl.2, by simp, by simp⟩
theorem dec_lo {s : List Nat} {i b : Nat} (h : s[i]? = some b) (hb : b < 128) : decS s i = (b, 1) := by
  unfold decS
  simp only [Nat.add_zero, List.getD_eq_getElem?_getD, h, Option.getD_some]
  rw [if_pos hb]
theorem dec_hi {s : List Nat} {i b : Nat} (h : s[i]? = some b) (hb : 128 ≤ b) (hb2 : b < 256) : ∃ r w, decS s i = (r, w) ∧ 128 ≤ r ∧ r < 1114112 ∧ 1 ≤ w ∧ i + w ≤ s.length ∧ ∀ k, i ≤ k → k < i + w → 128 ≤ s.getD k 0 := by
  have hi : i < s.length := (List.getElem?_eq_some_iff.1 h).1
  have h0 : s.getD i 0 = b := by rw [List.getD_eq_getElem?_getD, h]; rfl
  have one : ∃ r w, ((Utf8.runeError, 1) : Nat × Nat) = (r, w) ∧ 128 ≤ r ∧ r < 1114112 ∧ 1 ≤ w ∧ i + w ≤ s.length ∧ ∀ k, i ≤ k → k < i + w → 128 ≤ s.getD k 0 := by
    refine ⟨_, _, rfl, by decide, by decide, by omega, by omega, fun k h1 h2 => ?_⟩
    rw [show k = i by omega, h0]; exact hb
  unfold decS
  simp only [Nat.add_zero, h0]
  rw [if_neg (by omega)]
  split
  · rename_i hc
    simp only [Bool.and_eq_true, beq_iff_eq, decide_eq_true_eq] at hc
    split
    · refine ⟨_, _, rfl, by omega, by omega, by omega, by omega, fun k h1 h2 => ?_⟩
      by_cases e : k = i
      · rw [e, h0]; exact hb
      · rw [show k = i + 1 by omega]; omega
    · exact one
  · split
    · rename_i hc
      simp only [Bool.and_eq_true, beq_iff_eq, decide_eq_true_eq] at hc
      split
      · refine ⟨_, _, rfl, by rename_i hd; simp only [Bool.and_eq_true, decide_eq_true_eq] at hd; omega, by omega, by omega, by omega, fun k h1 h2 => ?_⟩
        by_cases e : k = i
        · rw [e, h0]; exact hb
        · by_cases e1 : k = i + 1
          · rw [e1]; omega
          · rw [show k = i + 2 by omega]; omega
      · exact one
    · split
      · rename_i hc
        simp only [Bool.and_eq_true, beq_iff_eq, decide_eq_true_eq] at hc
        split
        · rename_i hd
          simp only [Bool.and_eq_true, decide_eq_true_eq, Utf8.valid, Bool.or_eq_true] at hd
          refine ⟨_, _, rfl, by omega, by omega, by omega, by omega, fun k h1 h2 => ?_⟩
          by_cases e : k = i
          · rw [e, h0]; exact hb
          · by_cases e1 : k = i + 1
            · rw [e1]; omega
            · by_cases e2 : k = i + 2
              · rw [e2]; omega
              · rw [show k = i + 3 by omega]; omega
        · exact one
      · exact one
def needles : List Nat := [61, 123, 125, 91, 93, 60, 10]
theorem ixb_out : ∀ {l : List Nat} {c i : Nat}, c ∉ l → ixb l c i = -1
  | [], _, _, _ => rfl
  | x :: l, c, i, h => by
    have hx : Nat.beq x c = false := beq_false (by intro e; subst e; exact h (List.mem_cons_self ..))
    rw [ixb, hx]
    exact ixb_out fun hm => h (List.mem_cons_of_mem _ hm)
theorem ixb_neg : ∀ {l : List Nat} {c i : Nat}, ixb l c i < 0 → c ∉ l
  | [], _, _, _ => by simp
  | x :: l, c, i, h => by
    rw [ixb] at h
    cases hx : Nat.beq x c with
    | true =>
      rw [hx] at h
      have h2 : Int.ofNat i < 0 := h
      exact absurd h2 (by simp)
    | false =>
      rw [hx] at h
      have ih := ixb_neg (l := l) (c := c) h
      intro hm
      rcases List.mem_cons.1 hm with e | e
      · subst e
        rw [show Nat.beq c c = true from by simp] at hx
        exact (by cases hx)
      · exact ih e
section
variable {ts : T} {H : Heap}
def rngS (v : SV) (H : Heap) : Option (SV × Heap) := match v with
  | .str s => some (.ptr H.next 0, H.push (.siter s 0))
  | _ => none
@[go_sem] theorem op_rng (x : X) : evalOp (.rng x) ts H = rngS (x.ev ts) H := rfl
@[go_sem] theorem rng_str (s : List Nat) : rngS (.str s) H = some (.ptr H.next 0, H.push (.siter s 0)) := rfl
def nxtS (v : SV) (H : Heap) : Option (SV × Heap) := match v with
  | .ptr b 0 => match H.get b with
    | some (.siter s pos) => match Nat.blt pos s.length with
      | true => some (.tup [.bool true, sint pos, .int .i32 (Int.ofNat (decS s pos).1)], H.put b (.siter s (pos + (decS s pos).2)))
      | false => some (.tup [.bool false], H)
    | _ => none
  | _ => none
@[go_sem] theorem op_nxt (x : X) : evalOp (.nxt x) ts H = nxtS (x.ev ts) H := by
  unfold nxtS
  rfl
theorem nxt_more {b p r w : Nat} {s : List Nat} (h : H.get b = some (.siter s p)) (hp : p < s.length) (hd : decS s p = (r, w)) : nxtS (.ptr b 0) H = some (.tup [.bool true, .int .i64 (p : Int), .int .i32 (r : Int)], H.put b (.siter s (p + w))) := by
  simp only [nxtS, h, hd]
  rw [show Nat.blt p s.length = true from by simpa [Nat.blt_eq] using hp]
  rfl
theorem nxt_done {b p : Nat} {s : List Nat} (h : H.get b = some (.siter s p)) (hp : s.length ≤ p) : nxtS (.ptr b 0) H = some (.tup [.bool false], H) := by
  simp only [nxtS, h]
  rw [show Nat.blt p s.length = false from by
    cases e : Nat.blt p s.length with
    | false => rfl
    | true => rw [Nat.blt_eq] at e; omega]
end
end Go.Sh
end
section
namespace Go.Sh
set_option maxRecDepth 10000
set_option linter.all false
def sz (ls : List (List Nat)) : Nat := (textL ls []).length
theorem textL_append (A B : List (List Nat)) (last : List Nat) : textL (A ++ B) last = textL A [] ++ textL B last := by simp [textL]
theorem sz_cons (l : List Nat) (ls : List (List Nat)) : sz (l :: ls) = l.length + 1 + sz ls := by
  simp only [sz, textL_cons, List.length_append, List.length_cons]
  omega
theorem textL_length (ls : List (List Nat)) (last : List Nat) : (textL ls last).length = sz ls + last.length := by simp [sz, textL]
theorem sz_append (A B : List (List Nat)) : sz (A ++ B) = sz A + sz B := by
  simp only [sz, textL_append, List.length_append]
def isH (l : List Nat) : Bool := (headF l).2.2
theorem headsL_cons (tot a : Nat) (l : List Nat) (ls : List (List Nat)) (last : List Nat) :
    headsL tot a (l :: ls) last = if isH l = true then ⟨(headF l).1, (headF l).2.1, a, a + l.length + 1, tot⟩ :: headsL tot (a + l.length + 1) ls last else headsL tot (a + l.length + 1) ls last := rfl
theorem headsL_nil {tot a : Nat} {last : List Nat} (h : last = [] ∨ isH last = false) : headsL tot a [] last = [] := by
  rcases h with h | h
  · subst h; rfl
  · have h' : (headF last).2.2 = false := h
    simp [headsL, h']
theorem headsL_append (tot : Nat) (last : List Nat) : ∀ (A B : List (List Nat)) (a : Nat), headsL tot a (A ++ B) last = headsL tot a A [] ++ headsL tot (a + sz A) B last
  | [], B, a => by simp [headsL_nil, sz, textL]
  | l :: A, B, a => by
    rw [List.cons_append, headsL_cons, headsL_cons, headsL_append tot last A B, sz_cons]
    have e : a + l.length + 1 + sz A = a + (l.length + 1 + sz A) := by omega
    rw [e]
    split
    · rfl
    · rfl
def nH (ls : List (List Nat)) : Nat := (ls.filter isH).length
theorem headsL_len {tot : Nat} {last : List Nat} (h : last = [] ∨ isH last = false) : ∀ (ls : List (List Nat)) (a : Nat), (headsL tot a ls last).length = nH ls
  | [], a => by rw [headsL_nil h]; rfl
  | l :: ls, a => by
    rw [headsL_cons, nH, List.filter_cons]
    split
    · rw [List.length_cons, headsL_len h ls]; rfl
    · rw [headsL_len h ls]; rfl
theorem headsL_frm {tot : Nat} {last : List Nat} (h : last = [] ∨ isH last = false) : ∀ (ls : List (List Nat)) (a : Nat) (y : Sec), y ∈ headsL tot a ls last → a ≤ y.frm ∧ y.frm < a + sz ls ∧ y.to = tot
  | [], a, y, hy => by rw [headsL_nil h] at hy; simp at hy
  | l :: ls, a, y, hy => by
    rw [headsL_cons] at hy
    rw [sz_cons]
    split at hy
    · rcases List.mem_cons.1 hy with e | hy
      · subst e
        exact ⟨Nat.le_refl _, by dsimp only; omega, rfl⟩
      · have := headsL_frm h ls _ y hy
        omega
    · have := headsL_frm h ls _ y hy
      omega
theorem headsL_cut {tot : Nat} {last : List Nat} (h : last = [] ∨ isH last = false) : ∀ (ls : List (List Nat)) (a i : Nat) (x : Sec), (headsL tot a ls last)[i]? = some x → ∃ A l B, ls = A ++ l :: B ∧ isH l = true ∧ nH A = i ∧ x = ⟨(headF l).1, (headF l).2.1, a + sz A, a + sz A + l.length + 1, tot⟩
  | [], a, i, x, hx => by rw [headsL_nil h] at hx; simp at hx
  | l :: ls, a, i, x, hx => by
    rw [headsL_cons] at hx
    cases hl : isH l with
    | true =>
      rw [hl, if_pos rfl] at hx
      cases i with
      | zero =>
        simp at hx
        subst hx
        exact ⟨[], l, ls, rfl, hl, rfl, by simp [sz, textL]⟩
      | succ i =>
        rw [List.getElem?_cons_succ] at hx
        obtain ⟨A, l2, B, h1, h2, h3, h4⟩ := headsL_cut h ls _ i x hx
        refine ⟨l :: A, l2, B, by rw [h1]; rfl, h2, by rw [nH, List.filter_cons, if_pos hl, List.length_cons]; rw [nH] at h3; omega, ?_⟩
        rw [h4, sz_cons]
        congr 1 <;> omega
    | false =>
      rw [hl, if_neg (by simp)] at hx
      obtain ⟨A, l2, B, h1, h2, h3, h4⟩ := headsL_cut h ls _ i x hx
      refine ⟨l :: A, l2, B, by rw [h1]; rfl, h2, by rw [nH, List.filter_cons, if_neg (by simp [hl])]; exact h3, ?_⟩
      rw [h4, sz_cons]
      congr 1 <;> omega
theorem headsL_find {tot : Nat} {last : List Nat} (h : last = [] ∨ isH last = false) (k : Nat) : ∀ (ls : List (List Nat)) (a : Nat),
    (headsL tot a ls last).find? (fun y => decide (y.level ≤ k)) = none ∨ ∃ C l D y, ls = C ++ l :: D ∧ isH l = true ∧ (headsL tot a ls last).find? (fun y => decide (y.level ≤ k)) = some y ∧ y.frm = a + sz C
  | [], a => by rw [headsL_nil h]; exact .inl rfl
  | l :: ls, a => by
    rw [headsL_cons]
    cases hl : isH l with
    | true =>
      rw [if_pos rfl]
      by_cases hk : (headF l).1 ≤ k
      · exact .inr ⟨[], l, ls, _, rfl, hl, List.find?_cons_of_pos (by simpa using hk), by simp [sz, textL]⟩
      · rw [List.find?_cons_of_neg (by simpa using hk)]
        rcases headsL_find h k ls (a + l.length + 1) with h1 | ⟨C, l2, D, y, h1, h2, h3, h4⟩
        · exact .inl h1
        · exact .inr ⟨l :: C, l2, D, y, by rw [h1]; rfl, h2, h3, by rw [h4, sz_cons]; omega⟩
    | false =>
      rw [if_neg (by simp)]
      rcases headsL_find h k ls (a + l.length + 1) with h1 | ⟨C, l2, D, y, h1, h2, h3, h4⟩
      · exact .inl h1
      · exact .inr ⟨l :: C, l2, D, y, by rw [h1]; rfl, h2, h3, by rw [h4, sz_cons]; omega⟩
end Go.Sh
end
section
namespace Go.Sh
set_option maxRecDepth 10000
set_option linter.all false
theorem menu_title : ∀ l ∈ menu, isH l = true → (headF l).2.1 = [115] ∨ (headF l).2.1 = [116] := by decide
theorem menu_ok : ∀ l ∈ menu, 10 ∉ l ∧ ∀ c ∈ l, c < 256 ∧ c ≠ 60 ∧ c ≠ 123 ∧ c ≠ 125 ∧ c ≠ 91 ∧ c ≠ 93 := by decide
theorem end_ok : isH [101, 110, 100] = false ∧ 10 ∉ [101, 110, 100] ∧ ∀ c ∈ [101, 110, 100], c < 256 ∧ c ≠ 60 ∧ c ≠ 123 ∧ c ≠ 125 ∧ c ≠ 91 ∧ c ≠ 93 := by decide
theorem dw_id {p : Nat → Bool} : ∀ {l : List Nat}, (∀ c ∈ l, p c = false) → l.dropWhile p = l
  | [], _ => rfl
  | x :: l, h => by rw [List.dropWhile_cons, h x (List.mem_cons_self ..)]; simp
theorem trimR_sub {p : Nat → Bool} : ∀ {l : List Nat} {c : Nat}, c ∈ trimR p l → c ∈ l := by
  intro l c h
  unfold trimR at h
  exact List.mem_reverse.1 ((List.dropWhile_sublist p).subset (List.mem_reverse.1 h))
theorem noeq_isH {t : List Nat} (h : 61 ∉ t) : isH t = false := by
  have h1 : (trimR isSp t).dropWhile isEq = trimR isSp t := dw_id fun c hc => by
    unfold isEq
    simp only [decide_eq_false_iff_not]
    intro e
    subst e
    exact h (trimR_sub hc)
  unfold isH headF
  simp only [h1, Nat.sub_self, true_or, if_true]
theorem isH_nil : isH [] = false := noeq_isH (by simp)
structure TextOK (ls : List (List Nat)) (last : List Nat) : Prop where
  ln : ∀ l ∈ ls, l ∈ menu ∨ (∀ c ∈ l, c ∉ needles ∧ c < 256)
  la : last = [101, 110, 100] ∨ (∀ c ∈ last, c ∉ needles ∧ c < 256)
theorem needles_out {c : Nat} (h : c ∉ needles) : c ≠ 61 ∧ c ≠ 123 ∧ c ≠ 125 ∧ c ≠ 91 ∧ c ≠ 93 ∧ c ≠ 60 ∧ c ≠ 10 := by
  simp only [needles, List.mem_cons, List.mem_nil_iff, or_false, not_or] at h
  omega
theorem TextOK.chars {ls : List (List Nat)} {last : List Nat} (h : TextOK ls last) : ∀ c ∈ textL ls last, c < 256 ∧ c ≠ 60 ∧ c ≠ 123 ∧ c ≠ 125 ∧ c ≠ 91 ∧ c ≠ 93 := by
  intro c hc
  unfold textL at hc
  rcases List.mem_append.1 hc with hc | hc
  · obtain ⟨x, hx, hcx⟩ := List.mem_flatten.1 hc
    obtain ⟨l, hl, rfl⟩ := List.mem_map.1 hx
    rcases List.mem_append.1 hcx with h1 | h1
    · rcases h.ln l hl with h2 | h2
      · exact (menu_ok l h2).2 c h1
      · have := needles_out (h2 c h1).1
        have := (h2 c h1).2
        omega
    · simp at h1
      omega
  · rcases h.la with h2 | h2
    · subst h2
      exact end_ok.2.2 c hc
    · have := needles_out (h2 c hc).1
      have := (h2 c hc).2
      omega
theorem TextOK.lines {ls : List (List Nat)} {last : List Nat} (h : TextOK ls last) : LinesOK (textL ls last) ls last where
  eq := rfl
  nl := fun l hl => by
    rcases h.ln l hl with h2 | h2
    · exact (menu_ok l h2).1
    · exact fun hm => (needles_out (h2 10 hm).1).2.2.2.2.2.2 rfl
  nlast := by
    rcases h.la with h2 | h2
    · subst h2
      exact end_ok.2.1
    · exact fun hm => (needles_out (h2 10 hm).1).2.2.2.2.2.2 rfl
theorem TextOK.last {ls : List (List Nat)} {last : List Nat} (h : TextOK ls last) : isH last = false := by
  rcases h.la with h2 | h2
  · subst h2
    exact end_ok.1
  · exact noeq_isH fun hm => (needles_out (h2 61 hm).1).1 rfl
theorem headsL_title {tot : Nat} {last : List Nat} (h : last = [] ∨ isH last = false) : ∀ (ls : List (List Nat)) (a : Nat) (y : Sec), y ∈ headsL tot a ls last → ∃ l ∈ ls, isH l = true ∧ y.title = (headF l).2.1
  | [], a, y, hy => by rw [headsL_nil h] at hy; simp at hy
  | l :: ls, a, y, hy => by
    rw [headsL_cons] at hy
    split at hy
    · rename_i hl
      rcases List.mem_cons.1 hy with e | hy
      · subst e
        exact ⟨l, List.mem_cons_self .., hl, rfl⟩
      · obtain ⟨l2, h1, h2⟩ := headsL_title h ls _ y hy
        exact ⟨l2, List.mem_cons_of_mem _ h1, h2⟩
    · obtain ⟨l2, h1, h2⟩ := headsL_title h ls _ y hy
      exact ⟨l2, List.mem_cons_of_mem _ h1, h2⟩
theorem TextOK.title {ls : List (List Nat)} {last : List Nat} (h : TextOK ls last) {tot a : Nat} {y : Sec} (hy : y ∈ headsL tot a ls last) : y.title = [115] ∨ y.title = [116] := by
  obtain ⟨l, h1, h2, h3⟩ := headsL_title (.inr h.last) ls a y hy
  rcases h.ln l h1 with h4 | h4
  · rw [h3]; exact menu_title l h4 h2
  · rw [noeq_isH fun hm => (needles_out (h4 61 hm).1).1 rfl] at h2
    exact (by cases h2)
theorem secsF_mem : ∀ {L : List Sec} {y : Sec}, y ∈ secsF L → ∃ x ∈ L, y.title = x.title ∧ y.frm = x.frm ∧ y.level = x.level ∧ y.body = x.body
  | x :: L, y, h => by
    rw [secsF] at h
    rcases List.mem_cons.1 h with e | h
    · subst e
      exact ⟨x, List.mem_cons_self .., rfl, rfl, rfl, rfl⟩
    · obtain ⟨z, h1, h2⟩ := secsF_mem h
      exact ⟨z, List.mem_cons_of_mem _ h1, h2⟩
theorem secsF_inv {L : List Sec} {i : Nat} {y : Sec} (h : (secsF L)[i]? = some y) : ∃ x, L[i]? = some x ∧ y = toF L i x := by
  have hi : i < L.length := by
    have := (List.getElem?_eq_some_iff.1 h).1
    rw [secsF_length] at this
    exact this
  refine ⟨L[i], List.getElem?_eq_getElem hi, ?_⟩
  have := secsF_get L i L[i] (List.getElem?_eq_getElem hi)
  rw [h] at this
  exact Option.some.inj this
end Go.Sh
end
