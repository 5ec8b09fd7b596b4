/-
  Differences: keep and change. (frame style z)
-/
import Derived.Test.YtpcpmplkblbpbaaGreatDoorShD5
set_option linter.all false
section
namespace Go.Sh
set_option maxRecDepth 10000
set_option linter.all false
def strL (L : List (List Nat)) : List (List SV) := L.map fun x => [.str x]
theorem strL_flat (L : List (List Nat)) : (strL L).flatten = L.map SV.str := by
  induction L with
  | nil => rfl
  | cons x L ih => show [SV.str x] ++ (strL L).flatten = _; rw [ih]; rfl
theorem strL_len (L : List (List Nat)) : (strL L).length = L.length := List.length_map ..
theorem strL_all (L : List (List Nat)) : AllL 1 (strL L) := fun x hx => by
  obtain ⟨t, _, rfl⟩ := List.mem_map.1 hx
  rfl
theorem strL_snoc (L : List (List Nat)) (x : List Nat) : strL (L ++ [x]) = strL L ++ [[.str x]] := by simp [strL]
def Lr (lo hi : Nat) (H : Heap) (v : SV) (L : List (List Nat)) : Prop :=
  ∃ (b o : Nat) (cap : Option Nat) (cs : List SV) (ex ro : Bool) (frz : Nat), v = .slice b o L.length cap 1 ∧ lo ≤ b ∧ b < hi ∧ H.get b = some (.row cs 9 ex ro frz) ∧ (∀ c, cap = some c → o + c ≤ cs.length ∧ L.length ≤ c) ∧ o + L.length ≤ cs.length ∧ ∀ j x, L[j]? = some x → cs[o + j]? = some (.str x)
theorem Lr.ls {lo hi : Nat} {H : Heap} {v : SV} {L : List (List Nat)} (h : Lr lo hi H v L) (hh : hi ≤ H.next) : Ls lo H v L := by
  obtain ⟨b, o, cap, cs, ex, ro, frz, h1, h2, h3, h4⟩ := h
  exact ⟨b, o, cap, cs, ex, ro, frz, h1, h2, Nat.lt_of_lt_of_le h3 hh, h4⟩
theorem Ls.lr {lo : Nat} {H : Heap} {v : SV} {L : List (List Nat)} (h : Ls lo H v L) : Lr lo H.next H v L := h
theorem Lr.mono {lo lo' hi hi' : Nat} {H : Heap} {v : SV} {L : List (List Nat)} (h : Lr lo hi H v L) (h1 : lo' ≤ lo) (h2 : hi ≤ hi') : Lr lo' hi' H v L := by
  obtain ⟨b, o, cap, cs, ex, ro, frz, h3, h4, h5, h6⟩ := h
  exact ⟨b, o, cap, cs, ex, ro, frz, h3, by omega, by omega, h6⟩
theorem Lr.fr {B0 lo hi sp : Nat} {H H' : Heap} {v : SV} {L : List (List Nat)} {cs : List SV} (h : Lr lo hi H v L) (hsp : H.get sp = some (.row cs 75 true false 0)) (hF : FrS B0 sp H H') (hh : hi ≤ H.next) : Lr lo hi H' v L := by
  obtain ⟨b, o, cap, cs', ex, ro, frz, h3, h4, h5, h6, h7⟩ := h
  refine ⟨b, o, cap, cs', ex, ro, frz, h3, h4, h5, ?_, h7⟩
  rw [hF.2 b (by omega) (fun e => by rw [e, hsp] at h6; injection h6 with h6; injection h6 with _ h6; exact absurd h6 (by decide)) (.inr fun cs e => by rw [h6] at e; injection e with e; injection e with _ e; exact absurd e (by decide))]
  exact h6
theorem Sl.lr {mark : Nat} {H : Heap} {w : SV} {L : List (List Nat)} (h : Sl mark 9 1 H w (strL L)) (h0 : L ≠ []) : Lr mark H.next H w L := by
  rcases h with ⟨h, _⟩ | ⟨_, b, h1, h2, rfl, h4⟩
  · exact absurd h (by simpa [strL] using h0)
  · rw [strL_len]
    rw [strL_flat] at h4
    exact ⟨b, 0, none, _, false, false, 0, rfl, h1, h2, h4, (fun c h => by cases h), by rw [List.length_map]; omega, fun j x hx => by rw [Nat.zero_add, List.getElem?_map, hx]; rfl⟩
theorem Sl.fr {B0 mark sp : Nat} {H H' : Heap} {w : SV} {L : List (List Nat)} {cs : List SV} (h : Sl mark 9 1 H w (strL L)) (hsp : H.get sp = some (.row cs 75 true false 0)) (hF : FrS B0 sp H H') : Sl mark 9 1 H' w (strL L) := by
  rcases h with h | ⟨h0, b, h1, h2, h3, h4⟩
  · exact .inl h
  · refine .inr ⟨h0, b, h1, Nat.lt_of_lt_of_le h2 hF.1, h3, ?_⟩
    rw [hF.2 b h2 (fun e => by rw [e, hsp] at h4; injection h4 with h4; injection h4 with _ h4; exact absurd h4 (by decide)) (.inr fun cs e => by rw [h4] at e; injection e with e; injection e with _ e; exact absurd e (by decide))]
    exact h4
theorem Sl.one {mark e z : Nat} {H : Heap} {w : SV} {L : List (List SV)} (h : Sl mark e z H w L) : SV.one w = true := by
  rcases h with ⟨_, rfl⟩ | ⟨_, b, _, _, rfl, _⟩ <;> rfl
structure Scr (B0 mark : Nat) (H : Heap) (sp : Nat) (E : List Edt) (D I K : List (List Nat)) (wd wi wk : SV) : Prop where
  row : ∃ we, H.get sp = some (.row [we, wd, wi, wk] 75 true false 0) ∧ Sl B0 66 2 H we (E.map edC)
  spn : sp < H.next
  el : ∀ e ∈ E, e.2.2 ≠ [] ∧ Lr B0 mark H e.2.1 e.2.2
  d : Sl mark 9 1 H wd (strL D)
  i : Sl mark 9 1 H wi (strL I)
  k : Sl mark 9 1 H wk (strL K)
  di : ∀ b n, wd = .slice b 0 n none 1 → ∀ n', wi ≠ .slice b 0 n' none 1
  m0 : B0 ≤ mark
  m1 : mark ≤ H.next
theorem put_frs {B0 sp : Nat} {H : Heap} (o : SObj) : FrS B0 sp H (H.put sp o) := ⟨Nat.le_refl _, fun c _ hc _ => get_put_other hc⟩
section
variable {lf n : Nat} {H : Heap}
theorem keep_ok {B0 mark sp : Nat} {E : List Edt} {D I K : List (List Nat)} {wd wi wk : SV} (h : Scr B0 mark H sp E D I K wd wi wk) (hx : K = [] ∨ (D = [] ∧ I = [])) (hl : E.length < 10000) (hK : K.length < 100000) (hn : 2 ≤ n) :
    ∃ mark' H', callS tabT lf n 26 [.ptr sp 0] H = some (.tup [], H') ∧ FrS B0 sp H H' ∧ Scr B0 mark' H' sp (addE E 1 wk K) D I [] wd wi .nils := by
  obtain ⟨n, rfl⟩ : ∃ m, n = m + 1 := ⟨n - 1, by omega⟩
  obtain ⟨we, hrow, hwe⟩ := h.row
  have hlk : lenlS wk = some (.int .i64 (K.length : Int)) := by rw [h.k.lenl, strL_len]
  obtain ⟨we', H1, hadd, hF1, hrow1, hwe1⟩ := add_ok (lf := lf) (n := n) (k := 1) hrow h.spn hwe (Nat.le_trans h.m0 h.m1) hlk h.k.one hl hK (by omega)
  have key : ∃ v H', callS tabT lf (n + 1) 26 [.ptr sp 0] H = some (v, H') ∧ v = .tup [] ∧ H' = H1.put sp (.row [we', wd, wi, .nils] 75 true false 0) := by
    have hst : storeS 1 (.ptr sp 3) [.nils] H1 = some (H1.put sp (.row [we', wd, wi, .nils] 75 true false 0)) := by
      rw [store_ptr (n := 1) (cs := [.nils]) rfl, storeC_eq, hrow1, sto_row (by simp) (by omega) (by simp [SV.one])]
      rfl
    have cn : SV.nils.cells = [.nils] := rfl
    refine call_code tab26 (by simp only [c26, go_sem, List.reduceReplicate, Nat.reduceAdd, Nat.reduceSub]; exact rfl) ?_
    simp only [c26]
    refine stp @hrow ?_
    refine kst trivial hadd ?_
    refine stp (And.intro @hst @cn) ?_
    refine funR_normal res_nil ?_
    exact (⟨rfl, rfl⟩)
  obtain ⟨v, H', hc, rfl, rfl⟩ := key
  have hF := hF1.trans (put_frs (B0 := B0) (sp := sp) (H := H1) (.row [we', wd, wi, .nils] 75 true false 0))
  have hwe2 : Sl B0 66 2 (H1.put sp (.row [we', wd, wi, .nils] 75 true false 0)) we' ((addE E 1 wk K).map edC) := by
    rcases hwe1 with hh | ⟨h0, b, q1, q2, q3, q4⟩
    · exact .inl hh
    · refine .inr ⟨h0, b, q1, by rw [next_put]; exact q2, q3, ?_⟩
      rw [get_put_other (fun e => by rw [e, hrow1] at q4; injection q4 with q4; injection q4 with _ q4; exact absurd q4 (by decide))]
      exact q4
  by_cases h0 : K = []
  · refine ⟨mark, _, hc, hF, ⟨⟨we', get_put_self _ _, hwe2⟩, Nat.lt_of_lt_of_le h.spn hF.1, fun e he => ?_, h.d.fr hrow hF, h.i.fr hrow hF, .inl ⟨rfl, rfl⟩, h.di, h.m0, Nat.le_trans h.m1 hF.1⟩⟩
    rw [addE, if_pos h0] at he
    exact ⟨(h.el e he).1, (h.el e he).2.fr hrow hF h.m1⟩
  · obtain ⟨rfl, rfl⟩ : D = [] ∧ I = [] := by
      rcases hx with hx | hx
      · exact absurd hx h0
      · exact hx
    have nd : wd = .nils := by
      rcases h.d with ⟨_, e⟩ | ⟨e, _⟩
      · exact e
      · exact absurd rfl e
    have ni : wi = .nils := by
      rcases h.i with ⟨_, e⟩ | ⟨e, _⟩
      · exact e
      · exact absurd rfl e
    subst nd ni
    refine ⟨H.next, _, hc, hF, ⟨⟨we', get_put_self _ _, hwe2⟩, Nat.lt_of_lt_of_le h.spn hF.1, fun e he => ?_, .inl ⟨rfl, rfl⟩, .inl ⟨rfl, rfl⟩, .inl ⟨rfl, rfl⟩, h.di, Nat.le_trans h.m0 h.m1, hF.1⟩⟩
    rw [addE, if_neg h0, List.mem_append, List.mem_singleton] at he
    rcases he with he | rfl
    · exact ⟨(h.el e he).1, ((h.el e he).2.mono (Nat.le_refl _) h.m1).fr hrow hF (Nat.le_refl _)⟩
    · exact ⟨h0, ((h.k.lr h0).mono h.m0 (Nat.le_refl _)).fr hrow hF (Nat.le_refl _)⟩
theorem change_ok' {B0 mark sp : Nat} {E : List Edt} {D I K : List (List Nat)} {wd wi wk : SV} (h : Scr B0 mark H sp E D I K wd wi wk) (hx : K = [] ∨ (D = [] ∧ I = [])) (hl : E.length < 9999) (hD : D.length < 100000) (hI : I.length < 100000) (hn : 2 ≤ n) :
    ∃ mark' H', callS tabT lf n 25 [.ptr sp 0] H = some (.tup [], H') ∧ FrS B0 sp H H' ∧ Scr B0 mark' H' sp (addE (addE E 2 wd D) 3 wi I) [] [] K .nils .nils wk := by
  obtain ⟨n, rfl⟩ : ∃ m, n = m + 1 := ⟨n - 1, by omega⟩
  obtain ⟨we, hrow, hwe⟩ := h.row
  have hld : lenlS wd = some (.int .i64 (D.length : Int)) := by rw [h.d.lenl, strL_len]
  have hli : lenlS wi = some (.int .i64 (I.length : Int)) := by rw [h.i.lenl, strL_len]
  have hB := Nat.le_trans h.m0 h.m1
  obtain ⟨we1, H1, hadd1, hF1, hrow1, hwe1⟩ := add_ok (lf := lf) (n := n) (k := 2) hrow h.spn hwe hB hld h.d.one (by omega) hD (by omega)
  have hl1 : (addE E 2 wd D).length < 10000 := by
    unfold addE
    split
    · omega
    · rw [List.length_append]; simp; omega
  obtain ⟨we2, H2, hadd2, hF2, hrow2, hwe2⟩ := add_ok (lf := lf) (n := n) (k := 3) hrow1 (Nat.lt_of_lt_of_le h.spn hF1.1) hwe1 (Nat.le_trans hB hF1.1) hli h.i.one hl1 hI (by omega)
  have key : ∃ v H', callS tabT lf (n + 1) 25 [.ptr sp 0] H = some (v, H') ∧ v = .tup [] ∧ H' = (H2.put sp (.row [we2, .nils, wi, wk] 75 true false 0)).put sp (.row [we2, .nils, .nils, wk] 75 true false 0) := by
    have hst : storeS 1 (.ptr sp 1) [.nils] H2 = some (H2.put sp (.row [we2, .nils, wi, wk] 75 true false 0)) := by
      rw [store_ptr (n := 1) (cs := [.nils]) rfl, storeC_eq, hrow2, sto_row (by simp) (by omega) (by simp [SV.one])]
      rfl
    have hst2 : storeS 1 (.ptr sp 2) [.nils] (H2.put sp (.row [we2, .nils, wi, wk] 75 true false 0)) = some ((H2.put sp (.row [we2, .nils, wi, wk] 75 true false 0)).put sp (.row [we2, .nils, .nils, wk] 75 true false 0)) := by
      rw [store_ptr (n := 1) (cs := [.nils]) rfl, storeC_eq, get_put_self, sto_row (by simp) (by omega) (by simp [SV.one])]
      rfl
    have cn : SV.nils.cells = [.nils] := rfl
    refine call_code tab25 (by simp only [c25, go_sem, List.reduceReplicate, Nat.reduceAdd, Nat.reduceSub]; exact rfl) ?_
    simp only [c25]
    refine stp @hrow ?_
    refine kst trivial hadd1 ?_
    refine stp @hrow1 ?_
    refine kst trivial hadd2 ?_
    refine stp (And.intro @hst (And.intro @cn @hst2)) ?_
    refine funR_normal res_nil ?_
    exact (⟨rfl, rfl⟩)
  obtain ⟨v, H', hc, rfl, rfl⟩ := key
  have hF := ((hF1.trans hF2).trans (put_frs (.row [we2, .nils, wi, wk] 75 true false 0))).trans (put_frs (.row [we2, .nils, .nils, wk] 75 true false 0))
  have hwe3 : Sl B0 66 2 ((H2.put sp (.row [we2, .nils, wi, wk] 75 true false 0)).put sp (.row [we2, .nils, .nils, wk] 75 true false 0)) we2 ((addE (addE E 2 wd D) 3 wi I).map edC) := by
    rcases hwe2 with hh | ⟨h0, b, q1, q2, q3, q4⟩
    · exact .inl hh
    · refine .inr ⟨h0, b, q1, by rw [next_put, next_put]; exact q2, q3, ?_⟩
      have hb : b ≠ sp := fun e => by rw [e, hrow2] at q4; injection q4 with q4; injection q4 with _ q4; exact absurd q4 (by decide)
      rw [get_put_other hb, get_put_other hb]
      exact q4
  by_cases h0 : D = [] ∧ I = []
  · obtain ⟨rfl, rfl⟩ := h0
    refine ⟨mark, _, hc, hF, ⟨⟨we2, get_put_self _ _, hwe3⟩, Nat.lt_of_lt_of_le h.spn hF.1, fun e he => ?_, .inl ⟨rfl, rfl⟩, .inl ⟨rfl, rfl⟩, h.k.fr hrow hF, (fun b n e => by cases e), h.m0, Nat.le_trans h.m1 hF.1⟩⟩
    rw [addE, if_pos rfl, addE, if_pos rfl] at he
    exact ⟨(h.el e he).1, (h.el e he).2.fr hrow hF h.m1⟩
  · have hK : K = [] := by
      rcases hx with hx | hx
      · exact hx
      · exact absurd hx h0
    subst hK
    have nk : wk = .nils := by
      rcases h.k with ⟨_, e⟩ | ⟨e, _⟩
      · exact e
      · exact absurd rfl e
    subst nk
    refine ⟨H.next, _, hc, hF, ⟨⟨we2, get_put_self _ _, hwe3⟩, Nat.lt_of_lt_of_le h.spn hF.1, fun e he => ?_, .inl ⟨rfl, rfl⟩, .inl ⟨rfl, rfl⟩, .inl ⟨rfl, rfl⟩, (fun b n e => by cases e), hB, hF.1⟩⟩
    have hmem : e ∈ E ∨ (D ≠ [] ∧ e = (2, wd, D)) ∨ (I ≠ [] ∧ e = (3, wi, I)) := by
      by_cases q1 : D = []
      · by_cases q2 : I = []
        · rw [addE, if_pos q2, addE, if_pos q1] at he
          exact .inl he
        · rw [addE, if_neg q2, addE, if_pos q1, List.mem_append, List.mem_singleton] at he
          exact he.elim .inl fun h => .inr (.inr ⟨q2, h⟩)
      · by_cases q2 : I = []
        · rw [addE, if_pos q2, addE, if_neg q1, List.mem_append, List.mem_singleton] at he
          exact he.elim .inl fun h => .inr (.inl ⟨q1, h⟩)
        · rw [addE, if_neg q2, addE, if_neg q1, List.mem_append, List.mem_append, List.mem_singleton, List.mem_singleton] at he
          rcases he with (h | h) | h
          · exact .inl h
          · exact .inr (.inl ⟨q1, h⟩)
          · exact .inr (.inr ⟨q2, h⟩)
    rcases hmem with he | ⟨h1, rfl⟩ | ⟨h1, rfl⟩
    · exact ⟨(h.el e he).1, ((h.el e he).2.mono (Nat.le_refl _) h.m1).fr hrow hF (Nat.le_refl _)⟩
    · exact ⟨h1, ((h.d.lr h1).mono h.m0 (Nat.le_refl _)).fr hrow hF (Nat.le_refl _)⟩
    · exact ⟨h1, ((h.i.lr h1).mono h.m0 (Nat.le_refl _)).fr hrow hF (Nat.le_refl _)⟩
theorem own_app {mark : Nat} {w : SV} {L : List (List Nat)} (hw : Sl mark 9 1 H w (strL L)) (hB : mark ≤ H.next) (x : List Nat) (hl : L.length < 100000) :
    ∃ H2, appV (H.push (.row [.str x] 9 true false 0)) false 9 1 16 w (.slice H.next 0 1 (some 1) 1) = some (.slice (H.next + 1) 0 (L.length + 1) none 1, H2) ∧ H2.next = H.next + 2 ∧ H2.get (H.next + 1) = some (.row ((L ++ [x]).map SV.str) 9 false false 0) ∧
      ∀ c, c < H.next → (∀ n, w ≠ .slice c 0 n none 1) → H2.get c = H.get c := by
  have hE : Ext H (H.push (.row [.str x] 9 true false 0)) := (Ext.refl _).push _
  obtain ⟨H2, ha, hg, hn2, hf⟩ := app_own (bytes := 16) (c := some 1) (hw.keep hE) (strL_all L) (x := [.str x]) rfl rfl (get_push_self (H := H) _) (by rw [next_push]; omega) (by rw [strL_len]; omega) (by rw [strL_len]; omega)
  rw [strL_len] at ha
  refine ⟨H2, ha, hn2, ?_, fun c hc hv => ?_⟩
  · rw [← strL_snoc, strL_flat] at hg
    exact hg
  · rw [hf c (by rw [next_push]; omega) hv, hE.2 c hc]
theorem Sl.no {mark e z : Nat} {w : SV} {L : List (List SV)} {c : Nat} (h : Sl mark e z H w L) (hc : c < mark ∨ ∀ cs, H.get c ≠ some (.row cs e false false 0)) : ∀ n, w ≠ .slice c 0 n none z := fun n e => by
  rcases h with ⟨_, h⟩ | ⟨_, b, h1, _, h, hr⟩
  · rw [h] at e; cases e
  · rw [h] at e
    injection e with e1
    subst e1
    rcases hc with hc | hc
    · omega
    · exact hc _ hr
theorem Sl.no2 {mark e z : Nat} {w : SV} {L : List (List SV)} {n : Nat} (h : Sl mark e z H w L) : w ≠ .slice (H.next + 1) 0 n none z := fun e => by
  rcases h with ⟨_, h⟩ | ⟨_, b, h1, h2, h, hr⟩
  · rw [h] at e; cases e
  · rw [h] at e
    injection e with e1
    omega
theorem Sl.keep2 {mark e z : Nat} {w v : SV} {L : List (List SV)} {H2 : Heap} (h : Sl mark e z H v L) (hf : ∀ c, c < H.next → (∀ n, w ≠ .slice c 0 n none z) → H2.get c = H.get c) (hn : H.next ≤ H2.next) (hd : ∀ b n, v = .slice b 0 n none z → ∀ n', w ≠ .slice b 0 n' none z) : Sl mark e z H2 v L := by
  rcases h with h | ⟨h0, b, h1, h2, h3, h4⟩
  · exact .inl h
  · exact .inr ⟨h0, b, h1, by omega, h3, by rw [hf b h2 (hd b _ h3)]; exact h4⟩
theorem Scr.next {B0 mark sp : Nat} {E : List Edt} {D I K D' I' K' : List (List Nat)} {wd wi wk wd' wi' wk' w : SV} {H2 : Heap} {L : List (List Nat)} (h : Scr B0 mark H sp E D I K wd wi wk) (hw : Sl mark 9 1 H w (strL L)) (hn2 : H.next ≤ H2.next)
    (hf : ∀ c, c < H.next → (∀ n, w ≠ .slice c 0 n none 1) → H2.get c = H.get c) (hd : Sl mark 9 1 H2 wd' (strL D')) (hi : Sl mark 9 1 H2 wi' (strL I')) (hk : Sl mark 9 1 H2 wk' (strL K'))
    (hdi : ∀ b n, wd' = .slice b 0 n none 1 → ∀ n', wi' ≠ .slice b 0 n' none 1) :
    ∃ we, H2.get sp = some (.row [we, wd, wi, wk] 75 true false 0) ∧ Scr B0 mark (H2.put sp (.row [we, wd', wi', wk'] 75 true false 0)) sp E D' I' K' wd' wi' wk' ∧
      ∀ c, c < H.next → c < B0 → c ≠ sp → (H2.put sp (.row [we, wd', wi', wk'] 75 true false 0)).get c = H.get c := by
  obtain ⟨we, hrow, hwe⟩ := h.row
  have h75 : ∀ cs, H.get sp ≠ some (.row cs 9 false false 0) := fun cs e => by rw [hrow] at e; injection e with e; injection e with _ e; exact absurd e (by decide)
  have hsp2 := hf sp h.spn (hw.no (.inr h75))
  rw [hrow] at hsp2
  have hother : ∀ {v : SV} {M : List (List Nat)}, Sl mark 9 1 H2 v (strL M) → Sl mark 9 1 (H2.put sp (.row [we, wd', wi', wk'] 75 true false 0)) v (strL M) := fun {v M} hv => by
    rcases hv with hv | ⟨q0, b, q1, q2, q3, q4⟩
    · exact .inl hv
    · refine .inr ⟨q0, b, q1, q2, q3, ?_⟩
      rw [get_put_other (fun e => by rw [e, hsp2] at q4; injection q4 with q4; injection q4 with _ q4; exact absurd q4 (by decide))]
      exact q4
  refine ⟨we, hsp2, ⟨⟨we, get_put_self _ _, ?_⟩, by rw [next_put]; have := h.spn; omega, fun e he => ⟨(h.el e he).1, ?_⟩, hother hd, hother hi, hother hk, hdi, h.m0, by rw [next_put]; have := h.m1; omega⟩, fun c hc hcb hcs => ?_⟩
  · rcases hwe with hh | ⟨q0, b, q1, q2, q3, q4⟩
    · exact .inl hh
    · refine .inr ⟨q0, b, q1, by rw [next_put]; omega, q3, ?_⟩
      rw [get_put_other (fun e => by rw [e, hrow] at q4; injection q4 with q4; injection q4 with _ q4; exact absurd q4 (by decide)), hf b q2 (hw.no (.inr fun cs e => by rw [q4] at e; injection e with e; injection e with _ e; exact absurd e (by decide)))]
      exact q4
  · obtain ⟨b, o, cap, cs, ex, ro, frz, q1, q2, q3, q4, q5⟩ := (h.el e he).2
    refine ⟨b, o, cap, cs, ex, ro, frz, q1, q2, q3, ?_, q5⟩
    have := h.m1
    rw [get_put_other (fun e => by rw [e, hrow] at q4; injection q4 with q4; injection q4 with _ q4; exact absurd q4 (by decide)), hf b (by omega) (hw.no (.inl q3))]
    exact q4
  · have := h.m0
    rw [get_put_other hcs, hf c hc (hw.no (.inl (by omega)))]
end
end Go.Sh
end
