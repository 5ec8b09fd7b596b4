/-
  slices.Insert at units, as the table says it: sound.
-/
import Derived.Test.YtpcpmplkblbpbaaGreatDoorShE5
import Derived.Test.YtpcpmplkblbpbaaGreatDoorShB3
set_option linter.all false
section
set_option linter.all false
namespace Go.Sh
open Go.Proofs
open Go.RowKit (Below)
theorem shift_cells {C : Array Value} {base k : Nat} {csv vsv : List Value} (hC : ∀ (t : Nat) (u : Value), csv[t]? = some u → C[base + t]? = some u) (hk : k ≤ csv.length) (hroom : base + csv.length + vsv.length ≤ C.size) :
    ∀ (t : Nat) (u : Value), (csv.take k ++ (vsv ++ csv.drop k))[t]? = some u → (setL (setL C (base + k + vsv.length) (csv.drop k)) (base + k) vsv)[base + t]? = some u := by
  intro t u h
  have hdl : (csv.drop k).length = csv.length - k := List.length_drop ..
  have htl : (csv.take k).length = k := by rw [List.length_take]; omega
  rw [setL_get _ _ _ _ (by rw [setL_size]; omega)]
  rw [List.getElem?_append] at h
  split at h
  · rename_i h1
    rw [htl] at h1
    rw [if_neg (by omega), setL_get _ _ _ _ (by omega), if_neg (by omega)]
    rw [List.getElem?_take, if_pos h1] at h
    exact hC t u h
  · rename_i h1
    rw [htl] at h1 h
    rw [List.getElem?_append] at h
    split at h
    · rename_i h2
      rw [if_pos (by omega), ← h]
      congr 1
      omega
    · rename_i h2
      have hlt := (List.getElem?_eq_some_iff.1 h).1
      rw [if_neg (by omega), setL_get _ _ _ _ (by omega), if_pos (by omega), ← h]
      congr 1
      omega
theorem grow_cells {C : Array Value} {k : Nat} {csv vsv : List Value} (hC : ∀ (t : Nat) (u : Value), (csv.take k)[t]? = some u → C[t]? = some u) (hk : k ≤ csv.length) (hroom : csv.length + vsv.length ≤ C.size) :
    ∀ (t : Nat) (u : Value), (csv.take k ++ (vsv ++ csv.drop k))[t]? = some u → (setL (setL C k vsv) (k + vsv.length) (csv.drop k))[t]? = some u := by
  intro t u h
  have hdl : (csv.drop k).length = csv.length - k := List.length_drop ..
  have htl : (csv.take k).length = k := by rw [List.length_take]; omega
  rw [setL_get _ _ _ _ (by rw [setL_size]; omega)]
  rw [List.getElem?_append] at h
  split at h
  · rename_i h1
    rw [htl] at h1
    rw [if_neg (by omega), setL_get _ _ _ _ (by omega), if_neg (by omega)]
    exact hC t u h
  · rename_i h1
    rw [htl] at h1 h
    rw [List.getElem?_append] at h
    split at h
    · rename_i h2
      rw [if_neg (by omega), setL_get _ _ _ _ (by omega), if_pos (by omega), ← h]
    · rename_i h2
      have hlt := (List.getElem?_eq_some_iff.1 h).1
      rw [if_pos (by omega), ← h]
      congr 1
      omega
section
variable {φ : Emb} {B : Nat} {H : Heap} {w w' : World}
theorem HR.renew {b : Nat} {l : Loc} {cs cs' : List SV} {e : TypeId} {rs : List Value} (hh : HR φ B H w) (hl : φ b = some l) (hg : H.get b = some (.row cs e false false 0)) (hs : w'.heap.size = w.heap.size) (hw : ∀ k, k ≠ l.rb → w'.heap[k]? = w.heap[k]?)
    (hr : VRL φ cs' rs) (hlen : l.base + cs'.length ≤ l.tot) (hb' : ∀ C f, w.heap[l.rb]? = some (.cells C e f) → C.size = l.tot → ∃ C', w'.heap[l.rb]? = some (.cells C' e f) ∧ C'.size = C.size ∧ ∀ (t : Nat) (u : Value), rs[t]? = some u → C'[l.base + t]? = some u) :
    HR (φ.ins H.next ⟨l.rb, l.base, l.tot⟩) B ((H.put b .dead).push (.row cs' e false false 0)) w' := by
  have ho := hh.obj b l hl
  have hlive := HR.live_row hg
  rw [hg] at ho
  cases ho with
  | row hb hsz hc hlen0 hex hro hfr =>
    rename_i C lo hi
    obtain ⟨C', h1, h2, h3⟩ := hb' C (lo, hi) hb hsz
    have hle1 : φ.le (φ.ins H.next ⟨l.rb, l.base, l.tot⟩) := Emb.le_ins hh.fresh
    have hd := hh.dom b l hl
    refine ⟨fun c m em => ?_, fun c c' m m' em em' hrr hc1 hc2 => ?_, fun c m em => ?_, ?_⟩
    · unfold Emb.ins at em
      rw [hs]
      split at em
      · cases em; rename_i ec; subst ec; simp only [Heap.push, Heap.put]; omega
      · have := hh.dom c m em; simp only [Heap.push, Heap.put]; omega
    · have hnext : (H.put b .dead).next = H.next := rfl
      have hdead : ∀ c, c ≠ H.next → live (((H.put b .dead).push (.row cs' e false false 0)).get c) → c ≠ b ∧ live (H.get c) := by
        intro c hcn hlv
        rw [Heap.get_push, hnext, if_neg hcn, Heap.get_put] at hlv
        by_cases k : c = b
        · rw [if_pos k] at hlv; exact hlv.elim
        · rw [if_neg k] at hlv; exact ⟨k, hlv⟩
      by_cases k : c = H.next
      · by_cases k' : c' = H.next
        · rw [k, k']
        · exfalso
          obtain ⟨q1, q2⟩ := hdead c' k' hc2
          simp only [Emb.ins, if_pos k, Option.some.injEq] at em
          simp only [Emb.ins, if_neg k'] at em'
          subst em
          exact q1 (hh.inj c' b m' l em' hl hrr.symm q2 hlive)
      · obtain ⟨q1, q2⟩ := hdead c k hc1
        by_cases k' : c' = H.next
        · exfalso
          simp only [Emb.ins, if_pos k', Option.some.injEq] at em'
          simp only [Emb.ins, if_neg k] at em
          subst em'
          exact q1 (hh.inj c b m l em hl hrr q2 hlive)
        · obtain ⟨q1', q2'⟩ := hdead c' k' hc2
          simp only [Emb.ins, if_neg k] at em
          simp only [Emb.ins, if_neg k'] at em'
          exact hh.inj c c' m m' em em' hrr q2 q2'
    · rw [Heap.get_push, show (H.put b .dead).next = H.next from rfl]
      by_cases k : c = H.next
      · rw [if_pos k]
        simp only [Emb.ins, if_pos k, Option.some.injEq] at em
        subst em
        refine .row h1 (by rw [h2, hsz]) (fun i x hx => ?_) hlen (fun h => by cases h) hro (fun h0 i h1 h2 => hfr h0 i h1 h2)
        obtain ⟨u, q1, q2⟩ := hr.get _ _ hx
        exact ⟨u, h3 _ _ q1, q2.mono hle1⟩
      · rw [if_neg k, Heap.get_put]
        simp only [Emb.ins, if_neg k] at em
        split
        · exact .dead
        · rename_i k2
          by_cases hrr : m.rb = l.rb
          · cases hgc : H.get c with
            | none => exact .none
            | some oo =>
              cases oo with
              | dead => exact .dead
              | _ => exact absurd (hh.inj c b m l em hl hrr (by rw [hgc]; trivial) hlive) k2
          · exact (hh.obj c m em).mono hle1 (hw _ hrr)
    · rw [hs]; exact hh.sz
theorem list1 {x : Value} {l : List Value} (h : VRL φ [] l) : l = [] := by cases h; rfl
theorem natInsert_ok {G : Ground} {args : List SV} {v : SV} {H' : Heap} (hv : natInsert args H = some (v, H')) {args' : Array Value} (ha : VRL φ args args'.toList) (hg : HG G φ B H w) : Calls Tryz.prog 38 args' w (CPost φ B H w v H') := by
  have hh := hg.1
  have L := ins_tryz
  unfold natInsert at hv
  split at hv
  · rename_i b n i vb vc
    split at hv
    · rename_i cs xs hgb hgv
      split at hv
      · rename_i hcond
        cases hv
        simp only [Bool.and_eq_true, Bool.not_eq_true', List.all_eq_true] at hcond
        obtain ⟨⟨⟨⟨⟨⟨k1, k2⟩, k3⟩, k8⟩, k4⟩, k5, k6⟩, k7⟩ := hcond
        have hcl : cs.length = n * 3 := Nat.eq_of_beq_eq_true k1
        have hxl : xs.length = 3 := Nat.eq_of_beq_eq_true k2
        have hin : i ≤ n := Nat.le_of_ble_eq_true k3
        have hn0 : 0 < n := by rw [Nat.blt_eq] at k8; exact k8
        have hn1 : n < 100000 := by rw [Nat.blt_eq] at k4; exact k4
        have hone : cs.all SV.one = true := List.all_eq_true.2 k5
        have hxone : xs.all SV.one = true := List.all_eq_true.2 k6
        have hbv : b ≠ vb := fun e => by rw [e] at k7; simp at k7
        have hld : loadC H b 0 (n * 3) = some cs := by
          unfold loadC
          rw [hgb]
          dsimp only
          rw [show Nat.ble (0 + n * 3) cs.length = true from Nat.ble_eq_true_of_le (by omega)]
          dsimp only
          rw [List.drop_zero, ← hcl, List.take_length]
        have hldv : loadC H vb 0 3 = some xs := by
          unfold loadC
          rw [hgv]
          dsimp only
          rw [show Nat.ble (0 + 3) xs.length = true from Nat.ble_eq_true_of_le (by omega)]
          dsimp only
          rw [List.drop_zero, ← hxl, List.take_length]
        obtain ⟨al⟩ := args'
        cases ha with
        | cons h1 ha =>
          cases ha with
          | cons h2 ha =>
            cases ha with
            | cons h3 ha =>
              cases ha
              cases h2
              cases h1 with
              | slice0 _ => omega
              | slice hl hcap hnc htot =>
                rename_i cap l
                cases h3 with
                | slice hlv hcapv hnv htotv =>
                  rename_i capv lv
                  obtain ⟨csv, hv1, hl1, hc1, ht1⟩ := hh.load hl hld
                  obtain ⟨xsv, hv2, hl2, hc2, ht2⟩ := hh.load hlv hldv
                  have ho := hh.obj b l hl
                  have hov := hh.obj vb lv hlv
                  have hlive := HR.live_row hgb
                  have hlivev := HR.live_row hgv
                  rw [hgb] at ho
                  rw [hgv] at hov
                  have hd := hh.dom b l hl
                  have hdv := hh.dom vb lv hlv
                  have hrbne : lv.rb ≠ l.rb := fun e => hbv (hh.inj b vb l lv hl hlv e.symm hlive hlivev)
                  cases ho with
                  | row hb hsz hc hlen hex hro hfr =>
                    rename_i C lo hi
                    cases hov with
                    | row hb' hsz' hc' hlen' hex' hro' hfr' =>
                      rename_i C' lo' hi'
                      obtain ⟨q1, q2⟩ := hex' rfl
                      have hB := hro rfl
                      have h1c := hv1.one hone
                      have h1v := hv2.one hxone
                      have hcs : ∀ (j : Nat) (v : Value), csv[j]? = some v → w.cell? ⟨l.rb, l.base + 0 + j, none⟩ = some v := hc1
                      have hvs : ∀ (j : Nat) (v : Value), xsv[j]? = some v → w.cell? ⟨lv.rb, lv.base + 0 + j, none⟩ = some v := hc2
                      have hsp : ∀ j, l.base + 0 + j < C.size → (w.cell? ⟨l.rb, l.base + 0 + j, none⟩).isSome = true := fun j hj => by
                        rw [cell?_at w _ _ C 51 _ hb, Array.getElem?_eq_getElem hj]; rfl
                      have hfz : ∀ j, l.base + 0 + j < C.size → w.frozen? ⟨l.rb, l.base + 0 + j, none⟩ = false := fun j hj => by
                        rw [frozen?_at w _ _ C 51 lo hi hb]
                        have := hfr rfl (l.base + 0 + j) (by omega) (.inl (by omega))
                        simp at this ⊢
                        omega
                      have hCc : ∀ (t : Nat) (u : Value), csv[t]? = some u → C[l.base + t]? = some u := fun t u h => by
                        have := hcs t u h
                        rw [cell?_at w _ _ C 51 _ hb, Nat.add_zero] at this
                        exact this
                      have hvr : VRL φ (cs.take (i * 3) ++ (xs ++ cs.drop (i * 3))) (csv.take (i * 3) ++ (xsv ++ csv.drop (i * 3))) := (hv1.take _).append (hv2.append (hv1.drop _))
                      have hnl : (cs.take (i * 3) ++ (xs ++ cs.drop (i * 3))).length = (n + 1) * 3 := by
                        simp only [List.length_append, List.length_take, List.length_drop]; omega
                      have hrl : (csv.take (i * 3) ++ (xsv ++ csv.drop (i * 3))).length = (n + 1) * 3 := by
                        simp only [List.length_append, List.length_take, List.length_drop]; omega
                      have htot' : l.base + cap * 3 ≤ C.size := by omega
                      by_cases hroom : n + 1 ≤ cap
                      · have done : ∀ w', w' = (w.drew.setCells l.rb (l.base + 0 + (i + 1) * 3) (csv.drop (i * 3))).setCells l.rb (l.base + 0 + i * 3) xsv ∨ (i = n ∧ w' = w.setCells l.rb (l.base + 0 + n * 3) xsv) →
                            CPost φ B H w (.slice H.next 0 (n + 1) none 3) ((H.put b .dead).push (.row (cs.take (i * 3) ++ (xs ++ cs.drop (i * 3))) 51 false false 0)) (.returned (.slice (some ⟨l.rb, l.base + 0, none⟩) (n + 1) cap)) w' := by
                          intro w' hw'
                          have hdrop : i = n → csv.drop (i * 3) = [] := fun e => List.drop_of_length_le (by rw [e]; omega)
                          have hs : w'.heap.size = w.heap.size ∧ (∀ k, k ≠ l.rb → w'.heap[k]? = w.heap[k]?) ∧ w'.heap[l.rb]? = some (.cells (setL (setL C (l.base + i * 3 + xsv.length) (csv.drop (i * 3))) (l.base + i * 3) xsv) 51 (lo, hi)) ∧ Below B w w' := by
                            rcases hw' with rfl | ⟨e, rfl⟩
                            · refine ⟨by rw [World.size_setCells, World.size_setCells]; rfl, fun k hk => by rw [World.heap_setCells_other _ _ hk, World.heap_setCells_other _ _ hk]; rfl, ?_, ?_⟩
                              · have e1 : l.base + 0 + (i + 1) * 3 = l.base + i * 3 + xsv.length := by omega
                                rw [e1, Nat.add_zero]
                                exact World.heap_setCells_same l.rb xsv (l.base + i * 3) _ _ 51 _ (World.heap_setCells_same l.rb (csv.drop (i * 3)) _ w.drew C 51 _ hb)
                              · exact ((Below.refl B w).drew.trans (Below.setCells hB _ _ _)).trans (Below.setCells hB _ _ _)
                            · refine ⟨World.size_setCells _ _ _ _, fun k hk => World.heap_setCells_other _ _ hk _ _ _, ?_, Below.setCells hB _ _ _⟩
                              rw [hdrop e, e, Nat.add_zero]
                              exact World.heap_setCells_same l.rb xsv (l.base + n * 3) w C 51 _ hb
                          obtain ⟨s1, s2, s3, s4⟩ := hs
                          have hnew := hh.renew (cs' := cs.take (i * 3) ++ (xs ++ cs.drop (i * 3))) hl hgb s1 s2 hvr (by rw [hnl]; omega) (fun C2 f hf hs2 => by
                            rw [hb] at hf
                            cases hf
                            refine ⟨_, s3, by rw [setL_size, setL_size], ?_⟩
                            intro t u hu
                            exact shift_cells hCc (by omega) (by omega) t u hu)
                          refine ⟨Nat.le_succ _, _, _, Emb.ext_ins hh.fresh, rfl, ?_, hnew, s4⟩
                          exact .slice (l := ⟨l.rb, l.base, l.tot⟩) (Emb.ins_same _ _ _) (fun k hk => by cases hk) hroom (by simp only; omega)
                        by_cases hi : i = n
                        · subst hi
                          have hC := ins_end_room (rb := l.rb) (off := l.base + 0) (n := i) (cap := cap) (vb := lv.rb) (voff := lv.base + 0) (m := 1) (vc := capv) L (by omega) hroom (by omega) (fun j hj => by rw [Nat.add_assoc]; exact hsp _ (by omega)) (fun j hj => by rw [Nat.add_assoc]; exact hfz _ (by omega)) hvs h1v
                          refine hC.mono ?_
                          rintro e w' ⟨rfl, rfl⟩
                          exact done _ (.inr ⟨rfl, rfl⟩)
                        · have hunf : ∀ j, w.frozen? ⟨lv.rb, j, none⟩ = false := fun j => by
                            rw [frozen?_at w _ _ C' 51 lo' hi' hb']
                            have := hfr' rfl j (by omega) (.inr rfl)
                            simp at this ⊢
                            omega
                          have hC := ins_shift (rb := l.rb) (off := l.base + 0) (n := n) (cap := cap) (vb := lv.rb) (voff := lv.base + 0) (m := 1) (vc := capv) (i := i) L (by omega) (by omega) hroom (by omega) hrbne hl1 (by omega) hcs (fun j hj => hsp _ (by omega)) (fun j hj => hfz _ (by omega)) hvs h1c h1v
                            51 51 C'.size C.size (by simp [World.shape?, hb']) (by simp [World.shape?, hb]) (by omega) (hunf _) (hunf _)
                          refine hC.mono ?_
                          rintro e w' ⟨rfl, rfl⟩
                          exact done _ (.inl rfl)
                      · have hk := hh.kill b
                        have hnx : (H.put b .dead).next = H.next := rfl
                        obtain ⟨G2, hG2⟩ : ∃ g, grownCap w (n + 1) cap 51 = g := ⟨_, rfl⟩
                        have hGn : n + 1 ≤ G2 := by rw [← hG2]; exact grownCap_ge w _ _ _
                        by_cases hi : i = n
                        · subst hi
                          have hC := ins_end_grow (rb := l.rb) (off := l.base + 0) (n := i) (cap := cap) (vb := lv.rb) (voff := lv.base + 0) (m := 1) (vc := capv) L (by omega) hnc (by omega) (by omega) hl1 (by omega) hcs hvs
                          rw [hG2] at hC
                          refine hC.mono ?_
                          rintro e w' ⟨rfl, rfl⟩
                          have e1 : csv.take (i * 3) ++ (xsv ++ csv.drop (i * 3)) = csv ++ xsv := by
                            rw [List.take_of_length_le (by omega), List.drop_of_length_le (by omega), List.append_nil]
                          rw [e1] at hvr
                          have hall := hk.allocMore (vs := csv.toArray ++ xsv.toArray ++ Builtin.zeroCells (Value.agg #[.string ⟨#[]⟩, .int .i64 0, .string ⟨#[]⟩]).cells (G2 - (i + 1))) (e := 51) hvr (fun j v h => grown_get j v h) (by simp) (w0 := w.drew) rfl (Below.refl _ _).drew
                          have hsize : (csv.toArray ++ xsv.toArray ++ Builtin.zeroCells (Value.agg #[.string ⟨#[]⟩, .int .i64 0, .string ⟨#[]⟩]).cells (G2 - (i + 1))).size = G2 * 3 := by
                            simp only [Array.size_append, List.size_toArray, size_zeroCells, hl1, hl2]
                            show i * 3 + 3 + (G2 - (i + 1)) * 3 = _
                            omega
                          obtain ⟨g1, g2⟩ := hall
                          rw [hnx] at g1
                          refine ⟨Nat.le_succ _, _, _, Emb.ext_ins hh.fresh, rfl, ?_, g1, g2⟩
                          exact .slice (l := ⟨w.heap.size, 0, _⟩) (Emb.ins_same _ _ _) (fun k hk => by cases hk) hGn (by simp only [hsize, Nat.zero_add]; exact Nat.le_refl _)
                        · have hC := ins_grow (rb := l.rb) (off := l.base + 0) (n := n) (cap := cap) (vb := lv.rb) (voff := lv.base + 0) (m := 1) (vc := capv) (i := i) L (by omega) (by omega) hnc (by omega) (by omega) hl1 (by omega) hd.2 hdv.2 hcs hvs h1c h1v
                          rw [hG2] at hC
                          refine hC.mono ?_
                          rintro e w' ⟨rfl, rfl⟩
                          obtain ⟨ROW, hROW⟩ : ∃ ROW : Array Value, (csv.take (i * 3)).toArray ++ Builtin.zeroCells (Value.agg #[.string ⟨#[]⟩, .int .i64 0, .string ⟨#[]⟩]).cells (n + 1 - i) ++ Builtin.zeroCells (Value.agg #[.string ⟨#[]⟩, .int .i64 0, .string ⟨#[]⟩]).cells (G2 - (n + 1)) = ROW := ⟨_, rfl⟩
                          have htl : (csv.take (i * 3)).length = i * 3 := by rw [List.length_take]; omega
                          have hsize : ROW.size = G2 * 3 := by
                            rw [← hROW]
                            simp only [Array.size_append, List.size_toArray, size_zeroCells, htl]
                            show i * 3 + (n + 1 - i) * 3 + (G2 - (n + 1)) * 3 = _
                            omega
                          have hpre : ∀ (t : Nat) (u : Value), (csv.take (i * 3))[t]? = some u → ROW[t]? = some u := fun t u h => by
                            have hlt := (List.getElem?_eq_some_iff.1 h).1
                            rw [← hROW, Array.getElem?_append_left (by simp only [Array.size_append, List.size_toArray]; omega), Array.getElem?_append_left (by simp only [List.size_toArray]; omega)]
                            simpa using h
                          rw [hROW]
                          have e1 : (i + 1) * 3 = i * 3 + xsv.length := by omega
                          rw [e1]
                          obtain ⟨w0, hw0⟩ : ∃ w0, w.alloc (.cells ROW 51) = w0 := ⟨_, rfl⟩
                          have hn0' : w0.heap[w.heap.size]? = some (.cells ROW 51) := by rw [← hw0]; exact heap_alloc_new w _
                          have hs0 : w0.heap.size = w.heap.size + 1 := by rw [← hw0]; simp
                          have hold : ∀ k, k < w.heap.size → w0.heap[k]? = w.heap[k]? := fun k hk => by rw [← hw0]; exact Below.heap_alloc _ _ _ hk
                          have hb0 : Below B w w0 := by rw [← hw0]; exact (Below.refl _ _).alloc hh.sz _
                          rw [hw0]
                          obtain ⟨w2, hw2⟩ : ∃ w2, ((w0.drew.setCells w.heap.size (i * 3) xsv).drew).setCells w.heap.size (i * 3 + xsv.length) (csv.drop (i * 3)) = w2 := ⟨_, rfl⟩
                          rw [hw2]
                          have r1 : w2.heap.size = w.heap.size + 1 := by rw [← hw2, World.size_setCells]; show (w0.drew.setCells _ _ _).heap.size = _; rw [World.size_setCells]; exact hs0
                          have r2 : ∀ k, k < w.heap.size → w2.heap[k]? = w.heap[k]? := fun k hk => by
                            rw [← hw2, World.heap_setCells_other _ _ (by omega)]
                            show (w0.drew.setCells _ _ _).heap[k]? = _
                            rw [World.heap_setCells_other _ _ (by omega)]
                            exact hold k hk
                          have r3 : w2.heap[w.heap.size]? = some (.cells (setL (setL ROW (i * 3) xsv) (i * 3 + xsv.length) (csv.drop (i * 3))) 51) := by
                            rw [← hw2]
                            refine World.heap_setCells_same _ _ _ _ _ 51 (0, 0) ?_
                            show (w0.drew.setCells _ _ _).heap[w.heap.size]? = _
                            exact World.heap_setCells_same _ _ _ _ _ 51 (0, 0) hn0'
                          have r4 : Below B w w2 := by
                            rw [← hw2]
                            exact (((hb0.drew).trans (Below.setCells hh.sz _ _ _)).drew).trans (Below.setCells hh.sz _ _ _)
                          have hpush := hk.push (l := ⟨w.heap.size, 0, ROW.size⟩) (so := .row (cs.take (i * 3) ++ (xs ++ cs.drop (i * 3))) 51 false false 0) rfl r1 r2 (fun hn => by
                            refine .row (lo := 0) (hi := 0) hn (by rw [setL_size, setL_size]) (fun t x hx => ?_) (by simp only [Nat.zero_add]; rw [hnl]; omega) (fun h => by cases h) (fun _ => hh.sz) (fun _ t _ _ => by omega)
                            obtain ⟨u, u1, u2⟩ := hvr.get _ _ hx
                            refine ⟨u, ?_, u2.mono (Emb.le_ins hk.fresh)⟩
                            rw [Nat.zero_add]
                            exact grow_cells hpre (by omega) (by omega) t u u1) r3
                          rw [hnx] at hpush
                          refine ⟨Nat.le_succ _, _, _, Emb.ext_ins hh.fresh, rfl, ?_, hpush, r4⟩
                          exact .slice (l := ⟨w.heap.size, 0, ROW.size⟩) (Emb.ins_same _ _ _) (fun k hk => by cases hk) hGn (by simp only [hsize, Nat.zero_add]; exact Nat.le_refl _)
      · cases hv
    · cases hv
  · cases hv
end
end Go.Sh
end
