/-
  The groups of a user. (frame style z)
  A title put into a sorted list. (frame style z)
-/
import Derived.Test.YtnhogklhegmjhaaGreatDoorShC4
set_option linter.all false
section
namespace Go.Sh
set_option maxRecDepth 10000
set_option linter.all false
def subsL {α : Type} : List α → List (List α)
  | [] => [[]]
  | x :: l => subsL l ++ (subsL l).map (x :: ·)
def grpS : List (List (List Nat)) := subsL [sAll, sGold, sMods, sStaff, sUsers]
theorem grpS_put : ∀ L ∈ grpS, ∀ s ∈ knownL, putL L s ∈ grpS := by decide +kernel
theorem grpS_len : ∀ L ∈ grpS, L.length ≤ 5 := by decide +kernel
theorem grpS_grow : ∀ L ∈ grpS, ∀ s ∈ knownL, L.length ≤ (putL L s).length := by decide +kernel
abbrev Gr := List Nat × SV × List (List Nat)
def grC (g : Gr) : List SV := [.str g.1, g.2.1]
structure GrOK (H : Heap) (g : Gr) : Prop where
  nm : g.1 ∈ grpL
  sl : RSl H g.2.1 1 (strL g.2.2)
  len : g.2.2.length ≤ 20
  mem : ∀ m ∈ g.2.2, m ∈ memL
structure GrsOK (H : Heap) (v : SV) (G : List Gr) : Prop where
  sl : RSl H v 2 (G.map grC)
  at_ : ∀ g ∈ G, GrOK H g
  len : G.length ≤ 3
theorem GrsOK.keep {H H' : Heap} {v : SV} {G : List Gr} (h : GrsOK H v G) (hE : Ext H H') : GrsOK H' v G :=
  ⟨h.sl.keep hE, fun g hg => ⟨(h.at_ g hg).nm, (h.at_ g hg).sl.keep hE, (h.at_ g hg).len, (h.at_ g hg).mem⟩, h.len⟩
theorem grpL_known : ∀ s ∈ grpL, s ∈ knownL := by decide +kernel
theorem rowL_sub {q : Option SObj} {o z i m : Nat} {x : List SV} (h : rowL q o z = some x) (him : i + m ≤ z) : rowL q (o + i) m = some ((x.drop i).take m) := by
  cases q with
  | none => cases h
  | some ob =>
    cases ob with
    | row cs e ex ro frz =>
      simp only [rowL] at h ⊢
      cases hle : Nat.ble (o + z) cs.length with
      | false => rw [hle] at h; cases h
      | true =>
        rw [hle] at h
        have hle := Nat.le_of_ble_eq_true hle
        rw [ble_true (show o + i + m ≤ cs.length by omega)]
        have h := Option.some.inj h
        rw [← h, List.drop_take, List.take_take, List.drop_drop, Nat.min_eq_left (by omega)]
    | _ => cases h
theorem tab15 : tabT 15 = some (.code c15) := by kernel_rfl
section
variable {lf n : Nat} {H : Heap}
@[reducible] def I15 (H0 H1 : Heap) (pc : SV) (user : List Nat) (m : Nat) (ts : T) (D : DS) (H' : Heap) : Prop :=
  D = [] ∧ Ext H1 H' ∧ ∃ (L : List (List Nat)) (v : SV) (q : Int), L ∈ grpS ∧ RSl H' v 1 (strL L) ∧ -1 ≤ q ∧ q ≤ L.length ∧ (m : Int) = 12 - (L.length + (q + 1)) ∧ ∃ z : Nat → SV, ts = ((pc) :: (.str user) :: (.ptr H0.next 0) :: z 3 :: z 4 :: (v) :: (.int .i64 q) :: z 7 :: z 8 :: z 9 :: z 10 :: z 11 :: z 12 :: z 13 :: z 14 :: z 15 :: z 16 :: z 17 :: z 18 :: z 19 :: z 20 :: z 21 :: z 22 :: z 23 :: z 24 :: z 25 :: z 26 :: z 27 :: z 28 :: z 29 :: z 30 :: z 31 :: z 32 :: z 33 :: z 34 :: z 35 :: z 36 :: z 37 :: z 38 :: z 39 :: z 40 :: z 41 :: z 42 :: [] : T) ∧ (True)
@[reducible] def J15 (H0 H1 : Heap) (pc : SV) (user : List Nat) (G : List Gr) (q : Nat) (m : Nat) (ts : T) (D : DS) (H' : Heap) : Prop :=
  D = [] ∧ Ext H1 H' ∧ ∃ (L : List (List Nat)) (v : SV) (k : Nat), L ∈ grpS ∧ RSl H' v 1 (strL L) ∧ q ≤ L.length ∧ k ≤ G.length ∧ m = G.length - k ∧ ∃ z : Nat → SV, ts = ((pc) :: (.str user) :: (.ptr H0.next 0) :: z 3 :: z 4 :: (v) :: (.int .i64 (q : Int)) :: (.int .i64 (k : Int)) :: z 8 :: z 9 :: z 10 :: z 11 :: z 12 :: z 13 :: z 14 :: z 15 :: z 16 :: z 17 :: z 18 :: z 19 :: z 20 :: z 21 :: z 22 :: z 23 :: z 24 :: z 25 :: z 26 :: z 27 :: z 28 :: z 29 :: z 30 :: z 31 :: z 32 :: z 33 :: z 34 :: z 35 :: z 36 :: z 37 :: z 38 :: z 39 :: z 40 :: z 41 :: z 42 :: [] : T) ∧ (True)
theorem groups_ok {gv rv dv : SV} {G : List Gr} {user : List Nat} (hG : GrsOK H gv G) (hr1 : SV.one rv = true) (hd1 : SV.one dv = true) (hu : user ∈ userL) (hn : 4 ≤ n) (hlf : 1000 < lf) :
    ∃ v H' L, callS tabT lf n 15 [.agg [gv, rv, dv], .str user] H = some (v, H') ∧ Ext H H' ∧ L ∈ grpS ∧ RSl H' v 1 (strL L) := by
  obtain ⟨n, rfl⟩ : ∃ m, n = m + 1 := ⟨n - 1, by omega⟩
  have key : ∃ w H', callS tabT lf (n + 1) 15 [.agg [gv, rv, dv], .str user] H = some (w, H') ∧ ∃ L, Ext H H' ∧ L ∈ grpS ∧ RSl H' w 1 (strL L) := by
    obtain ⟨H1, hH1⟩ : ∃ H1, H.push (.row [gv, rv, dv] 30 true false 0) = H1 := ⟨_, rfl⟩
    have hE1 : Ext H H1 := by rw [← hH1]; exact (Ext.refl H).push _
    have hp1 : H1.get H.next = some (.row [gv, rv, dv] 30 true false 0) := by rw [← hH1]; exact get_push_self _
    have hn1 : H1.next = H.next + 1 := by rw [← hH1]; rfl
    obtain ⟨H2, hH2⟩ : ∃ H2, H1.push (.row [.str [97, 108, 108]] 9 true false 0) = H2 := ⟨_, rfl⟩
    have hE2 : Ext H1 H2 := by rw [← hH2]; exact (Ext.refl H1).push _
    have hv2 : RSl H2 (.slice H1.next 0 1 (some 1) 1) 1 (strL [sAll]) := ⟨strL_all _, .inr ⟨H1.next, some 1, 9, true, false, 0, rfl, (fun k h => by cases h; rfl), by rw [← hH2]; exact Nat.lt_succ_self _, by rw [← hH2]; exact get_push_self _⟩⟩
    have hname := isname_ok (lf := lf) (n := n) (H := H2) hu (by omega)
    refine call_code tab15 (by simp only [c15, go_sem, List.reduceReplicate, Nat.reduceAdd, Nat.reduceSub]; exact rfl) ?_
    simp only [c15]
    refine stp (And.intro @hH1 @hH2) ?_
    refine kst trivial hname ?_
    refine EO_nil (seqR_normal ?_)
    refine EC_cut (fun ts H3 => Ext H2 H3 ∧ ∃ L v, L ∈ grpS ∧ RSl H3 v 1 (strL L) ∧ ∃ z : Nat → SV, ts = ((.agg [gv, rv, dv]) :: (.str user) :: (.ptr H.next 0) :: z 3 :: z 4 :: (v) :: z 6 :: z 7 :: z 8 :: z 9 :: z 10 :: z 11 :: z 12 :: z 13 :: z 14 :: z 15 :: z 16 :: z 17 :: z 18 :: z 19 :: z 20 :: z 21 :: z 22 :: z 23 :: z 24 :: z 25 :: z 26 :: z 27 :: z 28 :: z 29 :: z 30 :: z 31 :: z 32 :: z 33 :: z 34 :: z 35 :: z 36 :: z 37 :: z 38 :: z 39 :: z 40 :: z 41 :: z 42 :: [] : T) ∧ (True)) ?_ ?_
    · cases hue : user.isEmpty with
      | true =>
        refine cstE (And.intro @hue @Bool.not_true) ?_
        refine stp trivial ?_
        exact ⟨rfl, rfl, Ext.refl _, [sAll], _, by decide +kernel, hv2, (frame_in (by rfl) (trivial))⟩
      | false =>
        refine cstT (And.intro @hue @Bool.not_false) ?_
        obtain ⟨v', H3, hp, hE3, hv3⟩ := put_ok (lf := lf) (n := n) (s := [117, 115, 101, 114, 115]) hv2 (by decide) (by omega) hlf
        refine stp trivial ?_
        refine kst trivial hp ?_
        refine stp trivial ?_
        exact ⟨rfl, rfl, hE3, _, v', grpS_put _ (by decide +kernel) sUsers (by decide +kernel), hv3, (frame_in (by rfl) (trivial))⟩
    rintro ts' H3 ⟨hE3, L, v, hL, hv, ⟨z, rfl, -⟩⟩
    have hl5 := grpS_len L hL
    refine stp trivial ?_
    refine EC_loop (I := I15 H H1 (.agg [gv, rv, dv]) user) ?_ (12 - L.length) ?_ (by omega)
    · rintro m ts D H' ⟨rfl, hE4, L, v, q, hL, hv, hq1, hq2, hm, ⟨z, rfl, -⟩⟩
      have hlen := hv.lenl
      rw [strL_len] at hlen
      have hl5 := grpS_len L hL
      have hp4 := (hE4.2 _ (by omega)).trans hp1
      refine stp @hlen ?_
      refine cst trivial (fun hc => ?_) (fun hc => ?_) <;> try simp only [decide_eq_true_eq, decide_eq_false_iff_not, not_true_eq_false, not_false_eq_true, Int.not_lt, Int.not_le, ge_iff_le, gt_iff_lt] at hc
      · refine stp @hlen ?_
        refine EC_loop (I := J15 H H1 (.agg [gv, rv, dv]) user G L.length) ?_ G.length ?_ (by have := hG.len; omega)
        · rintro m' ts D H' ⟨rfl, hE4, L', v', k, hL', hv', hq', hk, rfl, ⟨z, rfl, -⟩⟩
          have hp4 := (hE4.2 _ (by omega)).trans hp1
          have hl5' := grpS_len L' hL'
          have hG4 := hG.keep (hE1.trans hE4)
          have hgl := hG4.sl.lenl
          rw [List.length_map] at hgl
          refine stp (And.intro @hp4 @hgl) ?_
          refine cst trivial (fun hc => ?_) (fun hc => ?_) <;> try simp only [decide_eq_true_eq, decide_eq_false_iff_not, not_true_eq_false, not_false_eq_true, Int.not_lt, Int.not_le, ge_iff_le, gt_iff_lt] at hc
          · have hkG : k < G.length := by omega
            have hat : (G.map grC)[k]? = some (grC G[k]) := by simp [hkG]
            obtain ⟨b, o, hi, hb, hrow, _⟩ := hG4.sl.at_ hat
            have hg := hG4.at_ G[k] (List.getElem_mem hkG)
            generalize G[k] = g at hrow hg
            have hrow : rowL (H'.get b) o 2 = some [.str g.1, g.2.1] := hrow
            have hrow0 : rowL (H'.get b) o 1 = some [.str g.1] := rowL_sub (i := 0) (m := 1) hrow (by omega)
            obtain ⟨bb, H5, hbel, hE5⟩ := belongs_ok (lf := lf) (n := n) (H := H') (nm := g.1) (user := user) hg.sl (by have := hg.len; omega) hu hv' (by omega) (by omega) hlf
            have hp5 := (hE5.2 _ (by have := hE4.1; omega)).trans hp4
            refine stp (And.intro @hp4 (And.intro @hi @hrow)) ?_
            refine kst trivial hbel ?_
            refine stp trivial ?_
            have hE15 := hE4.trans hE5
            have hrow5 : rowL (H5.get b) o 1 = some [.str g.1] := by rw [hE5.2 b hb]; exact hrow0
            cases bb with
            | true =>
              refine cstT trivial ?_
              obtain ⟨v6, H6, hput, hE6, hv6⟩ := put_ok (lf := lf) (n := n) (s := g.1) (hv'.keep hE5) (by omega) (by omega) hlf
              refine stp (And.intro @hp5 (And.intro @hi @hrow5)) ?_
              refine kst trivial hput ?_
              have hkn := grpL_known _ hg.nm
              have hgr := grpS_grow L' hL' _ hkn
              refine stp (succ_w (k := k) (by have := hG.len; omega)) ?_
              exact loopR_normal (G.length - (k + 1)) (by omega) ⟨rfl, hE15.trans hE6, _, v6, k + 1, grpS_put _ hL' _ hkn, hv6, by omega, by omega, rfl, (frame_in (by rfl) (trivial))⟩
            | false =>
              refine cstE trivial ?_
              refine stp (succ_w (k := k) (by have := hG.len; omega)) ?_
              exact loopR_normal (G.length - (k + 1)) (by omega) ⟨rfl, hE15, L', v', k + 1, hL', hv'.keep hE5, hq', by omega, rfl, (frame_in (by rfl) (trivial))⟩
          · refine stp trivial ?_
            exact loopR_normal (12 - (L'.length + (L.length + 1))) (by omega) ⟨rfl, hE4, L', v', (L.length : Int), hL', hv', by omega, by omega, by omega, (frame_in (by rfl) (trivial))⟩
        · exact ⟨rfl, hE4, L, v, 0, hL, hv, by omega, by omega, rfl, (frame_in (by rfl) (trivial))⟩
      · refine stp trivial ?_
        refine ret1 trivial ?_
        exact (⟨L, hE1.trans hE4, hL, hv⟩)
    · exact ⟨rfl, hE2.trans hE3, L, v, .negSucc 0, hL, hv, by decide, by have : Int.negSucc 0 = -1 := rfl; omega, by have : Int.negSucc 0 = -1 := rfl; omega, (frame_in (by rfl) (trivial))⟩
  obtain ⟨w, H', h, L, h1, h2, h3⟩ := key
  exact ⟨w, H', L, h, h1, h2, h3⟩
end
end Go.Sh
end
section
namespace Go.Sh
set_option maxRecDepth 10000
set_option linter.all false
def tCs (t : Tt) : List SV := [.int .i64 (t.1 : Int), .str t.2]
def ttL (L : List Tt) : List (List SV) := L.map tCs
theorem ttL_len (L : List Tt) : (ttL L).length = L.length := by simp [ttL]
theorem ttL_at {L : List Tt} {i : Nat} {t : Tt} (h : L[i]? = some t) : (ttL L)[i]? = some (tCs t) := by simp [ttL, h]
theorem ttL_all (L : List Tt) : AllL 2 (ttL L) := by
  intro x hx
  obtain ⟨s, _, rfl⟩ := List.mem_map.1 hx
  rfl
theorem ttL_one (L : List Tt) : ((ttL L).flatten).all SV.one = true := by
  induction L with
  | nil => rfl
  | cons x L ih => simp only [ttL, List.map_cons, List.flatten_cons, List.all_append] at ih ⊢; rw [ih]; rfl
theorem ttL_take (L : List Tt) (k : Nat) : (ttL L).take k = ttL (L.take k) := by simp [ttL]
theorem ttL_drop (L : List Tt) (k : Nat) : (ttL L).drop k = ttL (L.drop k) := by simp [ttL]
def posT (t : Tt) : List Tt → Nat
  | [] => 0
  | x :: L => if cmpT x t = -1 then posT t L + 1 else 0
def putT' (L : List Tt) (t : Tt) : List Tt := if L[posT t L]? = some t then L else L.take (posT t L) ++ (t :: L.drop (posT t L))
theorem posT_le (t : Tt) : ∀ L : List Tt, posT t L ≤ L.length
  | [] => Nat.le_refl _
  | x :: L => by
    have := posT_le t L
    simp only [posT]
    split <;> simp <;> omega
theorem posT_lt {t : Tt} : ∀ {L : List Tt} {k : Nat} {x : Tt}, k < posT t L → L[k]? = some x → cmpT x t = -1
  | [], k, x, h, _ => by simp [posT] at h
  | y :: L, k, x, h, hx => by
    simp only [posT] at h
    split at h
    · rename_i hy
      cases k with
      | zero => simp at hx; subst hx; exact hy
      | succ k => exact posT_lt (L := L) (k := k) (by omega) (by simpa using hx)
    · omega
theorem posT_at {t : Tt} : ∀ {L : List Tt} {x : Tt}, L[posT t L]? = some x → cmpT x t ≠ -1
  | [], x, h => by simp at h
  | y :: L, x, h => by
    simp only [posT] at h
    split at h
    · exact posT_at (by simpa using h)
    · rename_i hy
      simp at h
      subst h
      exact hy
theorem cmpT_lt (a b : Tt) : decide (cmpT a b < ((0 : Nat) : Int)) = decide (cmpT a b = -1) := by
  unfold cmpT
  split
  · rfl
  · split <;> rfl
def SortT (L : List Tt) : Prop := L.Pairwise (fun a b => cmpT a b = -1) ∧ ∀ t ∈ L, t ∈ pagL
theorem cmpT_trans : ∀ a ∈ pagL, ∀ b ∈ pagL, ∀ c ∈ pagL, cmpT a b = -1 → cmpT b c = -1 → cmpT a c = -1 := by decide +kernel
theorem cmpT_tot : ∀ a ∈ pagL, ∀ b ∈ pagL, cmpT a b ≠ -1 → a ≠ b → cmpT b a = -1 := by decide +kernel
theorem sortT_put {L : List Tt} {t : Tt} (h : SortT L) (ht : t ∈ pagL) : SortT (putT' L t) := by
  unfold putT'
  split
  · exact h
  · rename_i hne
    refine ⟨?_, fun x hx => ?_⟩
    · rw [List.pairwise_append]
      refine ⟨h.1.sublist (List.take_sublist _ _), ?_, ?_⟩
      · rw [List.pairwise_cons]
        refine ⟨fun x hx => ?_, h.1.sublist (List.drop_sublist _ _)⟩
        obtain ⟨i, hi, rfl⟩ := List.mem_iff_getElem.1 hx
        rw [List.getElem_drop]
        have hi' : posT t L + i < L.length := by simpa using (show i < (L.drop (posT t L)).length from hi) |> fun h => by simp at h; omega
        have h0 : posT t L < L.length := by omega
        have ha := posT_at (List.getElem?_eq_getElem h0)
        have hne' : L[posT t L] ≠ t := fun e => hne (by rw [List.getElem?_eq_getElem h0, e])
        have hb := cmpT_tot _ (h.2 _ (List.getElem_mem h0)) _ ht ha hne'
        cases i with
        | zero => exact hb
        | succ i =>
          have hc := (List.pairwise_iff_getElem.1 h.1) (posT t L) (posT t L + (i + 1)) h0 hi' (by omega)
          exact cmpT_trans _ ht _ (h.2 _ (List.getElem_mem h0)) _ (h.2 _ (List.getElem_mem hi')) hb hc
      · intro a ha b hb
        obtain ⟨i, hi, rfl⟩ := List.mem_iff_getElem.1 ha
        rw [List.getElem_take]
        have hi' : i < posT t L := by simp at hi; omega
        have hiL : i < L.length := by simp at hi; omega
        have hlt := posT_lt hi' (List.getElem?_eq_getElem hiL)
        rcases List.mem_cons.1 hb with rfl | hb
        · exact hlt
        · obtain ⟨j, hj, rfl⟩ := List.mem_iff_getElem.1 hb
          rw [List.getElem_drop]
          have hj' : posT t L + j < L.length := by simp at hj; omega
          exact (List.pairwise_iff_getElem.1 h.1) i (posT t L + j) hiL hj' (by omega)
    · rcases List.mem_append.1 hx with hx | hx
      · exact h.2 x (List.mem_of_mem_take hx)
      · rcases List.mem_cons.1 hx with rfl | hx
        · exact ht
        · exact h.2 x (List.mem_of_mem_drop hx)
theorem putT_len (L : List Tt) (t : Tt) : (putT' L t).length ≤ L.length + 1 := by
  have := posT_le t L
  unfold putT'
  split
  · omega
  · rw [List.length_append, List.length_cons, List.length_take, List.length_drop]; omega
theorem cmp45_ok {lf n : Nat} {H : Heap} {a b : Tt} (ha : a ∈ pagL) (hb : b ∈ pagL) (hn : 1 ≤ n) : callS tabT lf n 45 [tC a, tC b] H = some (.int .i64 (cmpT a b), H) :=
  nat_fact tab45n rfl (said_all (said_all k_cmp45 ha) hb) hn H
theorem tab19 : tabT 19 = some (.code c19) := by kernel_rfl
theorem bl_tt (t : Tt) : beqList (tCs t) (tCs t) = true := by simp [tCs, beqOne, beqList, eqS_dec]
theorem bq_tt (t : Tt) : beqS (.agg (tCs t)) (.agg (tCs t)) = true := by simp [tCs, beqS, beqOne, beqList, eqS_dec]
attribute [go_sem] bq_tt
section
variable {lf n : Nat} {H : Heap}
@[reducible] def I19 (H0 H1 : Heap) (v : SV) (L : List Tt) (t : Tt) (m : Nat) (ts : T) (D : DS) (H' : Heap) : Prop :=
  D = [] ∧ H' = H1 ∧ ∃ k : Nat, m = posT t L - k ∧ k ≤ posT t L ∧ ∃ z : Nat → SV, ts = ((v) :: (tC t) :: z 2 :: (.ptr H0.next 0) :: z 4 :: (.int .i64 (k : Int)) :: z 6 :: z 7 :: z 8 :: z 9 :: z 10 :: z 11 :: z 12 :: z 13 :: z 14 :: z 15 :: z 16 :: z 17 :: z 18 :: z 19 :: z 20 :: z 21 :: z 22 :: z 23 :: z 24 :: z 25 :: z 26 :: z 27 :: z 28 :: z 29 :: z 30 :: z 31 :: z 32 :: z 33 :: z 34 :: z 35 :: z 36 :: z 37 :: z 38 :: z 39 :: z 40 :: z 41 :: z 42 :: z 43 :: z 44 :: [] : T) ∧ (True)
theorem eqv_tt (a b : Tt) : eqVal true [(0, 1), (1, 2)] (.agg (tCs a)) (.agg (tCs b)) = some (decide (a = b)) := by
  obtain ⟨a1, a2⟩ := a
  obtain ⟨b1, b2⟩ := b
  simp only [eqVal, tCs, eqLeaves, eqOne, List.getElem?_cons_zero, List.getElem?_cons_succ]
  by_cases h1 : a1 = b1
  · subst h1
    by_cases h2 : a2 = b2
    · subst h2; simp [eqS_dec]
    · simp [eqS_dec, h2]
  · have e : ((a1 : Int) == (b1 : Int)) = false := beq_false_of_ne (by omega)
    simp [e, h1]
theorem EC_mono {call : CallS} {lf : Nat} {c : SCode} {ts : T} {D : DS} {H : Heap} {R R' : SExit → T → DS → Heap → Prop} (hR : ∀ x ts' D' H', R x ts' D' H' → R' x ts' D' H') (h : EC call lf c ts D H R) : EC call lf c ts D H R' := by
  unfold EC at h ⊢
  obtain ⟨x, ts', D', H', e, hr⟩ := h
  exact ⟨x, ts', D', H', e, hR _ _ _ _ hr⟩
theorem seqR_mono {call : CallS} {lf : Nat} {b : SCode} {rs : List SRes} {P P' : SV → Heap → Prop} (hP : ∀ w H, P w H → P' w H) : ∀ x ts' D' H', seqR call lf b (funR rs P) x ts' D' H' → seqR call lf b (funR rs P') x ts' D' H' := by
  have hf : ∀ x ts' D' H', funR rs P x ts' D' H' → funR rs P' x ts' D' H' := by
    intro x ts' D' H' h
    unfold funR at h ⊢
    cases x with
    | exit id => exact h.elim
    | _ => obtain ⟨h1, v, h2, h3⟩ := h; exact ⟨h1, v, h2, hP _ _ h3⟩
  intro x ts' D' H' h
  unfold seqR at h ⊢
  cases x with
  | normal => exact EC_mono hf h
  | exit id => exact hf _ _ _ _ h
  | ret => exact hf _ _ _ _ h
theorem putT_tail {v : SV} {L : List Tt} {t : Tt} {k tp : Nat} {ts : T} (hv : RSl H v 2 (ttL L)) (hl : L.length < 1000) (hk : k ≤ L.length) (hp : H.get tp = some (.row (tCs t) 37 true false 0)) (htp : tp < H.next) (hts : ∃ z : Nat → SV, ts = ((v) :: z 1 :: z 2 :: (.ptr tp 0) :: z 4 :: (.int .i64 (k : Int)) :: z 6 :: z 7 :: z 8 :: z 9 :: z 10 :: z 11 :: z 12 :: z 13 :: z 14 :: z 15 :: z 16 :: z 17 :: z 18 :: z 19 :: z 20 :: z 21 :: z 22 :: z 23 :: z 24 :: z 25 :: z 26 :: z 27 :: z 28 :: z 29 :: z 30 :: z 31 :: z 32 :: z 33 :: z 34 :: z 35 :: z 36 :: z 37 :: z 38 :: z 39 :: z 40 :: z 41 :: z 42 :: z 43 :: z 44 :: [] : T) ∧ (True)) :
    EC (callS tabT lf n) lf (.dreg [(oy 34 0, .pure), (oy 35 5, .pure), (ox 36 (.slv 2 none (some (.t 35)) none (.t 34)), .pure), (ox 37 (.app false 37 2 24 (.c .nils) (.t 36)), .eff), (ox 38 (.load true 2 (.t 3)), .read 0 1), (ox 39 (.bslice 37 2 1 [.int .i64 (.ofNat 0), .str []] [(0, (2, .t 38))]), .hoist 0 1), (ox 40 (.app false 37 2 24 (.t 37) (.t 39)), .eff), (oy 41 0, .pure), (oy 42 5, .pure), (ox 43 (.slv 2 (some (.t 42)) none none (.t 41)), .pure), (ox 44 (.app false 37 2 24 (.t 40) (.t 43)), .eff), (oy 4 44, .pure)] false) ts [] H (seqR (callS tabT lf n) lf .ret (funR [.tmp 4] fun w H' => Ext H H' ∧ RSl H' w 2 (ttL (L.take k ++ (t :: L.drop k))))) := by
  obtain ⟨z, rfl, -⟩ := hts
  obtain ⟨w1, hw1, hs1, hb1⟩ := hv.hi (k := k) (by rw [ttL_len]; omega)
  obtain ⟨w2, hw2, hs2, hb2⟩ := hv.lo (k := k) (by rw [ttL_len]; omega)
  rw [ttL_take] at hs1
  rw [ttL_drop] at hs2
  obtain ⟨H1, hH1⟩ : ∃ H1, H.push (.row (tCs t) 37 true false 0) = H1 := ⟨_, rfl⟩
  have hE1 : Ext H H1 := by rw [← hH1]; exact (Ext.refl H).push _
  have hn1 : H1.next = H.next + 1 := by rw [← hH1]; rfl
  have hlit : H1.get H.next = some (.row (tCs t) 37 true false 0) := by rw [← hH1]; exact get_push_self _
  have t1 : (L.take k).length ≤ L.length := by rw [List.length_take]; omega
  have t2 : (L.drop k).length ≤ L.length := by rw [List.length_drop]; omega
  obtain ⟨v1, H2, ha1, hS1, hn2, hk2⟩ := app_sl (H := H1) (B0 := H.next + 1) (e := 37) (z := 2) (bytes := 24) (L := []) (K := ttL (L.take k)) Sl.nil (fun _ h => by cases h) (hs1.keep fun b o n c e => hE1.2 b (hb1 b o n c _ e)) (ttL_one _) (by omega) (by rw [ttL_len]; simp only [List.length_nil]; omega) (by rw [ttL_len]; simp only [List.length_nil]; omega)
  have hlit2 : H2.get H.next = some (.row (tCs t) 37 true false 0) := (hk2 _ (by omega)).trans hlit
  obtain ⟨v2, H3, ha2, hS2, hn3, hk3⟩ := app_sl (bytes := 24) hS1 ((ttL_all _ : AllL 2 ([] ++ ttL (L.take k)))) (src_lit rfl hlit2) rfl (by omega) (by rw [List.length_append, ttL_len]; simp only [List.length_nil, List.length_cons]; omega) (by rw [List.length_append, ttL_len]; simp only [List.length_nil, List.length_cons]; omega)
  have hA : AllL 2 ([] ++ ttL (L.take k) ++ [tCs t]) := (ttL_all (L.take k ++ [t])) |> fun h => by simpa [ttL] using h
  obtain ⟨v3, H4, ha3, hS3, hn4, hk4⟩ := app_sl (bytes := 24) hS2 hA (hs2.keep (H' := H3) fun b o n c e => by rw [hk3 _ (by have := hb2 b o n c _ e; omega), hk2 _ (by have := hb2 b o n c _ e; omega)]; exact hE1.2 b (hb2 b o n c _ e)) (ttL_one _) (by omega) (by rw [List.length_append, List.length_append, ttL_len, ttL_len]; simp only [List.length_nil, List.length_cons]; omega) (by rw [List.length_append, List.length_append, ttL_len, ttL_len]; simp only [List.length_nil, List.length_cons]; omega)
  have fin : Ext H H4 ∧ RSl H4 v3 2 (ttL (L.take k ++ (t :: L.drop k))) := by
    refine ⟨⟨by omega, fun b hb => ?_⟩, ?_⟩
    · rw [hk4 _ (by omega), hk3 _ (by omega), hk2 _ (by omega)]; exact hE1.2 b hb
    · have := hS3.rsl (hA.app (ttL_all _))
      simpa [ttL] using this
  have b1 : appV H1 false 37 2 24 .nils w1 = some (v1, H2) := ha1
  have b2 : appV H2 false 37 2 24 v1 (.slice H.next 0 1 (some 1) 2) = some (v2, H3) := ha2
  have b3 : appV H3 false 37 2 24 v2 w2 = some (v3, H4) := ha3
  have hp1 := (hE1.2 tp htp).trans hp
  have hp2 := (hk2 tp (by omega)).trans hp1
  have hrt : rowL (some (.row (tCs t) 37 true false 0)) 0 2 = some (tCs t) := rfl
  have htl : (tCs t).length = 2 := rfl
  have htt : (tCs t).take 2 = tCs t := rfl
  have hdt : List.drop 2 [SV.int .i64 ((0 : Nat) : Int), SV.str []] = [] := rfl
  have bt := bq_tt t
  have btl := bl_tt t
  refine EC_drawH ?_
  refine hdp (And.intro @hw1 (And.intro @hp (And.intro @hrt (And.intro @htl (And.intro @hdt (And.intro @List.append_nil.{0} @hH1)))))) ?_
  simp only [unh, List.map_cons, List.map_nil]
  refine stp (And.intro @hw1 (And.intro @b1 (And.intro @hp2 (And.intro @hrt (And.intro @b2 (And.intro @hw2 @b3)))))) ?_
  refine ⟨?_, fun h => (by cases h), _, (by simp only [List.getLast?_cons_cons, List.getLast?_singleton]; first | done | with_reducible rfl), ?_⟩
  · exact rdp (And.intro @hp1 (And.intro @hp2 (And.intro @hrt (And.intro @hlit (And.intro @hlit2 (And.intro @bt (And.intro @htl (And.intro @hdt @List.append_nil.{0}))))))))
  · refine stp trivial ?_
    refine ret1 trivial ?_
    exact (fin)
theorem putTit_ok {v : SV} {L : List Tt} {t : Tt} (hv : RSl H v 2 (ttL L)) (hL : ∀ x ∈ L, x ∈ pagL) (ht : t ∈ pagL) (hl : L.length < 1000) (hn : 2 ≤ n) (hlf : 1000 < lf) :
    ∃ v' H', callS tabT lf n 19 [v, tC t] H = some (v', H') ∧ Ext H H' ∧ RSl H' v' 2 (ttL (putT' L t)) := by
  obtain ⟨n, rfl⟩ : ∃ m, n = m + 1 := ⟨n - 1, by omega⟩
  have key : ∃ w H', callS tabT lf (n + 1) 19 [v, tC t] H = some (w, H') ∧ Ext H H' ∧ RSl H' w 2 (ttL (putT' L t)) := by
    have hlen := hv.lenl
    rw [ttL_len] at hlen
    have hple := posT_le t L
    obtain ⟨H1, hH1⟩ : ∃ H1, H.push (.row (tCs t) 37 true false 0) = H1 := ⟨_, rfl⟩
    have hE1 : Ext H H1 := by rw [← hH1]; exact (Ext.refl H).push _
    have hp1 : H1.get H.next = some (.row (tCs t) 37 true false 0) := by rw [← hH1]; exact get_push_self _
    have hv1 := hv.keep hE1
    have htc : (tC t).cells = tCs t := rfl
    have hrt : rowL (some (.row (tCs t) 37 true false 0)) 0 2 = some (tCs t) := rfl
    refine call_code tab19 (by simp only [c19, go_sem, List.reduceReplicate, Nat.reduceAdd, Nat.reduceSub]; exact rfl) ?_
    simp only [c19]
    refine stp (And.intro @htc @hH1) ?_
    refine EC_loop (I := I19 H H1 v L t) ?_ (posT t L) ?_ (by omega)
    · rintro m ts D H' ⟨rfl, rfl, k, rfl, hk, ⟨z, rfl, -⟩⟩
      by_cases hkl : k < posT t L
      · have hkL : k < L.length := by omega
        obtain ⟨b, o, hi, hb, hrow, _⟩ := hv1.at_ (ttL_at (List.getElem?_eq_getElem hkL))
        have hlt := posT_lt hkl (List.getElem?_eq_getElem hkL)
        have hxm := hL _ (List.getElem_mem hkL)
        generalize L[k] = x at hlt hrow hxm
        have hcmp : callS tabT lf n 45 [.agg (tCs x), .agg (tCs t)] H' = some (.int .i64 (cmpT x t), H') := cmp45_ok hxm ht (by omega)
        have hcd : decide (cmpT x t < ((0 : Nat) : Int)) = true := by rw [cmpT_lt, hlt]; rfl
        have d0 : decide ((k : Int) < (L.length : Int)) = true := by rw [decide_eq_true_eq]; omega
        have bx := bq_tt x
        have bt := bq_tt t
        refine EC_seq ?_
        refine EC_seq ?_
        refine EC_draw rfl ?_
        refine stp (And.intro @hlen (And.intro @d0 (And.intro @hi (And.intro @hrow (And.intro @hp1 @hrt))))) ?_
        refine ED_call (by exact sfc trivial) hcmp (by (simp only [List.set_cons_zero, List.set_cons_succ]; with_reducible rfl)) ?_
        refine stp @hcd ?_
        refine ⟨?_, fun h => (by cases h), _, (by simp only [List.getLast?_cons_cons, List.getLast?_singleton]; first | done | with_reducible rfl), ?_⟩
        · exact rdp (And.intro @hi (And.intro @hrow (And.intro @hp1 (And.intro @hrt (And.intro @bx @bt)))))
        · refine stp trivial ?_
          refine cstT trivial ?_
          refine stp (succ_w (k := k) (by omega)) ?_
          exact loopR_normal (posT t L - (k + 1)) (by omega) ⟨rfl, rfl, k + 1, rfl, by omega, (frame_in (by rfl) (trivial))⟩
      · have hkp : k = posT t L := by omega
        subst hkp
        have bt := bq_tt t
        by_cases hkL : posT t L < L.length
        · obtain ⟨b, o, hi, hb, hrow, _⟩ := hv1.at_ (ttL_at (List.getElem?_eq_getElem hkL))
          have hge := posT_at (List.getElem?_eq_getElem hkL)
          have hxm := hL _ (List.getElem_mem hkL)
          have hcmp : callS tabT lf n 45 [.agg (tCs L[posT t L]), .agg (tCs t)] H' = some (.int .i64 (cmpT L[posT t L] t), H') := cmp45_ok hxm ht (by omega)
          have hcd : decide (cmpT L[posT t L] t < ((0 : Nat) : Int)) = false := by rw [cmpT_lt]; exact decide_eq_false hge
          have d0 : decide ((posT t L : Int) < (L.length : Int)) = true := by rw [decide_eq_true_eq]; omega
          have bx := bq_tt L[posT t L]
          have heq := eqv_tt L[posT t L] t
          refine EC_seq ?_
          refine EC_seq ?_
          refine EC_draw rfl ?_
          refine stp (And.intro @hlen (And.intro @d0 (And.intro @hi (And.intro @hrow (And.intro @hp1 @hrt))))) ?_
          refine ED_call (by exact sfc trivial) hcmp (by (simp only [List.set_cons_zero, List.set_cons_succ]; with_reducible rfl)) ?_
          refine stp @hcd ?_
          refine ⟨?_, fun h => (by cases h), _, (by simp only [List.getLast?_cons_cons, List.getLast?_singleton]; first | done | with_reducible rfl), ?_⟩
          · exact rdp (And.intro @hi (And.intro @hrow (And.intro @hp1 (And.intro @hrt (And.intro @bx @bt)))))
          · refine stp trivial ?_
            refine cstE trivial ?_
            refine stp (And.intro @hlen (And.intro @d0 (And.intro @hi (And.intro @hrow (And.intro @hp1 (And.intro @hrt (And.intro @heq (And.intro @bx @bt)))))))) ?_
            cases hsx : decide (L[posT t L] = t) with
            | true =>
              have hp : putT' L t = L := by unfold putT'; rw [if_pos (by rw [List.getElem?_eq_getElem hkL, of_decide_eq_true hsx])]
              refine stp @hsx ?_
              refine cstT trivial ?_
              refine stp trivial ?_
              refine ret1 trivial ?_
              exact (⟨hE1, by rw [hp]; exact hv1⟩)
            | false =>
              have hp : putT' L t = L.take (posT t L) ++ (t :: L.drop (posT t L)) := by unfold putT'; rw [if_neg (by rw [List.getElem?_eq_getElem hkL]; intro h; rw [Option.some.inj h] at hsx; simp at hsx)]
              refine stp @hsx ?_
              refine cstE trivial ?_
              refine stp trivial ?_
              rw [hp]
              refine EC_mono ?_ (putT_tail (t := t) hv1 hl hple hp1 (by rw [← hH1]; exact Nat.lt_succ_self _) (by exact (frame_in (by rfl) (trivial))))
              exact seqR_mono fun w H5 h => ⟨hE1.trans h.1, h.2⟩
        · have d0 : decide ((posT t L : Int) < (L.length : Int)) = false := by rw [decide_eq_false_iff_not]; omega
          have hp : putT' L t = L.take (posT t L) ++ (t :: L.drop (posT t L)) := by unfold putT'; rw [if_neg (by rw [List.getElem?_eq_none (by omega)]; intro h; cases h)]
          refine EC_seq ?_
          refine EC_seq ?_
          refine EC_draw rfl ?_
          refine stpw (And.intro @hlen @d0) ?_
          refine ⟨?_, fun h => (by cases h), _, (by simp only [List.getLast?_cons_cons, List.getLast?_singleton]; first | done | with_reducible rfl), ?_⟩
          · exact rdp @trivial
          · refine stp trivial ?_
            refine cstE trivial ?_
            refine stp (And.intro @hlen @d0) ?_
            refine cstE trivial ?_
            refine stp trivial ?_
            rw [hp]
            refine EC_mono ?_ (putT_tail (t := t) hv1 hl hple hp1 (by rw [← hH1]; exact Nat.lt_succ_self _) (by exact (frame_in (by rfl) (trivial))))
            exact seqR_mono fun w H5 h => ⟨hE1.trans h.1, h.2⟩
    · exact ⟨rfl, rfl, 0, rfl, by omega, (frame_in (by rfl) (trivial))⟩
  exact key
end
end Go.Sh
end
