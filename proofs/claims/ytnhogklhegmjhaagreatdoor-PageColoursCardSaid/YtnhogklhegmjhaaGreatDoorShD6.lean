/-
  The outermost walk: what follows the insertion. (frame style z)
  The outermost walk. (frame style z)
-/
import Derived.Test.YtnhogklhegmjhaaGreatDoorShD5
set_option linter.all false
section
namespace Go.Sh
set_option maxRecDepth 10000
set_option linter.all false
theorem HD_pureN {os : List (SOper × DK)} {s : SOp} {d : Nat} {ts : T} {H : Heap} {Q : List SV → Heap → Prop} (he : evalOp s ts H = none) (h : HD os ts H fun vs H' => Q (SV.undef :: vs) H') : HD ((⟨some d, .op s, none⟩, .pure) :: os) ts H Q :=
  HD_skip (fun _ _ h => by cases h) (by simp only [foreT, wantedS, quietOp, he]; exact h)
noncomputable def call3 (t : Tt) (ok : Bool) (lf n : Nat) : CallS := fun f args H => match Nat.beq f 8 with
  | true => nat8 t ok args H
  | false => callS tabT lf n f args H
theorem call3_of {t : Tt} {ok : Bool} {lf n f : Nat} {args : List SV} {H : Heap} {r : Option (SV × Heap)} (hf : Nat.beq f 8 = false) (h : callS tabT lf n f args H = r) : call3 t ok lf n f args H = r := by
  unfold call3
  rw [hf]
  exact h
theorem call3_8 {t : Tt} {ok : Bool} {lf n : Nat} {args : List SV} {H : Heap} {r : Option (SV × Heap)} (h : nat8 t ok args H = r) : call3 t ok lf n 8 args H = r := h
theorem tab12n : tabT 12 = some (.native (natFlat callB h0 12)) := by kernel_rfl
theorem pageR_two (o : Option Pg) : pageR 2 o = [.bool o.isSome, .str [], .int .i64 ((0 : Nat) : Int)] := by cases o <;> rfl
theorem shield_ext (H : Heap) : Ext H H.shield := (((Ext.refl H).push _).push _).push _
theorem missT_len (ok : Bool) : (missT ok).length ≤ 16 := by cases ok <;> decide
section
variable {lf n : Nat} {H : Heap}
theorem right_ok {t : Tt} {ok : Bool} {p4 p5 p6 r : Nat} {pv gv rv dv qv : SV} {clk : Int} {L : List Pg} {k : Nat} {G : List Gr} {R : List Rl} {E : List Gd} {Q : List (List Nat)} {ts : T} (ht : t ∈ titL) (hv : ViewR (RSl H) pv gv rv dv qv clk L k G R E Q)
    (hq : L.find? (fun p => decide (p.t = tQ)) = some ⟨tQ, textT t, r⟩) (ho : (L.find? fun p => decide (p.t = t)).isSome = ok)
    (hp4 : H.get p4 = some (.row [pv, gv, rv, dv, qv, .int .i64 clk, .nils] 34 true false 0)) (hp5 : H.get p5 = some (.row [.int .i64 ((0 : Nat) : Int), .str [81]] 37 true false 0)) (hp6 : H.get p6 = some (.row [.int .i64 (t.1 : Int), .str t.2] 37 true false 0)) (h4n : p4 < H.next) (h5n : p5 < H.next) (h6n : p6 < H.next) (hn : 9 ≤ n) (hlf : 1000 < lf)
    (hts : ∃ z : Nat → SV, ts = (z 0 :: z 1 :: z 2 :: z 3 :: (.ptr p4 0) :: (.ptr p5 0) :: (.ptr p6 0) :: z 7 :: z 8 :: z 9 :: z 10 :: z 11 :: z 12 :: z 13 :: z 14 :: z 15 :: z 16 :: z 17 :: z 18 :: z 19 :: z 20 :: z 21 :: z 22 :: z 23 :: z 24 :: z 25 :: z 26 :: z 27 :: z 28 :: z 29 :: z 30 :: z 31 :: z 32 :: z 33 :: z 34 :: z 35 :: z 36 :: z 37 :: z 38 :: z 39 :: z 40 :: z 41 :: z 42 :: z 43 :: z 44 :: z 45 :: z 46 :: z 47 :: z 48 :: z 49 :: z 50 :: z 51 :: z 52 :: z 53 :: z 54 :: z 55 :: z 56 :: z 57 :: z 58 :: z 59 :: z 60 :: z 61 :: z 62 :: z 63 :: z 64 :: z 65 :: z 66 :: z 67 :: z 68 :: z 69 :: z 70 :: z 71 :: z 72 :: z 73 :: z 74 :: z 75 :: z 76 :: z 77 :: (.undef) :: z 79 :: z 80 :: z 81 :: z 82 :: z 83 :: z 84 :: z 85 :: z 86 :: z 87 :: z 88 :: z 89 :: z 90 :: z 91 :: z 92 :: z 93 :: z 94 :: z 95 :: z 96 :: z 97 :: z 98 :: z 99 :: z 100 :: z 101 :: z 102 :: z 103 :: [] : T) ∧ (True)) :
    EC (call3 t ok lf n) lf c3R ts [] H (funR [.tmp 2] fun v H' => v = .bool true) := by
  obtain ⟨z, rfl, -⟩ := hts
  unfold c3R
  obtain ⟨t1, t2⟩ := t
  obtain ⟨H0, hH0⟩ : ∃ H0, H.push (.row [.str [], .nils, .nils, .nils, .bool false] 45 true false 0) = H0 := ⟨_, rfl⟩
  have hE0 : Ext H H0 := by rw [← hH0]; exact (Ext.refl _).push _
  have hn0 : H0.next = H.next + 1 := by rw [← hH0]; rfl
  have hp9 : H0.get H.next = some (.row [.str [], .nils, .nils, .nils, .bool false] 45 true false 0) := by rw [← hH0]; exact get_push_self _
  have hp40 := (hE0.2 _ h4n).trans hp4
  have hp50 := (hE0.2 _ h5n).trans hp5
  have hp60 := (hE0.2 _ h6n).trans hp6
  have hv0 : ViewR (RSl H0) pv gv rv dv qv clk L k G R E Q := hv.imp fun v z L h => h.keep hE0
  have hc9 : call3 (t1, t2) ok lf n 9 [] H0 = some (limQ, H0) := call3_of rfl (nat_fact tab9n rfl k_wide (by omega) H0)
  have hg : Good8 (t1, t2) ok [.agg [pv, gv, rv, dv, qv, .int .i64 clk, .nils], tC tQ, limQ] H0 := by
    refine ⟨pv, gv, rv, dv, qv, .int .i64 clk, .nils, lf, n, rfl, ?_, said_view hv0 ht hq ho (by omega) hlf⟩
    have kd : ∀ {v z L}, RSl H0 v z L → opKind v = true := by
      intro v z L h
      rcases h.2 with ⟨_, rfl⟩ | ⟨b, c, e, ex, ro, frz, rfl, _⟩ <;> rfl
    simp only [List.all_cons, List.all_nil, kd hv0.pg, kd hv0.pol.gs, kd hv0.pol.rs, kd hv0.pol.ds, kd hv0.q]
    rfl
  have hc8 : call3 (t1, t2) ok lf n 8 [.agg [pv, gv, rv, dv, qv, .int .i64 clk, .nils], .agg [.int .i64 ((0 : Nat) : Int), .str [81]], limQ] H0 = some (.tup [.agg [.str (htmlT (t1, t2) ok), .opq H0.next, .opq (H0.next + 1), .opq (H0.next + 2), .bool false], .int .i64 ((0 : Nat) : Int)], H0.shield) := call3_8 (nat8_eq hg)
  have hE1 := shield_ext H0
  generalize H0.shield = H1 at hc8 hE1
  have hle1 := hE1.1
  have hp91 := (hE1.2 _ (by omega)).trans hp9
  generalize hk : H0.next = kk at hc8
  obtain ⟨H2, hH2⟩ : ∃ H2, H1.put H.next (.row [.str (htmlT (t1, t2) ok), .opq kk, .opq (kk + 1), .opq (kk + 2), .bool false] 45 true false 0) = H2 := ⟨_, rfl⟩
  refine EC_seq ?_
  refine EC_drawH ?_
  refine hdp (And.intro @hp4 @hp5) ?_
  refine HD_pureN (by rfl) ?_
  refine HD_pureN (by rfl) ?_
  refine hdp (And.intro @hp4 (And.intro @hp5 @hH0)) ?_
  simp only [unh, List.map_cons, List.map_nil]
  have vb : beqS (.agg [pv, gv, rv, dv, qv, .int .i64 clk, .nils]) (.agg [pv, gv, rv, dv, qv, .int .i64 clk, .nils]) = true := by
    show beqList [pv, gv, rv, dv, qv, .int .i64 clk, .nils] [pv, gv, rv, dv, qv, .int .i64 clk, .nils] = true
    have hi : beqOne (.int .i64 clk) (.int .i64 clk) = true := by simp [beqOne]
    have hni : beqOne .nils .nils = true := rfl
    simp [beqList, hv.pg.bo, hv.pol.gs.bo, hv.pol.rs.bo, hv.pol.ds.bo, hv.q.bo, hi, hni]
  have qb : beqS (.agg [.int .i64 ((0 : Nat) : Int), .str [81]]) (.agg [.int .i64 ((0 : Nat) : Int), .str [81]]) = true := bq_tt (0, [81])
  have zb : beqList [.str [], .nils, .nils, .nils, .bool false] [.str [], .nils, .nils, .nils, .bool false] = true := by simp [beqList, beqOne, eqS_dec]
  have hE02 : Ext H H2 := by rw [← hH2]; exact (hE0.trans hE1).put (by omega) _
  have hp92 : H2.get H.next = some (.row [.str (htmlT (t1, t2) ok), .opq kk, .opq (kk + 1), .opq (kk + 2), .bool false] 45 true false 0) := by rw [← hH2]; exact get_put_self _ _
  have hp42 := (hE02.2 _ h4n).trans hp4
  have hp62 := (hE02.2 _ h6n).trans hp6
  have hv2 : ViewR (RSl H2) pv gv rv dv qv clk L k G R E Q := hv.imp fun v z L h => h.keep hE02
  refine stp (And.intro @hp40 @hp50) ?_
  refine ED_call (by exact sfc trivial) hc9 (by simp only [List.set_cons_zero, List.set_cons_succ]; with_reducible rfl) ?_
  refine stp trivial ?_
  refine ED_call (by exact sfc trivial) hc8 (by simp only [List.set_cons_zero, List.set_cons_succ]; with_reducible rfl) ?_
  refine stp (And.intro @hp91 @hH2) ?_
  refine ⟨?_, fun h => (by cases h), _, (by simp only [List.getLast?_cons_cons, List.getLast?_singleton]; first | done | with_reducible rfl), ?_⟩
  · exact rdp (And.intro @hp40 (And.intro @hp50 (And.intro @hp9 (And.intro @hp91 (And.intro @vb (And.intro @qb @zb))))))
  · obtain ⟨H3, hc3, hE3⟩ := ask_ok (lf := lf) (n := n) (t := (t1, t2)) (k := 2) hv2 (.inr ⟨rfl, ht⟩) (by omega) hlf
    rw [pageR_two, ho] at hc3
    have hc10 : call3 (t1, t2) ok lf n 10 [.agg [pv, gv, rv, dv, qv, .int .i64 clk, .nils], .agg [.int .i64 ((2 : Nat) : Int), .int .i64 (t1 : Int), .str t2, .int .i64 ((0 : Nat) : Int)]] H2 = some (.agg [.bool ok, .str [], .int .i64 ((0 : Nat) : Int)], H3) := call3_of rfl hc3
    have hp63 := (hE3.2 _ (by have := hE02.1; omega)).trans hp62
    have hp93 := (hE3.2 _ (by rw [← hH2, next_put]; omega)).trans hp92
    refine stp (And.intro @hp42 @hp62) ?_
    refine kst trivial hc10 ?_
    refine stp trivial ?_
    refine EC_cut (fun ts H4 => H4 = H3 ∧ ∃ z : Nat → SV, ts = (z 0 :: z 1 :: z 2 :: z 3 :: z 4 :: z 5 :: (.ptr p6 0) :: z 7 :: z 8 :: (.ptr H.next 0) :: (.int .i64 ((0 : Nat) : Int)) :: (.str (missT ok)) :: z 12 :: z 13 :: z 14 :: z 15 :: z 16 :: z 17 :: z 18 :: z 19 :: z 20 :: z 21 :: z 22 :: z 23 :: z 24 :: z 25 :: z 26 :: z 27 :: z 28 :: z 29 :: z 30 :: z 31 :: z 32 :: z 33 :: z 34 :: z 35 :: z 36 :: z 37 :: z 38 :: z 39 :: z 40 :: z 41 :: z 42 :: z 43 :: z 44 :: z 45 :: z 46 :: z 47 :: z 48 :: z 49 :: z 50 :: z 51 :: z 52 :: z 53 :: z 54 :: z 55 :: z 56 :: z 57 :: z 58 :: z 59 :: z 60 :: z 61 :: z 62 :: z 63 :: z 64 :: z 65 :: z 66 :: z 67 :: z 68 :: z 69 :: z 70 :: z 71 :: z 72 :: z 73 :: z 74 :: z 75 :: z 76 :: z 77 :: z 78 :: z 79 :: z 80 :: z 81 :: z 82 :: z 83 :: z 84 :: z 85 :: z 86 :: z 87 :: z 88 :: z 89 :: z 90 :: z 91 :: z 92 :: z 93 :: z 94 :: z 95 :: z 96 :: z 97 :: z 98 :: z 99 :: z 100 :: z 101 :: z 102 :: z 103 :: [] : T) ∧ (True)) ?_ ?_
    · cases ok with
      | true =>
        refine cstE trivial ?_
        refine stp trivial ?_
        exact ⟨rfl, rfl, rfl, (frame_in (by rfl) (trivial))⟩
      | false =>
        refine cstT trivial ?_
        refine stp trivial ?_
        exact ⟨rfl, rfl, rfl, (frame_in (by rfl) (trivial))⟩
    rintro ts' H4 ⟨rfl, ⟨z, rfl, -⟩⟩
    have hml := missT_len ok
    have hpl := (titL_text _ ht).2.2
    have tb : beqS (.agg [.int .i64 (t1 : Int), .str t2]) (.agg [.int .i64 (t1 : Int), .str t2]) = true := bq_tt (t1, t2)
    have e0 : decide (((0 : Nat) : Int) = ((0 : Nat) : Int)) = true := by decide
    have hc11 : call3 (t1, t2) ok lf n 11 [.agg [.int .i64 (t1 : Int), .str t2]] H4 = some (.str (pathT (t1, t2)), H4) := call3_of rfl (nat_fact tab11n rfl (said_all k_path ht) (by omega) H4)
    have hc12 : call3 (t1, t2) ok lf n 12 [] H4 = some (.bool true, H4) := call3_of rfl (nat_fact tab12n rfl k_known (by omega) H4)
    refine EC_seq ?_
    refine EC_draw rfl ?_
    refine stp (And.intro @e0 (And.intro @hp93 @hp63)) ?_
    have heq : decide (htmlT (t1, t2) ok = 60 :: 112 :: 62 :: 60 :: 97 :: 32 :: (missT ok ++ [104, 114, 101, 102, 61, 34] ++ pathT (t1, t2) ++ [34, 62, 120, 60, 47, 97, 62, 60, 47, 112, 62, 10])) = true := by
      rw [decide_eq_true_eq]
      rfl
    refine ED_call (by exact sfc trivial) hc11 (by simp only [List.set_cons_zero, List.set_cons_succ]; with_reducible rfl) ?_
    refine stp @heq ?_
    refine ED_call (by exact sfc trivial) hc12 (by simp only [List.set_cons_zero, List.set_cons_succ]; with_reducible rfl) ?_
    refine stp trivial ?_
    refine ⟨?_, fun h => (by cases h), _, (by simp only [List.getLast?_cons_cons, List.getLast?_singleton]; first | done | with_reducible rfl), ?_⟩
    · exact rdp (And.intro @e0 (And.intro @hp93 (And.intro @hp63 @tb)))
    · refine stp trivial ?_
      refine ret1 trivial ?_
      exact (rfl)
end
end Go.Sh
end
section
namespace Go.Sh
set_option maxRecDepth 10000
set_option linter.all false
section
variable {lf n : Nat} {H : Heap}
def DataOK (H : Heap) (v : SV) : Prop := v = .nils ∨ ∃ (lb lo len : Nat) (cap : Option Nat) (cs : List SV) (e : TypeId) (ex ro : Bool) (frz : Nat), v = .slice lb lo len cap 1 ∧ lb < H.next ∧ H.get lb = some (.row cs e ex ro frz) ∧ len < 140737488355328 ∧
    (∀ i, i < len → ∃ x : Int, cs[lo + i]? = some (.int .i64 x))
theorem DataOK.one {v : SV} (h : DataOK H v) : SV.one v = true := by
  rcases h with rfl | ⟨_, _, _, _, _, _, _, _, _, rfl, _⟩ <;> rfl
theorem DataOK.tape {v : SV} (h : DataOK H v) : TapeOK (H.next + 1) (H.push (.row [v, .int .i64 ((0 : Nat) : Int)] 61 true false 0)) H.next := by
  refine ⟨Nat.lt_succ_self _, Nat.le_refl _, v, 0, get_push_self _, by omega, ?_⟩
  rcases h with rfl | ⟨lb, lo, len, cap, cs, e, ex, ro, frz, rfl, h1, h2, h3, h4⟩
  · exact .inl rfl
  · exact .inr ⟨lb, lo, len, cap, cs, e, ex, ro, frz, rfl, by omega, Nat.lt_succ_of_lt h1, by rw [get_push_old h1]; exact h2, h3, h4⟩
theorem prefT_at : ∀ sp ∈ [0, 1, 2, 3, 4, 5], (prefT.map SV.str)[sp]? = some (.str (prefT.getD sp [])) := by
  intro sp h
  simp only [List.mem_cons, List.not_mem_nil, or_false] at h
  rcases h with rfl | rfl | rfl | rfl | rfl | rfl <;> rfl
theorem before_ok {a : Tt} (h : a ∈ pagL) (hn : 1 ≤ n) : callS tabT lf n 7 [tC a, tC tQ] H = some (.bool (decide (cmpT a tQ = -1)), H) := nat_fact tab7n rfl (said_all k_before h) hn H
set_option maxHeartbeats 8000000 in
theorem top_walk {v : SV} (hd : DataOK H v) (hn : 9 ≤ n) (hlf : 1000 < lf) :
    ∃ t ok, t ∈ titL ∧ EC (call3 t ok lf n) lf c3.body ([v] ++ List.replicate 103 .undef) [] H (funR c3.results fun r H' => r = .bool true) := by
  have hnew := new_ok (lf := lf) (n := n) (H := H) hd.one (by omega)
  have hT1 := hd.tape
  obtain ⟨H1, hH1⟩ : ∃ H1, H.push (.row [v, .int .i64 ((0 : Nat) : Int)] 61 true false 0) = H1 := ⟨_, rfl⟩
  rw [hH1] at hnew hT1
  have hn1 : H1.next = H.next + 1 := by rw [← hH1]; rfl
  obtain ⟨v2, H2, hc2, hg2, pv, gv, rv, dv, qv, clk, A, nn, G, R, E, Q, rfl, hAl, hAm, hv2⟩ := view_ok (lf := lf) (n := n) hT1 (by omega) hlf
  have hle2 := hg2.1
  have po := hv2.pg.rsl.one
  have go := hv2.pol.gs.rsl.one
  have ro := hv2.pol.rs.rsl.one
  have do_ := hv2.pol.ds.rsl.one
  have qo := hv2.q.rsl.one
  obtain ⟨H3, hH3⟩ : ∃ H3, (H2.push (.row [.nils, .nils, .nils, .nils, .nils, .int .i64 ((0 : Nat) : Int), .nils] 34 true false 0)).put H2.next (.row [pv, gv, rv, dv, qv, .int .i64 clk, .nils] 34 true false 0) = H3 := ⟨_, rfl⟩
  have hE3 : Ext H2 H3 := by rw [← hH3]; exact ((Ext.refl _).push _).put (Nat.le_refl _) _
  have hn3 : H3.next = H2.next + 1 := by rw [← hH3]; rfl
  have hp4 : H3.get H2.next = some (.row [pv, gv, rv, dv, qv, .int .i64 clk, .nils] 34 true false 0) := by rw [← hH3]; exact get_put_self _ _
  have hT3 : TapeOK (H.next + 1) H3 H.next := hg2.2.2.keep hE3.1 fun b hb => hE3.2 b (by omega)
  have hst3 : storeS 7 (.ptr H2.next 0) [pv, gv, rv, dv, qv, .int .i64 clk, .nils] (H2.push (.row [.nils, .nils, .nils, .nils, .nils, .int .i64 ((0 : Nat) : Int), .nils] 34 true false 0)) = some H3 := by
    rw [store_ptr (n := 7) rfl, storeC_eq, get_push_self, sto_row (by simp) (by omega) (by simp only [List.all_cons, List.all_nil, po, go, ro, do_, qo]; rfl)]
    exact congrArg some hH3
  obtain ⟨sp, nm, H4, hc4, hsp, hnm, hg4⟩ := title_ok (lf := lf) (n := n) hT3 (by omega)
  have ht : (sp, nm) ∈ titL := titL_mk sp (lt_mem6 hsp) nm hnm
  refine ⟨(sp, nm), (A.find? fun p => decide (p.t = (sp, nm))).isSome, ht, ?_⟩
  generalize hok : (A.find? fun p => decide (p.t = (sp, nm))).isSome = ok
  have hnew3 : call3 (sp, nm) ok lf n 4 [v] H = some (.ptr H.next 0, H1) := call3_of rfl hnew
  have hc23 : call3 (sp, nm) ok lf n 5 [.ptr H.next 0, .int .i64 ((1 : Nat) : Int)] H1 = some (.agg [pv, gv, rv, dv, qv, .int .i64 clk, .nils], H2) := call3_of rfl hc2
  have hc43 : call3 (sp, nm) ok lf n 6 [.ptr H.next 0] H3 = some (.agg [.int .i64 (sp : Int), .str nm], H4) := call3_of rfl hc4
  simp only [c3, List.reduceReplicate, List.cons_append, List.nil_append]
  refine stp trivial ?_
  refine kst trivial hnew3 ?_
  refine stp trivial ?_
  refine kst trivial hc23 ?_
  refine stp trivial ?_
  refine EO_opN (v := .undef) (H' := H3) (by simp only [go_sem, SV.cells, hst3]) ?_
  have hle4 := hg4.1
  obtain ⟨H5, hH5⟩ : ∃ H5, (((H4.push (.row [.int .i64 ((0 : Nat) : Int), .str []] 37 true false 0)).push (.row [.int .i64 ((0 : Nat) : Int), .str []] 37 true false 0)).put H4.next (.row [.int .i64 ((0 : Nat) : Int), .str [81]] 37 true false 0)).put (H4.next + 1) (.row [.int .i64 (sp : Int), .str nm] 37 true false 0) = H5 := ⟨_, rfl⟩
  have hE5 : Ext H4 H5 := by rw [← hH5]; exact ((((Ext.refl _).push _).push _).put (Nat.le_refl _) _).put (by omega) _
  have hn5 : H5.next = H4.next + 2 := by rw [← hH5]; rfl
  have hp55 : H5.get H4.next = some (.row [.int .i64 ((0 : Nat) : Int), .str [81]] 37 true false 0) := by rw [← hH5, get_put_other (by omega)]; exact get_put_self _ _
  have hp65 : H5.get (H4.next + 1) = some (.row [.int .i64 (sp : Int), .str nm] 37 true false 0) := by rw [← hH5]; exact get_put_self _ _
  obtain ⟨H6, hH6⟩ : ∃ H6, H5.push (.row (prefT.map SV.str) 9 true false 0) = H6 := ⟨_, rfl⟩
  have hE6 : Ext H5 H6 := by rw [← hH6]; exact (Ext.refl _).push _
  have hn6 : H6.next = H5.next + 1 := by rw [← hH6]; rfl
  have hp19 : H6.get H5.next = some (.row (prefT.map SV.str) 9 true false 0) := by rw [← hH6]; exact get_push_self _
  have hp66 := (hE6.2 _ (by omega)).trans hp65
  have hrow : rowL (some (.row (prefT.map SV.str) 9 true false 0)) sp 1 = some [.str (prefT.getD sp [])] := rowL_one (prefT_at sp (lt_mem6 hsp))
  have hpre : H5.push (.row [.str [], .str [84, 97, 108, 107, 58], .str [85, 115, 101, 114, 58], .str [84, 101, 109, 112, 108, 97, 116, 101, 58], .str [67, 97, 116, 101, 103, 111, 114, 121, 58], .str [80, 114, 111, 106, 101, 99, 116, 58]] 9 true false 0) = H6 := hH6
  have hfl := (titL_text _ ht).2.1
  have hlen : (prefT.getD sp []).length + nm.length ≤ 60 := by
    have : fmtT (sp, nm) = prefT.getD sp [] ++ nm := rfl
    rw [this, List.length_append] at hfl
    exact hfl
  refine stp trivial ?_
  refine kst trivial hc43 ?_
  refine stp @hH5 ?_
  refine EC_draw rfl ?_
  refine stp (And.intro @hpre (And.intro @hp65 (And.intro @hp66 (And.intro @hp19 @hrow)))) ?_
  refine ⟨?_, fun h => (by cases h), _, (by simp only [List.getLast?_cons_cons, List.getLast?_singleton]; first | done | with_reducible rfl), ?_⟩
  · exact rdp (And.intro @hp65 (And.intro @hp66 (And.intro @hp19 @hrow)))
  · have hF26 : Fr2 H.next H.next H2 H6 := hE3.fr2.trans (hg4.fr2.trans (hE5.fr2.trans hE6.fr2))
    have hpg6 := (hv2.pg.keep hF26).rsl
    have hp46 : H6.get H2.next = some (.row [pv, gv, rv, dv, qv, .int .i64 clk, .nils] 34 true false 0) := (hE6.2 _ (by omega)).trans ((hE5.2 _ (by omega)).trans (hg4.old (by omega) (by omega) hp4))
    obtain ⟨v7, H7, ha7, hE7, hS7⟩ := app_copy hpg6 (pg_one A) (by rw [List.length_map]; omega) 40 48 (by omega)
    obtain ⟨H8, hH8⟩ : ∃ H8, H7.push (.row [.int .i64 ((0 : Nat) : Int), .str [], .str [], .int .i64 ((0 : Nat) : Int)] 40 true false 0) = H8 := ⟨_, rfl⟩
    have hE8 : Ext H7 H8 := by rw [← hH8]; exact (Ext.refl _).push _
    have hlit : H8.get H7.next = some (.row (pgC ⟨(0, []), [], 0⟩) 40 true false 0) := by rw [← hH8]; exact get_push_self _
    have hle7 := hE7.1
    have hle8 := hE8.1
    obtain ⟨v9, H9, ha9, hS9, hn9, hk9⟩ := app_more (hS7.keep hE8) (pg_all A) (x := pgC ⟨(0, []), [], 0⟩) rfl rfl hlit (by omega) (by rw [List.length_map]; omega) 48 (by omega)
    have hE69 : Ext H6 H9 := ⟨by omega, fun b hb => by rw [hk9 b hb, hE8.2 b (by omega)]; exact hE7.2 b hb⟩
    have hp49 := (hE69.2 _ (by omega)).trans hp46
    rcases hS9 with ⟨h, _⟩ | ⟨_, b, hb6, hb9, rfl, hrow9⟩
    · simp at h
    have hins : (insQ A A.length ⟨(0, []), [], 0⟩).map pgC = A.map pgC ++ [pgC ⟨(0, []), [], 0⟩] := by
      unfold insQ
      simp
    have hl9 : (A.map pgC ++ [pgC ⟨(0, []), [], 0⟩]).length = A.length + 1 := by simp
    rw [← hins] at hrow9
    rw [hl9] at ha9
    have hst9 := store_cell (o := 0) (v := .slice b 0 (A.length + 1) none 4) hp49 rfl (by simp) (by omega)
    obtain ⟨H10, hH10⟩ : ∃ H10, H9.put H2.next (.row [.slice b 0 (A.length + 1) none 4, gv, rv, dv, qv, .int .i64 clk, .nils] 34 true false 0) = H10 := ⟨_, rfl⟩
    have hp410 : H10.get H2.next = some (.row [.slice b 0 (A.length + 1) none 4, gv, rv, dv, qv, .int .i64 clk, .nils] 34 true false 0) := by rw [← hH10]; exact get_put_self _ _
    have hn10 : H10.next = H9.next := by rw [← hH10]; rfl
    have ho10 : ∀ q, q ≠ H2.next → H10.get q = H9.get q := fun q hq => by rw [← hH10]; exact get_put_other hq
    have hp510 : H10.get H4.next = some (.row [.int .i64 ((0 : Nat) : Int), .str [81]] 37 true false 0) := by rw [ho10 _ (by omega), hE69.2 _ (by omega), hE6.2 _ (by omega)]; exact hp55
    have hp610 : H10.get (H4.next + 1) = some (.row [.int .i64 (sp : Int), .str nm] 37 true false 0) := by rw [ho10 _ (by omega), hE69.2 _ (by omega)]; exact hp66
    have hb10 := (ho10 b (by omega)).trans hrow9
    have hst10 : storeS 1 (.ptr H2.next 0) [.slice b 0 (A.length + 1) none 4] H9 = some H10 := by
      rw [hst9]
      exact congrArg some hH10
    refine stp (And.intro @hp46 (And.intro @ha7 (And.intro @hH8 @ha9))) ?_
    refine EO_opN (v := .undef) (H' := H10) (by simp only [go_sem, SV.cells, hst10]) ?_
    refine EO_nil (seqR_normal (EC_seq ?_))
    refine EC_mono ?_ (ins_ok (p4 := H2.next) (p5 := H4.next) (p6 := H4.next + 1) (b := b) (A := A) (tx := fmtT (sp, nm)) (x0 := ⟨(0, []), [], 0⟩) (fun a ha H => call3_of rfl (before_ok ha (by omega))) hAm hAl (by omega) hp410 hp510 hb10 (by omega) (by omega) (by omega) (by omega) (by omega) hlf (by exact (frame_in (by rfl) (trivial))))
    rintro x ts' D H11 ⟨rfl, rfl, hF11, i, hi, hhi, hlo, hb11, hts⟩
    have hn11 := hF11.1
    have hp411 := hF11.old (by omega) (by omega) (by omega) hp410
    have hp511 := hF11.old (by omega) (by omega) (by omega) hp510
    have hp611 := hF11.old (by omega) (by omega) (by omega) hp610
    have hF211 : Fr2 H.next H.next H2 H11 := ⟨by omega, fun q hq hqk _ => by rw [hF11.2 q (by omega) (by omega) (by omega), ho10 q (by omega), hE69.2 q (by have := hF26.1; omega)]; exact hF26.2 q hq hqk hqk⟩
    have hQt : ([91, 91, 58] ++ fmtT (sp, nm) ++ [124, 120, 93, 93]) = textT (sp, nm) := rfl
    rw [hQt] at hb11
    have hpg : RSl H11 (.slice b 0 (A.length + 1) none 4) 4 ((insQ A i ⟨tQ, textT (sp, nm), 1⟩).map pgC) := by
      refine ⟨pg_all _, .inr ⟨b, none, 40, false, false, 0, by rw [List.length_map, insQ_len hi], (fun k h => (by cases h)), by omega, hb11⟩⟩
    have hv11 : ViewR (RSl H11) (.slice b 0 (A.length + 1) none 4) gv rv dv qv clk (insQ A i ⟨tQ, textT (sp, nm), 1⟩) nn G R E Q := by
      have h := hv2.imp (RS' := RSl H11) fun v z L h => (h.keep hF211).rsl
      refine ⟨hpg, fun x hx => ?_, by rw [insQ_len hi]; omega, fun x hx => ?_, insQ_sorted hAm hv2.pso hi rfl hlo hhi, h.pol, h.q, h.qs, h.c0, h.c1⟩
      · rcases insQ_mem hx with rfl | hx
        · exact ⟨by have := (titL_text _ ht).1; show (textT (sp, nm)).length ≤ 2000; omega, Nat.le_refl _⟩
        · exact h.pok x hx
      · rcases insQ_mem hx with rfl | hx
        · exact List.mem_cons_self ..
        · exact List.mem_cons_of_mem _ (hAm x hx)
    exact seqR_normal (right_ok (r := 1) ht hv11 (insQ_find hAm rfl) ((insQ_findT rfl ht).trans hok) hp411 hp511 hp611 (by omega) (by omega) (by omega) hn hlf hts)
end
end Go.Sh
end
