/-
  TopMerges: the walk. (frame style z)
-/
import Derived.Test.YtpcpmplkblbpbaaGreatDoorShE3
set_option linter.all false
section
namespace Go.Sh
set_option maxRecDepth 10000
set_option linter.all false
noncomputable def call2 (lf n : Nat) : CallS := fun f args H => match Nat.beq f 10 with
  | true => match args with
    | [] => some (.bool true, H)
    | _ => none
  | false => callS tabT lf n f args H
theorem call2_10 {lf n : Nat} {H : Heap} : call2 lf n 10 [] H = some (.bool true, H) := rfl
theorem call2_of {lf n f : Nat} {args : List SV} {H : Heap} {r : Option (SV × Heap)} (hf : Nat.beq f 10 = false) (h : callS tabT lf n f args H = r) : call2 lf n f args H = r := by
  rw [← h]
  unfold call2
  rw [hf]
section
variable {lf n : Nat} {H : Heap}
theorem new_ok {v : SV} (hv : SV.one v = true) (hn : 1 ≤ n) : callS tabT lf n 4 [v] H = some (.ptr H.next 0, H.push (.row [v, .int .i64 0] 40 true false 0)) := by
  obtain ⟨n, rfl⟩ : ∃ m, n = m + 1 := ⟨n - 1, by omega⟩
  have key : ∃ w H', callS tabT lf (n + 1) 4 [v] H = some (w, H') ∧ w = .ptr H.next 0 ∧ H' = H.push (.row [v, .int .i64 0] 40 true false 0) := by
    have hc : v.cells = [v] := by cases v <;> first | rfl | exact (by cases hv)
    refine call_code tab4 (by simp only [c4, go_sem, List.reduceReplicate, Nat.reduceAdd, Nat.reduceSub]; exact rfl) ?_
    simp only [c4]
    refine stp @hc ?_
    refine ret1 trivial ?_
    exact (⟨rfl, rfl⟩)
  obtain ⟨w, H', h, rfl, rfl⟩ := key
  exact h
def DataOK (H : Heap) (v : SV) : Prop := v = .nils ∨ ∃ (lb lo len : Nat) (cap : Option Nat) (cs : List SV) (e : TypeId) (ex ro : Bool) (frz : Nat), v = .slice lb lo len cap 1 ∧ lb < H.next ∧ H.get lb = some (.row cs e ex ro frz) ∧ len < 140737488355328 ∧
    (∀ i, i < len → ∃ x : Int, cs[lo + i]? = some (.int .i64 x))
theorem DataOK.one {v : SV} (h : DataOK H v) : SV.one v = true := by
  rcases h with rfl | ⟨_, _, _, _, _, _, _, _, _, rfl, _⟩ <;> rfl
theorem DataOK.tape {v : SV} (h : DataOK H v) : TapeOK (H.push (.row [v, .int .i64 0] 40 true false 0)) H.next := by
  refine ⟨v, 0, get_push_self _, by omega, ?_⟩
  rcases h with rfl | ⟨lb, lo, len, cap, cs, e, ex, ro, frz, rfl, h1, h2, h3, h4⟩
  · exact .inl rfl
  · exact .inr ⟨lb, lo, len, cap, cs, e, ex, ro, frz, rfl, by omega, Nat.lt_succ_of_lt h1, by rw [get_push_old h1]; exact h2, h3, h4⟩
theorem uok_of {ls : List (List Nat)} {last : List Nat} (h : TextOK ls last) (hl : (textL ls last).length ≤ 8192) (hn : nH ls < 900) : UOK (textL ls last) (unL ls last) := by
  intro lf n H hn1 hlf
  have hla := Or.inr (a := last = []) h.last
  have hfr : ∀ x ∈ secsF (headsL (textL ls last).length 0 ls last), x.frm ≤ (textL ls last).length := fun x hx => by
    obtain ⟨y, hy, _, e, _⟩ := secsF_mem hx
    have := headsL_frm hla _ _ _ hy
    rw [e, textL_length]
    omega
  have hmo : ∀ i x y, (secsF (headsL (textL ls last).length 0 ls last))[i]? = some x → (secsF (headsL (textL ls last).length 0 ls last))[i + 1]? = some y → x.frm ≤ y.frm := fun i x y hx hy => by
    obtain ⟨x0, hx0, ex⟩ := secsF_inv hx
    obtain ⟨y0, hy0, ey⟩ := secsF_inv hy
    have := headsL_mono hla _ _ _ _ _ hx0 hy0
    rw [ex, ey]
    exact this
  obtain ⟨v, H', h1, h2, h3⟩ := units_ok (lf := lf) (n := n) (H := H) (fun x hx => (h.chars x hx).2) (fun x hx => (h.chars x hx).1) h.lines hl (by rw [secsF_length, headsL_len hla]; exact hn) hfr hmo hn1 (by omega)
  rw [units_eq hla] at h3
  exact ⟨v, H', h1, h2, h3⟩
theorem dstE_cons (e : Edt) (E : List Edt) : dstE (e :: E) = (if e.1 = 2 then [] else e.2.2) ++ dstE E := by simp [dstE]
theorem mem_len : ∀ {E : List Edt} {e : Edt}, e ∈ E → e.2.2.length ≤ (srcE E).length + (dstE E).length
  | a :: E, e, h => by
    rw [srcE_cons, dstE_cons]
    simp only [List.length_append]
    rcases List.mem_cons.1 h with rfl | h
    · by_cases h3 : e.1 = 3
      · rw [if_pos h3, if_neg (by omega)]
        omega
      · rw [if_neg h3]
        omega
    · have := mem_len h
      omega
set_option maxHeartbeats 8000000 in
theorem top_walk {v : SV} (hd : DataOK H v) (hn : 14 ≤ n) (hlf : 30000 < lf) :
    EC (call2 lf n) lf c3.body ([v] ++ List.replicate 67 .undef) [] H (funR c3.results fun r H' => r = .bool true) := by
  have hnew := call2_of (f := 4) rfl (new_ok (lf := lf) (n := n) (H := H) hd.one (by omega))
  obtain ⟨H1, hH1⟩ : ∃ H1, H.push (.row [v, .int .i64 0] 40 true false 0) = H1 := ⟨_, rfl⟩
  have hT1 := hd.tape
  have hE1 : Ext H H1 := by rw [← hH1]; exact (Ext.refl _).push _
  have hk1 : H.next < H1.next := by rw [← hH1, next_push]; omega
  rw [hH1] at hnew hT1
  obtain ⟨lb, eb, H2, hl2, hE2, nb, mb, heb, hT2, hk2⟩ := lines_ok (lf := lf) (n := n) hE1 (Nat.le_refl _) hk1 hT1 (by omega) (by omega)
  obtain ⟨lo, eo, H3, hl3, hE3, no, mo, heo, hT3, hk3⟩ := lines_ok (lf := lf) (n := n) hE2 (Nat.le_refl _) hk2 hT2 (by omega) (by omega)
  obtain ⟨lt, et, H4, hl4, hE4, nt, mt, het, hT4, hk4⟩ := lines_ok (lf := lf) (n := n) hE3 (Nat.le_refl _) hk3 hT3 (by omega) (by omega)
  have line2 : call2 lf n 5 [.ptr H.next 0, .int .i64 ((10 : Nat) : Int)] H1 = some (.str (textL lb eb), H2) := call2_of (f := 5) rfl hl2
  have line3 : call2 lf n 5 [.ptr H.next 0, .int .i64 ((10 : Nat) : Int)] H2 = some (.str (textL lo eo), H3) := call2_of (f := 5) rfl hl3
  have line4 : call2 lf n 5 [.ptr H.next 0, .int .i64 ((10 : Nat) : Int)] H3 = some (.str (textL lt et), H4) := call2_of (f := 5) rfl hl4
  have small : ∀ (ls : List (List Nat)) (e : List Nat), (∀ x ∈ ls, x ∈ menu ∨ x = endL) → LaOK e → (textL ls e).length ≤ 10 * ls.length + 3 := fun ls e h1 h2 => by
    have h3 := textL_len (k := 9) (ls := ls) (last := e) fun l hl => (h1 l hl).elim (menu_len l) (fun h => by rw [h]; decide)
    have h4 : e.length ≤ 3 := by rcases h2 with rfl | rfl <;> simp
    omega
  have tb := ok_of (fun x hx => .inl (mb x hx)) heb
  have to_ := ok_of (fun x hx => .inl (mo x hx)) heo
  have tt := ok_of (fun x hx => .inl (mt x hx)) het
  have zb := small lb eb (fun x hx => .inl (mb x hx)) heb
  have zo := small lo eo (fun x hx => .inl (mo x hx)) heo
  have zt := small lt et (fun x hx => .inl (mt x hx)) het
  have hN : ∀ ls : List (List Nat), nH ls ≤ ls.length := fun ls => List.length_filter_le ..
  have UB := uok_of tb (by omega) (Nat.lt_of_le_of_lt (hN lb) (by omega))
  have UO := uok_of to_ (by omega) (Nat.lt_of_le_of_lt (hN lo) (by omega))
  have UT := uok_of tt (by omega) (Nat.lt_of_le_of_lt (hN lt) (by omega))
  have uB := unL_ok mb heb nb
  have uO := unL_ok mo heo no
  have uT := unL_ok mt het nt
  have lenB : (unL lb eb).length ≤ 10 := by rw [unL_len]; have := cutL_len eb lb; omega
  have lenO : (unL lo eo).length ≤ 10 := by rw [unL_len]; have := cutL_len eo lo; omega
  have lenT : (unL lt et).length ≤ 10 := by rw [unL_len]; have := cutL_len et lt; omega
  obtain ⟨lm, em, nm, mm, hem, hmf, hcm, K1, K2⟩ := law_merge mb mo mt heb heo het nb no nt
  have tm := ok_of mm hem
  have zm := small lm em mm hem
  have UM := uok_of tm (by omega) (by rw [cut_nH em]; omega)
  have lenM : (unL lm em).length ≤ 21 := by rw [unL_len]; omega
  have smO : ∀ y ∈ unL lo eo, y.text.length ≤ 93 := fun y hy => by have := unL_small hy; omega
  have smT : ∀ y ∈ unL lt et, y.text.length ≤ 93 := fun y hy => by have := unL_small hy; omega
  have smM : ∀ y ∈ unL lm em, y.text.length ≤ 8192 := fun y hy => by have := unL_small hy; omega
  have hMne : mergedU (unL lb eb) (unL lo eo) (unL lt et) ≠ [] := by
    obtain ⟨ld, L, e, _⟩ := merged_law (B := unL lb eb) uO uT
    rw [e]
    simp
  have smJ : ∀ y ∈ mergedU (unL lb eb) (unL lo eo) (unL lt et), y.text.length ≤ 93 := fun y hy => (merged_mem hy).elim (smO y) (smT y)
  have hjl : (joinU (mergedU (unL lb eb) (unL lo eo) (unL lt et))).length ≤ 8192 := by
    have h1 := joinF_len (k := 93) (last := lastF (mergedU (unL lb eb) (unL lo eo) (unL lt et)) 0 0) (L := mergedU (unL lb eb) (unL lo eo) (unL lt et)) (i := 0) smJ
    have h2 : (mergedU (unL lb eb) (unL lo eo) (unL lt et)).length ≤ (ordF (unL lo eo) (unL lt et)).length := List.length_filterMap_le _ _
    have h3 : (ordF (unL lo eo) (unL lt et)).length ≤ (unL lo eo).length + (unL lt et).length := (ordI_len (unL lo eo) (unL lt et) (unL lt et).length).2
    have h4 : (mergedU (unL lb eb) (unL lo eo) (unL lt et)).length * (93 + 1) ≤ 20 * 94 := Nat.mul_le_mul (by omega) (Nat.le_refl _)
    have h5 : (joinU (mergedU (unL lb eb) (unL lo eo) (unL lt et))).length ≤ (mergedU (unL lb eb) (unL lo eo) (unL lt et)).length * (93 + 1) := h1
    omega
  obtain ⟨w, k, H5, hmc, hlw, how, hcw, hE5⟩ := merge_ok (lf := lf) (n := n) (H := H4) UB UO UT (by omega) (by omega) (by omega) (uO.zero uT) hMne
    (fun y hy => ⟨by have := smJ y hy; omega, (merged_mem hy).elim (uls_bts uO) (uls_bts uT)⟩) hjl (by omega) (by omega)
  rw [hmf] at hmc
  obtain ⟨H6, hH6⟩ : ∃ H6, (H5.push (.row [.str [], .nils] 28 true false 0)).put H5.next (.row [.str (textL lm em), w] 28 true false 0) = H6 := ⟨_, rfl⟩
  have hst6 : storeS 2 (.ptr H5.next 0) [.str (textL lm em), w] (H5.push (.row [.str [], .nils] 28 true false 0)) = some H6 := by
    rw [store_ptr (n := 2) rfl, storeC_eq, get_push_self, sto_row (by simp) (by omega) (by show (true && (SV.one w && true)) = true; rw [how]; rfl)]
    exact congrArg some hH6
  have g6 : H6.get H5.next = some (.row [.str (textL lm em), w] 28 true false 0) := by rw [← hH6]; exact get_put_self _ _
  have n6 : H6.next = H5.next + 1 := by rw [← hH6]; rfl
  have lX : (linF lo eo).length ≤ 10 := by rw [linF_len]; split <;> omega
  have lY : (linF lm em).length ≤ 1000 := by rw [linF_len]; split <;> omega
  obtain ⟨vd, H7, E, hdc, hE7, hEd, hsrc, hdst⟩ := diff_ok (lf := lf) (n := n) (H := H6) to_.lines tm.lines (by omega) (by omega) (by omega) lY (by omega) (by omega) (by omega) (by omega)
  have hfm : (dstE E).flatten = textL lm em := by rw [hdst, linF_text]
  have hEl := E_len (fun e he => (hEd.el e he).1)
  obtain ⟨H8, hac, hE8⟩ := apply_ok (lf := lf) (n := n) (H := H7) to_.lines hEd hsrc (by omega) (by rw [hfm]; omega) (by rw [hfm]; exact fun x hx => (tm.chars x hx).1)
    (fun e he => by have := mem_len he; rw [hsrc, hdst] at this; omega) (by rw [hsrc, hdst] at hEl; omega) (by omega) (by omega) (by omega)
  rw [hfm] at hac
  obtain ⟨H9, hk9, hE9⟩ := kept_ok (lf := lf) (n := n) (H := H8) UB UO UT UM (by omega) (by omega) (by omega) (by omega) (fun y hy => by have := smT y hy; omega) (fun y hy => by have := smM y hy; omega) K1 (by omega) (by omega)
  obtain ⟨H10, hk10, hE10⟩ := kept_ok (lf := lf) (n := n) (H := H9) UB UT UO UM (by omega) (by omega) (by omega) (by omega) (fun y hy => by have := smO y hy; omega) (fun y hy => by have := smM y hy; omega) K2 (by omega) (by omega)
  have n7 := hE7.1
  have n8 := hE8.1
  have n9 := hE9.1
  have g8 : H8.get H5.next = some (.row [.str (textL lm em), w] 28 true false 0) := by rw [hE8.2 _ (by omega), hE7.2 _ (by omega)]; exact g6
  have g9 : H9.get H5.next = some (.row [.str (textL lm em), w] 28 true false 0) := by rw [hE9.2 _ (by omega)]; exact g8
  have cmc := call2_of (f := 6) rfl hmc
  have cdc := call2_of (f := 8) rfl hdc
  have cac := call2_of (f := 7) rfl hac
  have ck9 := call2_of (f := 9) rfl hk9
  have ck10 := call2_of (f := 9) rfl hk10
  have hrun := fun H => call2_10 (lf := lf) (n := n) (H := H)
  obtain ⟨sb, hsb⟩ : ∃ s, textL lb eb = s := ⟨_, rfl⟩
  obtain ⟨so, hso⟩ : ∃ s, textL lo eo = s := ⟨_, rfl⟩
  obtain ⟨st, hst⟩ : ∃ s, textL lt et = s := ⟨_, rfl⟩
  obtain ⟨sm, hsm⟩ : ∃ s, textL lm em = s := ⟨_, rfl⟩
  rw [hsb] at line2
  rw [hso] at line3
  rw [hst] at line4
  rw [hsb, hso, hst, hsm] at cmc
  rw [hsm] at hst6 g6 g8 g9
  rw [hso, hsm] at cdc cac
  rw [hsb, hso, hst, hsm] at ck9 ck10
  have x0 : rowL (some (.row [.str sm, w] 28 true false 0)) 0 1 = some [.str sm] := rfl
  have x1 : rowL (some (.row [.str sm, w] 28 true false 0)) 1 1 = some [w] := rfl
  have d0 : decide ((0 : Int) ≠ ((0 : Nat) : Int)) = false := by decide
  have dm : decide (sm ≠ sm) = false := by simp
  simp only [c3, List.reduceReplicate, List.cons_append, List.nil_append]
  refine stp trivial ?_
  refine kst trivial hnew ?_
  refine stp trivial ?_
  refine kst trivial line2 ?_
  refine stp trivial ?_
  refine kst trivial line3 ?_
  refine stp trivial ?_
  refine kst trivial line4 ?_
  refine stp trivial ?_
  refine kst trivial cmc ?_
  refine stp (And.intro @hst6 @d0) ?_
  refine cstE @d0 ?_
  refine stp (And.intro @g6 @x0) ?_
  refine kst trivial cdc ?_
  refine stp trivial ?_
  refine kst trivial cac ?_
  refine stp (And.intro @d0 (And.intro @g8 (And.intro @x0 @dm))) ?_
  refine cstE @dm ?_
  by_cases hk0 : k = 0
  · subst hk0
    have dk : decide (((0 : Nat) : Int) > ((0 : Nat) : Int)) = false := by decide
    refine stp (And.intro @g8 (And.intro @x1 (And.intro @x0 (And.intro @hlw @dk)))) ?_
    refine kst trivial ck9 ?_
    refine stp (And.intro @g9 @x0) ?_
    refine kst trivial ck10 ?_
    refine stp trivial ?_
    refine kst trivial (hrun H10) ?_
    refine stp trivial ?_
    refine ret1 trivial ?_
    exact (rfl)
  · have dk : decide ((k : Int) > ((0 : Nat) : Int)) = true := by simp only [decide_eq_true_eq]; omega
    refine stp (And.intro @g8 (And.intro @x1 (And.intro @hlw @dk))) ?_
    refine kst trivial (hrun H8) ?_
    refine stp trivial ?_
    refine ret1 trivial ?_
    exact (rfl)
end
end Go.Sh
end
