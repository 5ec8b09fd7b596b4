/-
  Merges: the units of a text. (frame style z)
-/
import Derived.Test.YtpcpmplkblbpbaaGreatDoorShD0
set_option linter.all false
section
namespace Go.Sh
set_option maxRecDepth 10000
set_option linter.all false
def unitsFrom (s : List Nat) : List (List Nat) → List Sec → List Un
  | _, [] => []
  | seen, x :: S => ⟨x.title, seen.count x.title, (s.drop x.frm).take ((match S with | [] => s.length | y :: _ => y.frm) - x.frm)⟩ :: unitsFrom s (seen ++ [x.title]) S
theorem unitsFrom_cons (s : List Nat) (seen : List (List Nat)) (x : Sec) (S : List Sec) : unitsFrom s seen (x :: S) = ⟨x.title, seen.count x.title, (s.drop x.frm).take ((match S with | [] => s.length | y :: _ => y.frm) - x.frm)⟩ :: unitsFrom s (seen ++ [x.title]) S := by rw [unitsFrom.eq_def]
def unitsF (s : List Nat) (S : List Sec) : List Un := ⟨[], 0, leadF s S⟩ :: unitsFrom s [] S
theorem unitsFrom_len {s : List Nat} : ∀ {S : List Sec} {seen : List (List Nat)}, (unitsFrom s seen S).length = S.length
  | [], _ => rfl
  | x :: S, seen => by simp [unitsFrom, unitsFrom_len]
theorem unitsFrom_get {s : List Nat} : ∀ {S : List Sec} {seen : List (List Nat)} {i : Nat} {x : Sec}, S[i]? = some x →
    (unitsFrom s seen S)[i]? = some ⟨x.title, (seen ++ (S.take i).map Sec.title).count x.title, (s.drop x.frm).take ((match S[i + 1]? with | none => s.length | some y => y.frm) - x.frm)⟩
  | x :: S, seen, 0, y, h => by
    simp at h
    subst h
    cases S <;> simp [unitsFrom]
  | x :: S, seen, i + 1, y, h => by
    rw [unitsFrom_cons, List.getElem?_cons_succ, unitsFrom_get (by simpa using h)]
    simp
def cntG (T : List (List Nat)) (k : List Nat) : Option Nat := if T.count k = 0 then none else some (T.count k)
theorem cntG_nil : cntG [] = fun _ => none := by funext k; simp [cntG]
theorem cntG_snoc (T : List (List Nat)) (k : List Nat) : cntG (T ++ [k]) = fun k' => if k' = k then some (T.count k + 1) else cntG T k' := by
  funext k'
  by_cases h : k' = k
  · subst h
    simp [cntG, List.count_append]
  · have h' : ¬ k = k' := fun e => h e.symm
    simp [cntG, List.count_append, List.count_singleton, h, h']
def ntC (n : Nat) : SV := .int .i64 (n : Int)
theorem cnt_val (T : List (List Nat)) (k : List Nat) : (cntG T k).elim (.int .i64 0) ntC = .int .i64 ((T.count k : Nat) : Int) := by
  unfold cntG
  split
  · rename_i h
    rw [h]
    rfl
  · rfl
theorem str_key : KeyOK false [(0, 2)] SV.str where
  eq := fun a b => by
    show some (eqS a b) = _
    rw [eqS_dec]
  same := fun a => by
    show eqS a a = true
    rw [eqS_dec]; simp
theorem su_app {H : Heap} {b b' : Nat} {c c' : Option Nat} {ex ex' : Bool} {L : List Un} {u : Un} {e' : TypeId} {ro : Bool} {frz : Nat} (hb : b < H.next) (hc : c = none ∨ c = some L.length) (hrow : H.get b = some (.row (L.map unC).flatten 51 ex false 0))
    (hb' : H.get b' = some (.row (unC u) e' ex' ro frz)) (hL : L.length < 1000) :
    ∃ H', appS H false 51 3 40 (.slice b 0 L.length c 3) (.slice b' 0 1 c' 3) = some (.slice H.next 0 (L.length + 1) none 3, H') ∧ H'.next = H.next + 1 ∧ H'.get H.next = some (.row ((L ++ [u]).map unC).flatten 51 false false 0) ∧ ∀ k, k < H.next → k ≠ b → H'.get k = H.get k := by
  have hlen : (L.map unC).flatten.length = L.length * 3 := by rw [flatten_len (unC_all _), List.length_map]
  have hfl : ((L ++ [u]).map unC).flatten = (L.map unC).flatten ++ unC u := by simp
  have hsrc := srcS_one (H := H) (z := 3) (c := c') (x := unC u) rfl hb'
  have hload : loadC H b 0 (L.length * 3) = some (L.map unC).flatten := by
    rw [loadC_eq, hrow, rowL_row (by omega), List.drop_zero, ← hlen, List.take_length]
  have h1 : Nat.ble ((L.length + 1) * 40) roomS = true := ble_true (by have : roomS = 35184372088832 := rfl; omega)
  have h2 : Nat.ble (L.length + 1) roomS = true := ble_true (by have : roomS = 35184372088832 := rfl; omega)
  have hone : (unC u).all SV.one = true := rfl
  rcases hc with rfl | rfl
  · refine ⟨(H.put b .dead).push (.row ((L.map unC).flatten ++ unC u) 51 false false 0), ?_, rfl, ?_, fun k hk hkb => ?_⟩
    · simp only [appS, hsrc, beq_self, h1, h2, hload, hrow, hone, Bool.and_self]
      rw [ble_true (Nat.zero_le _)]
      rfl
    · rw [hfl]
      exact get_push_self (H := H.put b .dead) _
    · rw [get_push_old (by rw [next_put]; exact hk), get_put_other hkb]
  · refine ⟨H.push (.row ((L.map unC).flatten ++ unC u) 51 false false 0), ?_, rfl, ?_, fun k hk hkb => get_push_old hk⟩
    · have h3 : Nat.ble (L.length + 1) L.length = false := by
        cases h : Nat.ble (L.length + 1) L.length with
        | false => rfl
        | true => have := Nat.le_of_ble_eq_true h; omega
      simp only [appS, hsrc, beq_self, h1, h2, hload, h3, Bool.and_self]
    · rw [hfl]
      exact get_push_self _
@[reducible] def IU13 (s : List Nat) (w : SV) (S : List Sec) (mb : Nat) (H0 : Heap) (m : Nat) (ts : T) (D : DS) (H' : Heap) : Prop :=
  D = [] ∧ Ext H0 H' ∧ ∃ (i b : Nat) (c : Option Nat) (ex : Bool), m = S.length - i ∧ i ≤ S.length ∧ H0.next ≤ b ∧ b < H'.next ∧ H0.next ≤ mb ∧ mb < H'.next ∧ (c = none ∨ c = some (i + 1)) ∧
    H'.get b = some (.row (((unitsF s S).take (i + 1)).map unC).flatten 51 ex false 0) ∧ Mp SV.str ntC H' mb (cntG ((S.take i).map Sec.title)) ∧
    ∃ z : Nat → SV, ts = ((.str s) :: z 1 :: z 2 :: z 3 :: (w) :: z 5 :: z 6 :: z 7 :: (.slice b 0 (i + 1) c 3) :: (.map mb) :: z 10 :: z 11 :: z 12 :: z 13 :: z 14 :: z 15 :: z 16 :: z 17 :: z 18 :: z 19 :: z 20 :: z 21 :: z 22 :: z 23 :: z 24 :: z 25 :: z 26 :: z 27 :: z 28 :: z 29 :: (w) :: (.int .i64 (S.length : Int)) :: (.int .i64 (i : Int)) :: z 33 :: z 34 :: z 35 :: z 36 :: z 37 :: z 38 :: z 39 :: z 40 :: z 41 :: z 42 :: z 43 :: z 44 :: z 45 :: z 46 :: z 47 :: z 48 :: z 49 :: z 50 :: z 51 :: z 52 :: z 53 :: z 54 :: z 55 :: z 56 :: z 57 :: z 58 :: z 59 :: z 60 :: z 61 :: z 62 :: z 63 :: z 64 :: z 65 :: z 66 :: z 67 :: z 68 :: z 69 :: z 70 :: z 71 :: [] : T) ∧ (True)
section
variable {lf n : Nat} {H : Heap}
theorem units_ok {s : List Nat} {ls : List (List Nat)} {last : List Nat} (hp : Plain s) (hs : Bts s) (hL : LinesOK s ls last) (hlen : s.length ≤ 8192) (hSl : (secsF (headsL s.length 0 ls last)).length < 900)
    (hfr : ∀ x ∈ secsF (headsL s.length 0 ls last), x.frm ≤ s.length) (hmo : ∀ i x y, (secsF (headsL s.length 0 ls last))[i]? = some x → (secsF (headsL s.length 0 ls last))[i + 1]? = some y → x.frm ≤ y.frm) (hn : 11 ≤ n) (hlf : s.length + 1000 < lf) :
    ∃ v H', callS tabT lf n 13 [.str s] H = some (.tup [v, .int .i64 0], H') ∧ Ext H H' ∧ Su H.next H' v (unitsF s (secsF (headsL s.length 0 ls last))) := by
  obtain ⟨n, rfl⟩ : ∃ m, n = m + 1 := ⟨n - 1, by omega⟩
  have key : ∃ r H', callS tabT lf (n + 1) 13 [.str s] H = some (r, H') ∧ ∃ v, r = .tup [v, .int .i64 0] ∧ Ext H H' ∧ Su H.next H' v (unitsF s (secsF (headsL s.length 0 ls last))) := by
    obtain ⟨w, H1, hsec, hE1, hsl⟩ := sections_ok (lf := lf) (n := n) (H := H) hp hs hL hlen (by omega) (by omega)
    obtain ⟨H2, hle, hE2⟩ := lead_ok (lf := lf) (n := n) (H := H1) hp hs hL hlen hfr (by omega) (by omega)
    obtain ⟨S, hS⟩ : ∃ S, secsF (headsL s.length 0 ls last) = S := ⟨_, rfl⟩
    rw [hS] at hsl hfr hmo hSl hle
    rw [hS]
    obtain ⟨ld, hld⟩ : ∃ ld, leadF s S = ld := ⟨_, rfl⟩
    rw [hld] at hle
    have d0 : decide ((0 : Int) ≠ ((0 : Nat) : Int)) = false := by decide
    have hlw : lenlS w = some (.int .i64 (S.length : Int)) := by rw [hsl.lenl, List.length_map]
    have hUl : (unitsF s S).length = S.length + 1 := by rw [unitsF, List.length_cons, unitsFrom_len]
    refine call_code tab13 (by simp only [c13, go_sem, List.reduceReplicate, Nat.reduceAdd, Nat.reduceSub]; exact rfl) ?_
    simp only [c13]
    refine stp trivial ?_
    refine kst trivial hsec ?_
    refine stp @d0 ?_
    refine cstE @d0 ?_
    refine stp trivial ?_
    refine kst trivial hle ?_
    obtain ⟨H3, hH3⟩ : ∃ H3, (H2.push (.row [.str [], .int .i64 ((0 : Nat) : Int), .str ld] 51 true false 0)).push (.map [] 0) = H3 := ⟨_, rfl⟩
    refine stp (And.intro @hH3 @hlw) ?_
    refine EC_loop (I := IU13 s w S (H2.next + 1) H2) ?_ S.length ?_ (by omega)
    · rintro m ts D H4 ⟨rfl, hE, i, b, c, ex, rfl, hi, hb0, hb, hmb0, hmb, hcap, hrow, hM, ⟨z, rfl, -⟩⟩
      refine stp trivial ?_
      refine cst trivial (fun hc => ?_) (fun hc => ?_) <;> try simp only [decide_eq_true_eq, decide_eq_false_iff_not, not_true_eq_false, not_false_eq_true, Int.not_lt, Int.not_le, ge_iff_le, gt_iff_lt] at hc
      · obtain ⟨x, hx⟩ : ∃ x, S[i]? = some x := ⟨_, List.getElem?_eq_getElem (by omega)⟩
        obtain ⟨bS, hbS1, hbS2, rfl, hrS⟩ := hsl.at (i := i) (x := secC x) (by rw [List.getElem?_map, hx]; rfl)
        rw [List.length_map] at *
        have hxm := hfr x (List.mem_of_getElem? hx)
        have hrS4 : H4.get bS = some (.row (S.map secC).flatten 110 false false 0) := by rw [(hE2.trans hE).2 bS hbS2]; exact hrS
        have hq := rowL_at (z := 5) (i := i) (e := 110) (ex := false) (ro := false) (frz := 0) (secC_all S) (by rw [List.getElem?_map, hx]; rfl : (S.map secC)[i]? = some (secC x))
        have hcell := fun (j k : Nat) (y : Sec) (c : SV) (hj : S[j]? = some y) (hc : (secC y)[k]? = some c) (hk : k < 5) => rowL_one (e := 110) (ex := false) (ro := false) (frz := 0) (sec_cell hj k hc hk)
        have hflS : (S.map secC).flatten.length = S.length * 5 := by rw [flatten_len (secC_all _), List.length_map]
        obtain ⟨cs, hcs⟩ : ∃ cs, (S.map secC).flatten = cs := ⟨_, rfl⟩
        rw [hcs] at hrS4 hq hcell hflS
        simp only [secC] at hq
        obtain ⟨to, hto⟩ : ∃ to, (match S[i + 1]? with | none => s.length | some y => y.frm) = to := ⟨_, rfl⟩
        have hto1 : x.frm ≤ to ∧ to ≤ s.length := by
          rw [← hto]
          cases hy : S[i + 1]? with
          | none => exact ⟨hxm, Nat.le_refl _⟩
          | some y => exact ⟨hmo i x y hx hy, hfr y (List.mem_of_getElem? hy)⟩
        obtain ⟨T, hT⟩ : ∃ T, (S.take i).map Sec.title = T := ⟨_, rfl⟩
        rw [hT] at hM
        obtain ⟨u, hu⟩ : ∃ u : Un, u = ⟨x.title, T.count x.title, (s.drop x.frm).take (to - x.frm)⟩ := ⟨_, rfl⟩
        have hU : (unitsF s S)[i + 1]? = some u := by rw [unitsF, List.getElem?_cons_succ, unitsFrom_get hx, hto, List.nil_append, hT, hu]
        have htk : (unitsF s S).take (i + 1 + 1) = (unitsF s S).take (i + 1) ++ [u] := by rw [List.take_succ, hU]; rfl
        have htl : ((unitsF s S).take (i + 1)).length = i + 1 := by rw [List.length_take, hUl]; omega
        have hTs : (S.take (i + 1)).map Sec.title = T ++ [x.title] := by rw [List.take_succ, hx]; simp [hT]
        have hbm : (H2.next + 1) ≠ b := by
          intro e
          obtain ⟨es, ck, P, hg, _⟩ := hM
          rw [e, hrow] at hg
          cases hg
        obtain ⟨H5, hH5⟩ : ∃ H5, (H4.push (.row [.int .i64 ((0 : Nat) : Int), .str [], .int .i64 ((0 : Nat) : Int), .int .i64 ((0 : Nat) : Int), .int .i64 ((0 : Nat) : Int)] 110 true false 0)).put H4.next (.row [.int .i64 (x.level : Int), .str x.title, .int .i64 (x.frm : Int), .int .i64 (x.body : Int), .int .i64 (x.to : Int)] 110 true false 0) = H5 := ⟨_, rfl⟩
        have hp : H5.get H4.next = some (.row [.int .i64 (x.level : Int), .str x.title, .int .i64 (x.frm : Int), .int .i64 (x.body : Int), .int .i64 (x.to : Int)] 110 true false 0) := by rw [← hH5]; exact get_put_self _ _
        have hE5 : Ext H4 H5 := by rw [← hH5]; exact ((Ext.refl _).push _).put (Nat.le_refl _) _
        have hn5 : H5.next = H4.next + 1 := by rw [← hH5]; rfl
        have hrS5 : H5.get bS = some (.row cs 110 false false 0) := by rw [hE5.2 bS (Nat.lt_of_lt_of_le hbS2 (hE2.trans hE).1)]; exact hrS4
        have hM5 : Mp SV.str ntC H5 (H2.next + 1) (cntG T) := hM.ext (hE5.2 (H2.next + 1) hmb)
        have hlk := hM5.lku str_key (.int .i64 0) x.title
        rw [cnt_val] at hlk
        obtain ⟨cnt, hcnt⟩ : ∃ cnt, T.count x.title = cnt := ⟨_, rfl⟩
        rw [hcnt] at hlk hu
        have hcb : cnt ≤ i := by
          rw [← hcnt]
          refine Nat.le_trans List.count_le_length ?_
          rw [← hT, List.length_map, List.length_take]
          omega
        have hlk' : lkuS false [(0, 2)] (.int .i64 ((0 : Nat) : Int)) false (entS H5 (.map (H2.next + 1))) (.str x.title) = some (.int .i64 (cnt : Int)) := hlk
        obtain ⟨tx, htx⟩ : ∃ tx, (s.drop x.frm).take (to - x.frm) = tx := ⟨_, rfl⟩
        rw [htx] at hu
        obtain ⟨H6, hH6⟩ : ∃ H6, H5.push (.row [.str x.title, .int .i64 (cnt : Int), .str tx] 51 true false 0) = H6 := ⟨_, rfl⟩
        have hn6 : H6.next = H4.next + 2 := by rw [← hH6, next_push, hn5]
        have h6 : ∀ k, k < H5.next → H6.get k = H5.get k := fun k hk => by rw [← hH6]; exact get_push_old hk
        have hb6 : H6.get H5.next = some (.row (unC u) 51 true false 0) := by rw [← hH6, hu]; exact get_push_self _
        have hrow6 : H6.get b = some (.row (((unitsF s S).take (i + 1)).map unC).flatten 51 ex false 0) := by rw [h6 b (by omega), hE5.2 b hb]; exact hrow
        obtain ⟨H7, ha, hn7, hrow7, h7⟩ := su_app (c' := some 1) (by omega) (by rw [htl]; exact hcap) hrow6 hb6 (by rw [htl]; omega)
        rw [htl, ← htk] at *
        have hM7 : Mp SV.str ntC H7 (H2.next + 1) (cntG T) := hM5.ext (by rw [h7 (H2.next + 1) (by omega) hbm, h6 (H2.next + 1) (by omega)])
        have hlk7 : lkuS false [(0, 2)] (.int .i64 ((0 : Nat) : Int)) false (entS H7 (.map (H2.next + 1))) (.str x.title) = some (.int .i64 (cnt : Int)) := by
          have h := hM7.lku str_key (.int .i64 0) x.title
          rw [cnt_val, hcnt] at h
          exact h
        have hp7 : H7.get H4.next = some (.row [.int .i64 (x.level : Int), .str x.title, .int .i64 (x.frm : Int), .int .i64 (x.body : Int), .int .i64 (x.to : Int)] 110 true false 0) := by rw [h7 _ (by omega) (by omega), h6 _ (by omega)]; exact hp
        obtain ⟨o, hmu, hM8⟩ := hM7.mup str_key x.title (cnt + 1)
        have hmu' : mupS false [(0, 2)] H7 (.map (H2.next + 1)) (.str x.title) (.int .i64 ((cnt + 1 : Nat) : Int)) = some (.undef, H7.put (H2.next + 1) o) := hmu
        have hc1 : ((cnt + 1 : Nat) : Int) = (cnt : Int) + ((1 : Nat) : Int) := by omega
        have hmu'' := hmu'
        rw [hc1] at hmu''
        have hg8 : cntG (T ++ [x.title]) = fun k' => if k' = x.title then some (cnt + 1) else cntG T k' := by rw [cntG_snoc, hcnt]
        rw [← hg8, ← hTs] at hM8
        have htoN : x.frm ≤ to := hto1.1
        have htoL : to ≤ s.length := hto1.2
        by_cases hj : i + 1 < S.length
        case' pos =>
          obtain ⟨y, hy⟩ : ∃ y, S[i + 1]? = some y := ⟨_, List.getElem?_eq_getElem hj⟩
          have hyt : y.frm = to := by rw [← hto, hy]
          have ry := hcell (i + 1) 2 y (.int .i64 (to : Int)) hy (by rw [← hyt]; rfl) (by omega)
          have dj : decide ((i : Int) + ((1 : Nat) : Int) < (S.length : Int)) = true := by simp only [decide_eq_true_eq]; omega
          refine stp (And.intro @hrS4 (And.intro @hq (And.intro @hH5 @dj))) ?_
          refine cstT @dj ?_
          have hk1 : ((i : Int) + ((1 : Nat) : Int)).toNat = i + 1 := by omega
          refine stp (And.intro @hrS5 (And.intro @ry @hk1)) ?_
        case' neg =>
          have hyt : s.length = to := by rw [← hto, List.getElem?_eq_none (by omega)]
          have hlt : (s.length : Int) = (to : Int) := by omega
          have dj : decide ((i : Int) + ((1 : Nat) : Int) < (S.length : Int)) = false := by simp only [decide_eq_false_iff_not]; omega
          refine stp (And.intro @hrS4 (And.intro @hq (And.intro @hH5 (And.intro @dj @hlt)))) ?_
          refine cstE @dj ?_
          refine stp trivial ?_
        all_goals
          refine EC_draw rfl ?_
          refine stp (And.intro @hp (And.intro @hlk' (And.intro @htx @hH6))) ?_
          refine ED_eff (by simp only [go_sem]; exact ha) (by simp only [List.set_cons_zero, List.set_cons_succ]; with_reducible rfl) ?_
          refine stp trivial ?_
          refine ⟨?_, fun h => (by cases h), _, (by simp only [List.getLast?_cons_cons, List.getLast?_singleton]; first | done | with_reducible rfl), ?_⟩
          · repeat (first | exact readsD_nil _ _ _ | refine readsD_pure ?_ | refine readsD_eff ?_ | refine readsD_read (by simp only [allFrom, Bool.and_eq_true, and_true]; exact quiet_ok (H' := H5) (by exact sfc (And.intro @hp @hlk')) (by simp only [go_sem])) ?_)
          · refine stp (And.intro @hp7 (And.intro @hlk7 @hmu'')) ?_
            refine loopR_normal (S.length - (i + 1)) (by omega) ⟨rfl, ?_, i + 1, H6.next, none, false, rfl, by omega, by have := hE.1; omega, by rw [next_put]; omega, hmb0, by rw [next_put]; omega, .inl rfl, ?_, ?_, ?_⟩
            · refine ⟨by rw [next_put]; have := hE.1; omega, fun k hk => ?_⟩
              have := hE.1
              rw [get_put_other (by omega), h7 k (by omega) (by omega), h6 k (by omega), hE5.2 k (by omega), hE.2 k hk]
            · rw [get_put_other (by omega)]
              exact hrow7
            · exact hM8
            · exact (frame_in (by rfl) (trivial))
      · refine stp trivial ?_
        have hie : i = S.length := by omega
        subst hie
        have htl : (unitsF s S).take (S.length + 1) = unitsF s S := List.take_of_length_le (by omega)
        rw [htl] at hrow
        refine ret2 trivial ?_
        exact ⟨_, rfl, (hE1.trans hE2).trans hE, by simp [unitsF], b, c, ex, by have := hE1.1; have := hE2.1; omega, hb, by rw [hUl], by rw [hUl]; exact hcap, hrow⟩
    · have hn3 : H3.next = H2.next + 2 := by rw [← hH3]; rfl
      have hE3 : Ext H2 H3 := by rw [← hH3]; exact ((Ext.refl _).push _).push _
      have hM0 : Mp SV.str ntC H3 (H2.next + 1) (cntG ((S.take 0).map Sec.title)) := by
        rw [List.take_zero, List.map_nil, cntG_nil, ← hH3]
        exact Mp.new (H2.push _)
      have hr0 : H3.get H2.next = some (.row (((unitsF s S).take (0 + 1)).map unC).flatten 51 true false 0) := by
        rw [← hH3, get_push_old (by rw [next_push]; omega), get_push_self, unitsF, hld]
        rfl
      refine ⟨rfl, hE3, 0, H2.next, some 1, true, by omega, by omega, Nat.le_refl _, by omega, by omega, by omega, .inr rfl, hr0, hM0, ?_⟩
      exact (frame_in (by rfl) (trivial))
  obtain ⟨r, H', h, v, rfl, hr⟩ := key
  exact ⟨v, H', h, hr⟩
end
end Go.Sh
end
