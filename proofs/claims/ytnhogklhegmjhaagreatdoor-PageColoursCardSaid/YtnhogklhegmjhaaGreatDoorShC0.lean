/-
  Rules for reckoning: slices, closures, maps, regions that hoist.
-/
import Derived.Test.YtnhogklhegmjhaaGreatDoorShB5
import Derived.Test.YtnhogklhegmjhaaGreatDoorShB3
set_option linter.all false
section
namespace Go.Sh
set_option maxRecDepth 10000
set_option linter.all false
def Ext (H H' : Heap) : Prop := H.next ≤ H'.next ∧ ∀ b, b < H.next → H'.get b = H.get b
theorem Ext.refl (H : Heap) : Ext H H := ⟨Nat.le_refl _, fun _ _ => rfl⟩
theorem Ext.trans {H1 H2 H3 : Heap} (h : Ext H1 H2) (k : Ext H2 H3) : Ext H1 H3 := ⟨Nat.le_trans h.1 k.1, fun b hb => (k.2 b (Nat.lt_of_lt_of_le hb h.1)).trans (h.2 b hb)⟩
theorem Ext.push {H1 H2 : Heap} (h : Ext H1 H2) (o : SObj) : Ext H1 (H2.push o) := ⟨by rw [next_push]; have := h.1; omega, fun b hb => by rw [get_push_old (by have := h.1; omega)]; exact h.2 b hb⟩
theorem Ext.put {H1 H2 : Heap} (h : Ext H1 H2) {b : Nat} (hb : H1.next ≤ b) (o : SObj) : Ext H1 (H2.put b o) := ⟨h.1, fun c hc => by rw [get_put_other (by omega)]; exact h.2 c hc⟩
section
variable {ts : T} {H : Heap}
def iaaS (n z : Nat) (v i : SV) : Option SV := match v, i with
  | .ptr b o, .int _ (.ofNat k) => match Nat.blt k n with
    | true => some (.ptr b (o + k * z))
    | false => none
  | _, _ => none
theorem op_iaa (n z : Nat) (x i : X) : evalOp (.iaa n z x i) ts H = okS (iaaS n z (x.ev ts) (i.ev ts)) H := by
  simp only [evalOp]
  generalize x.ev ts = v
  generalize i.ev ts = u
  cases v with
  | ptr b o =>
    cases u with
    | int k m =>
      cases m with
      | ofNat m => simp only [iaaS]; generalize Nat.blt m n = p; cases p <;> rfl
      | negSucc m => rfl
    | _ => rfl
  | _ => rfl
theorem iaa_ptr {n z b o : Nat} {kk : IntKind} {i : Int} (hi : 0 ≤ i) (h : i < n) : iaaS n z (.ptr b o) (.int kk i) = some (.ptr b (o + i.toNat * z)) := by
  obtain ⟨k, rfl, hk⟩ := toNat_of hi
  rw [hk]
  show (match Nat.blt k n with | true => some (SV.ptr b (o + k * z)) | false => none) = _
  rw [blt_true (by omega)]
def slsS (lo hi : Option Nat) (v : SV) : Option SV := match v, lo, hi with
  | .str s, some l, some h => some (.str ((s.drop l).take (h - l)))
  | _, _, _ => none
def loS (ts : T) (lo : Option X) (h : Option Nat) : Option Nat := match h with
  | some h => idxOpt ts lo 0 h
  | none => none
def hiS (ts : T) (hi : Option X) (v : SV) : Option Nat := match v with
  | .str s => idxOpt ts hi s.length s.length
  | _ => none
theorem op_sls (lo hi : Option X) (x : X) : evalOp (.sls lo hi x) ts H = okS (slsS (loS ts lo (hiS ts hi (x.ev ts))) (hiS ts hi (x.ev ts)) (x.ev ts)) H := by
  simp only [evalOp, hiS, loS, slsS]
  generalize x.ev ts = v
  cases v with
  | str s =>
    dsimp only
    cases idxOpt ts hi s.length s.length with
    | none => rfl
    | some h => dsimp only; cases idxOpt ts lo 0 h <;> rfl
  | _ => rfl
theorem hi_none (s : List Nat) : hiS ts none (.str s) = some s.length := rfl
theorem hi_some (s : List Nat) (x : X) : hiS ts (some x) (.str s) = idx (x.ev ts) s.length := rfl
theorem lo_none (h : Nat) : loS ts none (some h) = some 0 := rfl
theorem lo_some (h : Nat) (x : X) : loS ts (some x) (some h) = idx (x.ev ts) h := rfl
theorem idx_int {k : IntKind} {n : Int} {lim : Nat} (hn : 0 ≤ n) (h : n ≤ lim) : idx (.int k n) lim = some n.toNat := by
  obtain ⟨m, rfl, hm⟩ := toNat_of hn
  rw [hm]
  show (match Nat.ble m lim with | true => some m | false => none) = _
  rw [ble_true (by omega)]
theorem sls_str (s : List Nat) (l h : Nat) : slsS (some l) (some h) (.str s) = some (.str ((s.drop l).take (h - l))) := rfl
def xibS (x c : SV) : Option SV := match x, c with
  | .str l, .int .u8 n => some (.int .i64 (ixb l (n.toNat % 256) 0))
  | _, _ => none
theorem op_xib (x c : X) : evalOp (.xib x c) ts H = okS (xibS (x.ev ts) (c.ev ts)) H := by
  simp only [evalOp]
  generalize x.ev ts = v
  generalize c.ev ts = u
  cases v with
  | str l => cases u with
    | int k n => cases k <;> rfl
    | _ => rfl
  | _ => rfl
theorem xib_str (l : List Nat) (n : Int) : xibS (.str l) (.int .u8 n) = some (.int .i64 (ixb l (n.toNat % 256) 0)) := rfl
theorem rowL_one {cs : List SV} {e : TypeId} {ex ro : Bool} {frz p : Nat} {v : SV} (h : cs[p]? = some v) : rowL (some (.row cs e ex ro frz)) p 1 = some [v] := by
  have hlt : p < cs.length := (List.getElem?_eq_some_iff.1 h).1
  rw [rowL_row (by omega)]
  have := (List.getElem?_eq_some_iff.1 h).2
  rw [List.drop_eq_getElem_cons hlt, this]
  rfl
theorem resOne_cell (t : Nat) (agg : Bool) (n : Nat) : resOne ts H (.cell t agg n) = loadS agg n (ts.getD t SV.undef) H := by
  simp only [resOne, loadS, outS]
  generalize ts.getD t SV.undef = v
  cases v with
  | ptr b o =>
    dsimp only
    cases loadC H b o n with
    | none => rfl
    | some cs =>
      cases agg
      · match cs with
        | [] => rfl
        | [v] => rfl
        | _ :: _ :: _ => rfl
      · rfl
  | _ => rfl
end
attribute [go_sem] resOne_cell op_iaa iaa_ptr op_sls hi_none hi_some lo_none lo_some idx_int sls_str op_xib xib_str
def AllL (z : Nat) (L : List (List SV)) : Prop := ∀ x ∈ L, x.length = z
theorem flatten_len {z : Nat} : ∀ {L : List (List SV)}, AllL z L → L.flatten.length = L.length * z
  | [], _ => by simp
  | x :: L, h => by
    rw [List.flatten_cons, List.length_append, flatten_len (fun y hy => h y (List.mem_cons_of_mem _ hy)), h x (List.mem_cons_self ..), List.length_cons, Nat.add_mul, Nat.one_mul, Nat.add_comm]
theorem flatten_at {z : Nat} : ∀ {L : List (List SV)} {i : Nat} {x : List SV}, AllL z L → L[i]? = some x → (L.flatten.drop (i * z)).take z = x
  | y :: L, 0, x, h, e => by
    simp at e
    subst e
    have := h y (List.mem_cons_self ..)
    simp [← this]
  | y :: L, i + 1, x, h, e => by
    have hy := h y (List.mem_cons_self ..)
    rw [List.flatten_cons, Nat.add_mul, Nat.one_mul, Nat.add_comm, ← hy, List.drop_append, List.drop_of_length_le (by omega), Nat.add_sub_cancel_left, List.nil_append, hy]
    exact flatten_at (fun w hw => h w (List.mem_cons_of_mem _ hw)) (by simpa using e)
theorem rowL_at {z i : Nat} {L : List (List SV)} {x : List SV} {e : TypeId} {ex ro : Bool} {frz : Nat} (h : AllL z L) (hi : L[i]? = some x) : rowL (some (.row L.flatten e ex ro frz)) (i * z) z = some x := by
  have hlt : i < L.length := (List.getElem?_eq_some_iff.1 hi).1
  rw [rowL_row, flatten_at h hi]
  rw [flatten_len h]
  have : (i + 1) * z ≤ L.length * z := Nat.mul_le_mul_right z hlt
  rw [Nat.add_mul, Nat.one_mul] at this
  exact this
def Sl (B0 : Nat) (e z : Nat) (H : Heap) (v : SV) (L : List (List SV)) : Prop :=
  (L = [] ∧ v = .nils) ∨ (L ≠ [] ∧ ∃ b, B0 ≤ b ∧ b < H.next ∧ v = .slice b 0 L.length none z ∧ H.get b = some (.row L.flatten e false false 0))
theorem srcS_one {H : Heap} {b z : Nat} {x : List SV} {e : TypeId} {ex ro : Bool} {frz : Nat} {c : Option Nat} (hx : x.length = z) (hb : H.get b = some (.row x e ex ro frz)) : srcS H false z (.slice b 0 1 c z) = some (1, x) := by
  show (match Nat.beq z z with | true => (match loadC H b 0 (1 * z) with | some cs => some (1, cs) | none => none) | false => none) = _
  rw [beq_self, loadC_eq, hb, rowL_row (by omega)]
  simp [← hx]
theorem app_one {H : Heap} {B0 e z bytes : Nat} {v : SV} {L : List (List SV)} {x : List SV} {b' : Nat} {e' : TypeId} {ex ro : Bool} {frz : Nat} {c : Option Nat}
    (hS : Sl B0 e z H v L) (hL : AllL z L) (hx : x.length = z) (hone : x.all SV.one = true) (hb' : H.get b' = some (.row x e' ex ro frz)) (hB : B0 ≤ H.next)
    (h1 : (L.length + 1) * bytes ≤ 35184372088832) (h2 : L.length + 1 ≤ 35184372088832) :
    ∃ v' H', appS H false e z bytes v (.slice b' 0 1 c z) = some (v', H') ∧ Sl B0 e z H' v' (L ++ [x]) ∧ H'.next = H.next + 1 ∧ (∀ k, k < B0 → H'.get k = H.get k) := by
  have hsrc := srcS_one (c := c) hx hb'
  rcases hS with ⟨rfl, rfl⟩ | ⟨hne, b, hb0, hbn, rfl, hrow⟩
  · refine ⟨.slice H.next 0 1 none z, H.push (.row x e false false 0), ?_, ?_, rfl, fun k hk => get_push_old (by omega)⟩
    · simp only [appS, hsrc, roomS]
      rw [ble_true (by simpa using h1), ble_true (by omega)]
      rfl
    · exact .inr ⟨by simp, H.next, hB, Nat.lt_succ_self _, rfl, by rw [get_push_self]; simp⟩
  · have hlen := flatten_len hL
    have hload : loadC H b 0 (L.length * z) = some L.flatten := by
      rw [loadC_eq, hrow, rowL_row (by omega), List.drop_zero, ← hlen, List.take_length]
    refine ⟨.slice H.next 0 (L.length + 1) none z, (H.put b .dead).push (.row (L.flatten ++ x) e false false 0), ?_, ?_, rfl, fun k hk => ?_⟩
    · simp only [appS, hsrc, roomS, beq_self, ble_true h1, ble_true h2, hload, hrow, hone, Bool.and_self]
      rw [ble_true (Nat.zero_le _)]
      rfl
    · refine .inr ⟨by simp, H.next, hB, Nat.lt_succ_self _, by simp, ?_⟩
      have : (H.put b .dead).next = H.next := rfl
      rw [← this, get_push_self]
      simp
    · rw [get_push_old (by rw [next_put]; omega), get_put_other (by omega)]
def appV (H : Heap) (str : Bool) (elem : TypeId) (z bytes : Nat) (s x : SV) : Option (SV × Heap) := appS H str elem z bytes s x
theorem op_app {ts : T} {H : Heap} (str : Bool) (elem : TypeId) (z bytes : Nat) (s x : X) : evalOp (.app str elem z bytes s x) ts H = appV H str elem z bytes (s.ev ts) (x.ev ts) := rfl
theorem Sl.lenl {B0 e z : Nat} {H : Heap} {v : SV} {L : List (List SV)} (h : Sl B0 e z H v L) : lenlS v = some (.int .i64 (L.length : Int)) := by
  rcases h with ⟨rfl, rfl⟩ | ⟨_, b, _, _, rfl, _⟩ <;> rfl
theorem Sl.keep {B0 e z : Nat} {H H' : Heap} {v : SV} {L : List (List SV)} (h : Sl B0 e z H v L) (hE : Ext H H') : Sl B0 e z H' v L := by
  rcases h with h | ⟨hne, b, h1, h2, h3, h4⟩
  · exact .inl h
  · exact .inr ⟨hne, b, h1, Nat.lt_of_lt_of_le h2 hE.1, h3, by rw [hE.2 b h2]; exact h4⟩
attribute [go_sem] op_app
section
variable {ts : T} {H : Heap}
def slvS (z : Nat) (lo hi : Option SV) (v : SV) : Option SV := match v with
  | .nils => match (match hi with | none => some 0 | some x => idx x 0), (match lo with | none => some 0 | some x => idx x 0) with
    | some _, some _ => some .nils
    | _, _ => none
  | .slice b o n cap z' => match Nat.beq z z' with
    | false => none
    | true => match (match hi with | none => some n | some x => idx x (limS cap n)) with
      | some h => match (match lo with | none => some 0 | some x => idx x h) with
        | some l => some (resl b o z l h cap)
        | none => none
      | none => none
  | _ => none
theorem op_slv (z : Nat) (lo hi : Option X) (x : X) : evalOp (.slv z lo hi none x) ts H = okS (slvS z (lo.map (X.ev ts)) (hi.map (X.ev ts)) (x.ev ts)) H := by
  simp only [evalOp]
  cases x.ev ts with
  | nils => cases lo <;> cases hi <;> simp only [idxOpt, slvS, Option.map] <;> (repeat' split) <;> simp_all [okS]
  | slice b o n cap z' =>
    simp only [slvS, mxS]
    cases Nat.beq z z' with
    | false => rfl
    | true =>
      cases hi with
      | none =>
        cases lo with
        | none => rfl
        | some l =>
          simp only [idxOpt, Option.map]
          cases idx (l.ev ts) n <;> rfl
      | some h =>
        simp only [idxOpt, Option.map]
        cases idx (h.ev ts) (limS cap n) with
        | none => rfl
        | some h' =>
          cases lo with
          | none => rfl
          | some l =>
            dsimp only
            cases idx (l.ev ts) h' <;> rfl
  | _ => rfl
theorem slv_hi {z b o n : Nat} {cap : Option Nat} {k : IntKind} {h : Int} (h0 : 0 ≤ h) (hh : h ≤ (limS cap n : Nat)) : slvS z none (some (.int k h)) (.slice b o n cap z) = some (resl b o z 0 h.toNat cap) := by
  simp only [slvS, Nat.beq_refl, idx_int h0 hh]
theorem slv_lo {z b o n : Nat} {cap : Option Nat} {k : IntKind} {l : Int} (h0 : 0 ≤ l) (hh : l ≤ (n : Nat)) : slvS z (some (.int k l)) none (.slice b o n cap z) = some (resl b o z l.toNat n cap) := by
  simp only [slvS, Nat.beq_refl, idx_int h0 hh]
end
section
variable {ts : T} {H : Heap}
def lkuS (agg : Bool) (L : List (Nat × Nat)) (zero : SV) (ok : Bool) (es : Option (List (SV × SV × Nat))) (k : SV) : Option SV := match es, eqVal agg L k k with
  | some es, some _ => match findS agg L k es 0 with
    | none => none
    | some none => some (if ok then .tup [zero, .bool false] else zero)
    | some (some (_, v)) => some (if ok then .tup [v, .bool true] else v)
  | _, _ => none
theorem op_lku (agg : Bool) (L : List (Nat × Nat)) (zero : SV) (ok : Bool) (m k : X) : evalOp (.lku agg L zero ok m k) ts H = okS (lkuS agg L zero ok (entS H (m.ev ts)) (k.ev ts)) H := by
  simp only [evalOp, lkuS]
  cases entS H (m.ev ts) with
  | none => rfl
  | some es =>
    cases eqVal agg L (k.ev ts) (k.ev ts) with
    | none => rfl
    | some b =>
      dsimp only
      cases findS agg L (k.ev ts) es 0 with
      | none => rfl
      | some r => cases r <;> rfl
def mupS (agg : Bool) (L : List (Nat × Nat)) (H : Heap) (m k v : SV) : Option (SV × Heap) := match m with
  | .map b => match H.get b, eqVal agg L k k with
    | some (.map es clock), some _ => match findS agg L k es 0 with
      | none => none
      | some (some (i, _)) => match es[i]? with
        | some (k', _, _) => match sameAll k' k with
          | true => some (.undef, H.put b (.map (mapSet k v i es) clock))
          | false => none
        | none => none
      | some none => some (.undef, H.put b (.map (es ++ [(k, v, clock)]) (clock + 1)))
    | _, _ => none
  | _ => none
theorem op_mup (agg : Bool) (L : List (Nat × Nat)) (m k v : X) : evalOp (.mup agg L m k v) ts H = mupS agg L H (m.ev ts) (k.ev ts) (v.ev ts) := by
  simp only [evalOp, mupS]
  cases m.ev ts <;> rfl
theorem op_mkm : evalOp .mkm ts H = some (.map H.next, H.push (.map [] 0)) := rfl
end
attribute [go_sem] op_lku op_mup op_mkm
theorem bq_unit (t x : List Nat) (k : Int) : beqS (.agg [.str t, .int .i64 k, .str x]) (.agg [.str t, .int .i64 k, .str x]) = true := by simp [beqS, beqOne, beqList, eqS_dec]
theorem bq_name (t : List Nat) (k : Int) : beqS (.agg [.str t, .int .i64 k]) (.agg [.str t, .int .i64 k]) = true := by simp [beqS, beqOne, beqList, eqS_dec]
attribute [go_sem] bq_unit bq_name
theorem ED_call {call : CallS} {ts ts' : T} {H H' : Heap} {v : SV} {d : Nat} {f : FuncId} {xs : List X} {args : List SV} {dops : List (SOper × DK)} {Q : List T → List SV → List Heap → T → Prop} (ha : evs ts xs = args) (he : call f args H = some (v, H')) (hs : ts.set d v = ts') (h : ED call dops ts' H' fun tss vs hs tn => Q (ts :: tss) (v :: vs) (H :: hs) tn) :
    ED call ((⟨some d, .call f xs, none⟩, .eff) :: dops) ts H Q := by
  unfold ED at h ⊢
  obtain ⟨tss, vs, hs', tn, h1, h2⟩ := h
  subst hs ha
  exact ⟨ts :: tss, v :: vs, H :: hs', tn, by simp only [List.map_cons, textD, wantedS, evalK, he, putT, h1], h2⟩
/-! ### Calls of function values -/
theorem EO_calld {call : CallS} {ts ts' : T} {H H' : Heap} {v : SV} {d : Nat} {f : FuncId} {x : X} {xs : List X} {fs cs args : List SV} {os : List SOper} {Q : T → Heap → Prop} (hx : x.ev ts = .func f fs cs) (ha : fs ++ (evs ts xs ++ cs) = args) (he : call f args H = some (v, H')) (hs : ts.set d v = ts') (h : EO call os ts' H' Q) :
    EO call (⟨some d, .calld x xs, none⟩ :: os) ts H Q := by
  unfold EO at h ⊢
  obtain ⟨t2, H2, h1, h2⟩ := h
  subst hs ha
  refine ⟨t2, H2, ?_, h2⟩
  simp only [evalOps, wantedS, evalK, hx, he, putT, h1]
theorem ED_calld {call : CallS} {ts ts' : T} {H H' : Heap} {v : SV} {d : Nat} {f : FuncId} {x : X} {xs : List X} {fs cs args : List SV} {dops : List (SOper × DK)} {Q : List T → List SV → List Heap → T → Prop} (hx : x.ev ts = .func f fs cs) (ha : fs ++ (evs ts xs ++ cs) = args) (he : call f args H = some (v, H')) (hs : ts.set d v = ts') (h : ED call dops ts' H' fun tss vs hs tn => Q (ts :: tss) (v :: vs) (H :: hs) tn) :
    ED call ((⟨some d, .calld x xs, none⟩, .eff) :: dops) ts H Q := by
  unfold ED at h ⊢
  obtain ⟨tss, vs, hs', tn, h1, h2⟩ := h
  subst hs ha
  exact ⟨ts :: tss, v :: vs, H :: hs', tn, by simp only [List.map_cons, textD, wantedS, evalK, hx, he, putT, h1], h2⟩
theorem op_mkf {ts : T} {H : Heap} (f : FuncId) (xs ys : List X) : evalOp (.mkf f xs ys) ts H = some (.func f (evs ts xs) (evs ts ys), H) := rfl
attribute [go_sem] op_mkf
/-! ### Regions with hoisted blocks -/
def unh : List (SOper × DK) → List SV → List (SOper × DK)
  | (o, .hoist _ _) :: os, hv :: hvs => (⟨o.dst, .op (.mv (.c hv)), o.guard⟩, .pure) :: unh os hvs
  | p :: os, _ :: hvs => p :: unh os hvs
  | l, _ => l
theorem textD_unh {call : CallS} : ∀ {dops : List (SOper × DK)} {hvs : List SV} {ts : T} {H : Heap}, hvs.length = dops.length → textD call dops hvs ts H = textD call (unh dops hvs) ((unh dops hvs).map fun _ => SV.undef) ts H
  | [], hvs, ts, H, h => by
    cases hvs with
    | nil => rfl
    | cons _ _ => cases h
  | (o, dk) :: os, [], ts, H, h => by cases h
  | (o, dk) :: os, hv :: hvs, ts, H, h => by
    have ih := fun ts H => textD_unh (call := call) (dops := os) (hvs := hvs) (ts := ts) (H := H) (by simpa using h)
    cases dk with
    | hoist lo hi =>
      simp only [unh, List.map_cons, textD, quietOp, evalOp, ih]
      rfl
    | _ => simp only [unh, List.map_cons, textD, ih]
def HD (dops : List (SOper × DK)) (ts : T) (H : Heap) (Q : List SV → Heap → Prop) : Prop := ∃ hvs H0, hoistD dops ts H = some (hvs, H0) ∧ hvs.length = dops.length ∧ Q hvs H0
section
variable {call : CallS} {lf : Nat} {os : List (SOper × DK)} {o : SOper} {dk : DK} {ts ts' : T} {H H' : Heap} {v : SV} {Q : List SV → Heap → Prop} {D : DS} {R : SExit → T → DS → Heap → Prop} {swap : Bool}
theorem HD_skip (hk : ∀ lo hi, dk ≠ .hoist lo hi) (h : HD os (foreT o dk ts H) H fun vs H' => Q (SV.undef :: vs) H') : HD ((o, dk) :: os) ts H Q := by
  obtain ⟨hvs, H0, h1, h2, h3⟩ := h
  refine ⟨SV.undef :: hvs, H0, ?_, by simp [h2], h3⟩
  cases dk with
  | hoist lo hi => exact absurd rfl (hk lo hi)
  | _ => simp only [hoistD, h1]
theorem HD_hoist {s : SOp} {lo hi d : Nat} (he : evalOp s ts H = some (v, H')) (h : HD os (ts.set d v) H' fun vs H'' => Q (v :: vs) H'') : HD ((⟨some d, .op s, none⟩, .hoist lo hi) :: os) ts H Q := by
  obtain ⟨hvs, H0, h1, h2, h3⟩ := h
  refine ⟨v :: hvs, H0, ?_, by simp [h2], h3⟩
  simp only [hoistD, he, putT, h1]
theorem HD_none (hn : (os.all fun p => match p.2 with | .hoist _ _ => false | _ => true) = true) (h : Q (os.map fun _ => SV.undef) H) : HD os ts H Q := by
  rw [List.all_eq_true] at hn
  refine ⟨_, _, hoistD_none fun p hp lo hi he => ?_, by simp, h⟩
  have := hn p hp
  rw [he] at this
  cases this
theorem EC_drawH {dops : List (SOper × DK)} (h : HD dops ts H fun hvs H0 => ED call (unh dops hvs) ts H0 fun tss vs hs tn => readsD hs dops tss vs = true ∧ (swap = true → swapD dops tss = true) ∧ ∃ Hn, hs.getLast? = some Hn ∧ R .normal tn D Hn) : EC call lf (.dreg dops swap) ts D H R := by
  obtain ⟨hvs, H0, h1, h2, h⟩ := h
  unfold ED at h
  obtain ⟨tss, vs, hs, tn, h3, h4, h5, Hn, h6, h7⟩ := h
  unfold EC
  refine ⟨.normal, tn, D, Hn, ?_, h7⟩
  have h8 : (readsD hs dops tss vs && (!swap || swapD dops tss)) = true := by
    rw [h4]
    cases swap with
    | false => rfl
    | true => rw [h5 rfl]; rfl
  simp only [evalC, evalD, h1, textD_unh h2, h3, h8, h6]
theorem foreT_get {k : Nat} (hk : o.dst ≠ some k) : (foreT o dk ts H).getD k SV.undef = ts.getD k SV.undef := by
  have hp : ∀ v, (putT ts o.dst v).getD k SV.undef = ts.getD k SV.undef := fun v => by
    unfold putT
    cases hd : o.dst with
    | none => rfl
    | some d =>
      rw [hd] at hk
      have : d ≠ k := fun e => hk (by rw [e])
      simp only [List.getD_eq_getElem?_getD, List.getElem?_set_ne this]
  cases dk <;> simp only [foreT] <;> (repeat' split) <;> first | rfl | exact hp _
theorem foreT_val {s : SOp} {d lo hi : Nat} (he : evalOp s ts H = some (v, H')) : foreT ⟨some d, .op s, none⟩ (.read lo hi) ts H = ts.set d v := by
  simp only [foreT, wantedS, quietOp, he, putT]
theorem foreT_len : (foreT o dk ts H).length = ts.length := by
  have hp : ∀ v, (putT ts o.dst v).length = ts.length := fun v => by
    unfold putT
    cases o.dst <;> simp
  cases dk <;> simp only [foreT] <;> (repeat' split) <;> first | rfl | exact hp _
theorem rowIs_ok {cs : List SV} {e b : Nat} (h : H.get b = some (.row cs e true false 0)) (hf : cs.all (SV.under b) = true) (hb : beqList cs cs = true) : rowIs cs e b H = true := by
  simp only [rowIs, h, hf, hb, beq_self, Bool.and_self]
theorem readsD_hoistB {hs : List Heap} {d lo hi elem z n n' b z' : Nat} {zero cs : List SV} {parts : List (Nat × Nat × X)} {tss : List T} {vs : List SV} {c : Option Nat} (hf : fillS ts zero parts = some cs) (hr : allFrom (rowIs cs elem b) hs lo hi = true) (h : readsD hs os tss vs = true) :
    readsD hs ((⟨some d, .op (.bslice elem z n zero parts), none⟩, .hoist lo hi) :: os) (ts :: tss) (.slice b 0 n' c z' :: vs) = true := by
  simp only [readsD, wantedS, hf, hr, h, Bool.and_self]
theorem readsD_hoistA {hs : List Heap} {d lo hi elem b : Nat} {zero : List SV} {tss : List T} {vs : List SV} (hr : allFrom (rowIs zero elem b) hs lo hi = true) (h : readsD hs os tss vs = true) :
    readsD hs ((⟨some d, .op (.alloc zero elem), none⟩, .hoist lo hi) :: os) (ts :: tss) (.ptr b 0 :: vs) = true := by
  simp only [readsD, wantedS, hr, h, Bool.and_self]
end
theorem readsD_nil (hs : List Heap) (a : List T) (b : List SV) : readsD hs [] a b = true := rfl
theorem readsD_pure {hs : List Heap} {o : SOper} {os : List (SOper × DK)} {t : T} {tss : List T} {v : SV} {vs : List SV} (h : readsD hs os tss vs = true) : readsD hs ((o, .pure) :: os) (t :: tss) (v :: vs) = true := by
  simp only [readsD, h]
  cases wantedS t o.guard <;> rfl
theorem readsD_eff {hs : List Heap} {o : SOper} {os : List (SOper × DK)} {t : T} {tss : List T} {v : SV} {vs : List SV} (h : readsD hs os tss vs = true) : readsD hs ((o, .eff) :: os) (t :: tss) (v :: vs) = true := by
  simp only [readsD, h]
  cases wantedS t o.guard <;> rfl
theorem readsD_read {hs : List Heap} {d lo hi : Nat} {s : SOp} {os : List (SOper × DK)} {t : T} {tss : List T} {v : SV} {vs : List SV} (hr : allFrom (fun H => match quietOp (.op s) t H with | some u => beqS u v | none => false) hs lo hi = true) (h : readsD hs os tss vs = true) : readsD hs ((⟨some d, .op s, none⟩, .read lo hi) :: os) (t :: tss) (v :: vs) = true := by
  simp only [readsD, wantedS, h, Bool.and_true]
  exact hr
theorem quiet_ok {s : SOp} {t : T} {H H' : Heap} {v : SV} (h : evalOp s t H = some (v, H')) (hb : beqS v v = true) : (match quietOp (.op s) t H with | some u => beqS u v | none => false) = true := by
  simp only [quietOp, h, hb]
theorem readsD_readg {hs : List Heap} {d lo hi : Nat} {s : SOp} {g : Option (Nat × Bool)} {os : List (SOper × DK)} {t : T} {tss : List T} {v : SV} {vs : List SV} (hr : allFrom (fun H => match quietOp (.op s) t H with | some u => beqS u v | none => false) hs lo hi = true) (h : readsD hs os tss vs = true) : readsD hs ((⟨some d, .op s, g⟩, .read lo hi) :: os) (t :: tss) (v :: vs) = true := by
  simp only [readsD, h, Bool.and_true]
  cases wantedS t g with
  | false => rfl
  | true => exact hr
theorem readsD_off {hs : List Heap} {d : Option Nat} {k : SK} {g : Option (Nat × Bool)} {dk : DK} {os : List (SOper × DK)} {t : T} {tss : List T} {v : SV} {vs : List SV} (hw : wantedS t g = false) (h : readsD hs os tss vs = true) : readsD hs ((⟨d, k, g⟩, dk) :: os) (t :: tss) (v :: vs) = true := by
  simp only [readsD, hw, h, Bool.and_self]
theorem HD_val {os : List (SOper × DK)} {s : SOp} {d lo hi : Nat} {ts : T} {H H' : Heap} {v : SV} {Q : List SV → Heap → Prop} (he : evalOp s ts H = some (v, H')) (h : HD os (ts.set d v) H fun vs H' => Q (SV.undef :: vs) H') : HD ((⟨some d, .op s, none⟩, .read lo hi) :: os) ts H Q :=
  HD_skip (fun _ _ h => by cases h) (by rw [foreT_val he]; exact h)
theorem getD_set_self {ts : T} {d : Nat} {v : SV} (h : d < ts.length) : (ts.set d v).getD d SV.undef = v := by
  simp [List.getD_eq_getElem?_getD, h]
theorem HD_mv {os : List (SOper × DK)} {d n : Nat} {ts ts' : T} {H : Heap} {v : SV} {Q : List SV → Heap → Prop} (hv : ts.getD n SV.undef = v) (hs : ts.set d v = ts') (h : HD os ts' H fun vs H' => Q (SV.undef :: vs) H') : HD ((oy d n, .pure) :: os) ts H Q :=
  HD_skip (fun _ _ h => by cases h) (by subst hv hs; exact h)
theorem HD_pure {os : List (SOper × DK)} {s : SOp} {d : Nat} {ts ts' : T} {H H' : Heap} {v : SV} {Q : List SV → Heap → Prop} (he : evalOp s ts H = some (v, H')) (hs : ts.set d v = ts') (h : HD os ts' H fun vs H' => Q (SV.undef :: vs) H') : HD ((⟨some d, .op s, none⟩, .pure) :: os) ts H Q :=
  HD_skip (fun _ _ h => by cases h) (by subst hs; simp only [foreT, wantedS, quietOp, he, putT]; exact h)
theorem HD_rd {os : List (SOper × DK)} {s : SOp} {d lo hi : Nat} {ts ts' : T} {H H' : Heap} {v : SV} {Q : List SV → Heap → Prop} (he : evalOp s ts H = some (v, H')) (hs : ts.set d v = ts') (h : HD os ts' H fun vs H' => Q (SV.undef :: vs) H') : HD ((⟨some d, .op s, none⟩, .read lo hi) :: os) ts H Q :=
  HD_val he (by subst hs; exact h)
theorem HD_eff {os : List (SOper × DK)} {o : SOper} {ts : T} {H : Heap} {Q : List SV → Heap → Prop} (h : HD os ts H fun vs H' => Q (SV.undef :: vs) H') : HD ((o, .eff) :: os) ts H Q :=
  HD_skip (fun _ _ h => by cases h) h
theorem HD_ho {os : List (SOper × DK)} {s : SOp} {d lo hi : Nat} {ts ts' : T} {H H' : Heap} {v : SV} {Q : List SV → Heap → Prop} (he : evalOp s ts H = some (v, H')) (hs : ts.set d v = ts') (h : HD os ts' H' fun vs H'' => Q (v :: vs) H'') : HD ((⟨some d, .op s, none⟩, .hoist lo hi) :: os) ts H Q :=
  HD_hoist he (by subst hs; exact h)
theorem quiet_here {s : SOp} {t : T} {H : Heap} {v : SV} (h : evalOp s t H = some (v, H)) (hb : beqS v v = true) : (match quietOp (.op s) t H with | some u => beqS u v | none => false) = true := quiet_ok h hb
theorem hdp {f p q : Prop} (hf : f) (k : q) (h : f → q → p := by
  intro fs k
  repeat (first
    | refine HD_none rfl ?_
    | refine HD_mv (by (simp (disch := (first | omega | (simp only [List.length_cons, List.length_nil, List.length_append, List.length_take, List.length_drop, List.length_replicate, next_push, next_put, List.all_cons, List.all_nil, SV.one, Bool.and_self, fs]; done) | (simp only [List.length_cons, List.length_nil, List.length_append, List.length_take, List.length_drop, List.length_replicate, next_push, next_put, List.all_cons, List.all_nil, SV.one, Bool.and_self, fs]; omega) | fail)) only [go_sem, Nat.reduceAdd, Nat.reduceSub, Nat.reduceMul, Nat.zero_add, Nat.add_zero, Nat.mul_one, Nat.one_mul, Int.reduceToNat, Int.reduceAdd, Int.reduceSub, decide_true, decide_false, fs]; first | done | with_reducible rfl)) (by (simp only [List.set_cons_zero, List.set_cons_succ]; with_reducible rfl)) ?_
    | refine HD_pure (by (simp (disch := (first | omega | (simp only [List.length_cons, List.length_nil, List.length_append, List.length_take, List.length_drop, List.length_replicate, next_push, next_put, List.all_cons, List.all_nil, SV.one, Bool.and_self, fs]; done) | (simp only [List.length_cons, List.length_nil, List.length_append, List.length_take, List.length_drop, List.length_replicate, next_push, next_put, List.all_cons, List.all_nil, SV.one, Bool.and_self, fs]; omega) | fail)) only [go_sem, Nat.reduceAdd, Nat.reduceSub, Nat.reduceMul, Nat.zero_add, Nat.add_zero, Nat.mul_one, Nat.one_mul, Int.reduceToNat, Int.reduceAdd, Int.reduceSub, decide_true, decide_false, fs]; first | done | with_reducible rfl)) (by (simp only [List.set_cons_zero, List.set_cons_succ]; with_reducible rfl)) ?_
    | refine HD_ho (by (simp (disch := (first | omega | (simp only [List.length_cons, List.length_nil, List.length_append, List.length_take, List.length_drop, List.length_replicate, next_push, next_put, List.all_cons, List.all_nil, SV.one, Bool.and_self, fs]; done) | (simp only [List.length_cons, List.length_nil, List.length_append, List.length_take, List.length_drop, List.length_replicate, next_push, next_put, List.all_cons, List.all_nil, SV.one, Bool.and_self, fs]; omega) | fail)) only [go_sem, Nat.reduceAdd, Nat.reduceSub, Nat.reduceMul, Nat.zero_add, Nat.add_zero, Nat.mul_one, Nat.one_mul, Int.reduceToNat, Int.reduceAdd, Int.reduceSub, decide_true, decide_false, fs]; first | done | with_reducible rfl)) (by (simp only [List.set_cons_zero, List.set_cons_succ]; with_reducible rfl)) ?_
    | refine HD_rd (by (simp (disch := (first | omega | (simp only [List.length_cons, List.length_nil, List.length_append, List.length_take, List.length_drop, List.length_replicate, next_push, next_put, List.all_cons, List.all_nil, SV.one, Bool.and_self, fs]; done) | (simp only [List.length_cons, List.length_nil, List.length_append, List.length_take, List.length_drop, List.length_replicate, next_push, next_put, List.all_cons, List.all_nil, SV.one, Bool.and_self, fs]; omega) | fail)) only [go_sem, Nat.reduceAdd, Nat.reduceSub, Nat.reduceMul, Nat.zero_add, Nat.add_zero, Nat.mul_one, Nat.one_mul, Int.reduceToNat, Int.reduceAdd, Int.reduceSub, decide_true, decide_false, fs]; first | done | with_reducible rfl)) (by (simp only [List.set_cons_zero, List.set_cons_succ]; with_reducible rfl)) ?_
    | refine HD_eff ?_)
  exact k) : p := h hf k
theorem rdp {f p : Prop} (hf : f) (h : f → p := by
  intro fs
  repeat (first
    | exact readsD_nil _ _ _
    | refine readsD_pure ?_
    | refine readsD_eff ?_
    | refine readsD_off (wanted_out (by (simp (disch := (first | omega | (simp only [List.length_cons, List.length_nil, List.length_append, List.length_take, List.length_drop, List.length_replicate, next_push, next_put, List.all_cons, List.all_nil, SV.one, Bool.and_self, fs]; done) | (simp only [List.length_cons, List.length_nil, List.length_append, List.length_take, List.length_drop, List.length_replicate, next_push, next_put, List.all_cons, List.all_nil, SV.one, Bool.and_self, fs]; omega) | fail)) only [go_sem, Nat.reduceAdd, Nat.reduceSub, Nat.reduceMul, Nat.zero_add, Nat.add_zero, Nat.mul_one, Nat.one_mul, Int.reduceToNat, Int.reduceAdd, Int.reduceSub, decide_true, decide_false, fs]; first | done | with_reducible rfl)) (by rfl)) ?_
    | refine readsD_off (wanted_und (by (simp (disch := (first | omega | (simp only [List.length_cons, List.length_nil, List.length_append, List.length_take, List.length_drop, List.length_replicate, next_push, next_put, List.all_cons, List.all_nil, SV.one, Bool.and_self, fs]; done) | (simp only [List.length_cons, List.length_nil, List.length_append, List.length_take, List.length_drop, List.length_replicate, next_push, next_put, List.all_cons, List.all_nil, SV.one, Bool.and_self, fs]; omega) | fail)) only [go_sem, Nat.reduceAdd, Nat.reduceSub, Nat.reduceMul, Nat.zero_add, Nat.add_zero, Nat.mul_one, Nat.one_mul, Int.reduceToNat, Int.reduceAdd, Int.reduceSub, decide_true, decide_false, fs]; first | done | with_reducible rfl))) ?_
    | (refine readsD_readg ?_ ?_
       · (simp only [allFrom, Bool.and_eq_true, and_true]; repeat' apply And.intro); all_goals exact quiet_here (by (simp (disch := (first | omega | (simp only [List.length_cons, List.length_nil, List.length_append, List.length_take, List.length_drop, List.length_replicate, next_push, next_put, List.all_cons, List.all_nil, SV.one, Bool.and_self, fs]; done) | (simp only [List.length_cons, List.length_nil, List.length_append, List.length_take, List.length_drop, List.length_replicate, next_push, next_put, List.all_cons, List.all_nil, SV.one, Bool.and_self, fs]; omega) | fail)) only [go_sem, Nat.reduceAdd, Nat.reduceSub, Nat.reduceMul, Nat.zero_add, Nat.add_zero, Nat.mul_one, Nat.one_mul, Int.reduceToNat, Int.reduceAdd, Int.reduceSub, decide_true, decide_false, fs]; first | done | with_reducible rfl)) (by first | (simp only [go_sem]; done) | (simp only [go_sem, fs]; done)))
    | (refine readsD_hoistB (by (simp (disch := (first | omega | (simp only [List.length_cons, List.length_nil, List.length_append, List.length_take, List.length_drop, List.length_replicate, next_push, next_put, List.all_cons, List.all_nil, SV.one, Bool.and_self, fs]; done) | (simp only [List.length_cons, List.length_nil, List.length_append, List.length_take, List.length_drop, List.length_replicate, next_push, next_put, List.all_cons, List.all_nil, SV.one, Bool.and_self, fs]; omega) | fail)) only [go_sem, Nat.reduceAdd, Nat.reduceSub, Nat.reduceMul, Nat.zero_add, Nat.add_zero, Nat.mul_one, Nat.one_mul, Int.reduceToNat, Int.reduceAdd, Int.reduceSub, decide_true, decide_false, fs]; first | done | with_reducible rfl)) ?_ ?_
       · (simp only [allFrom, Bool.and_eq_true, and_true]; repeat' apply And.intro); all_goals (first | exact rowIs_ok (by first | assumption | (simp only [go_sem, fs]; done)) (by first | rfl | (simp only [fs]; done) | (simp only [go_sem, fs]; done)) (by first | assumption | rfl | (simp only [go_sem, fs]; done) | simp [beqList, beqOne, eqS_dec])))
    | (refine readsD_hoistA ?_ ?_
       · (simp only [allFrom, Bool.and_eq_true, and_true]; repeat' apply And.intro); all_goals (first | exact rowIs_ok (by first | assumption | (simp only [go_sem, fs]; done)) (by first | rfl | (simp only [fs]; done) | (simp only [go_sem, fs]; done)) (by first | assumption | rfl | (simp only [go_sem, fs]; done) | simp [beqList, beqOne, eqS_dec]))))) : p := h hf
theorem EC_cut {call : CallS} {lf : Nat} {c b : SCode} {ts : T} {H : Heap} {R : SExit → T → DS → Heap → Prop} (P : T → Heap → Prop) (h1 : EC call lf c ts [] H fun x ts' D' H' => x = .normal ∧ D' = [] ∧ P ts' H') (h2 : ∀ ts' H', P ts' H' → EC call lf b ts' [] H' R) :
    EC call lf c ts [] H (seqR call lf b R) := by
  unfold EC at h1 ⊢
  obtain ⟨x, ts', D', H', e, rfl, rfl, hp⟩ := h1
  exact ⟨_, ts', _, H', e, seqR_normal (h2 ts' H' hp)⟩
def gd : List SV → Nat → SV
  | [], _ => .bool false
  | a :: _, 0 => a
  | _ :: l, n + 1 => gd l n
theorem frame_in {ts : T} {f : (Nat → SV) → T} {C : Prop} (h : ts = f (gd ts)) (c : C) : ∃ z, ts = f z ∧ C := ⟨gd ts, h, c⟩
end Go.Sh
end
