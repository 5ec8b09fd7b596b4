/-
  Slices whose blocks are young, appended to. (frame style z)
  The drawn policy. (frame style z)
-/
import Derived.Test.YtnhogklhegmjhaaGreatDoorShC5
set_option linter.all false
section
namespace Go.Sh
set_option maxRecDepth 10000
set_option linter.all false
def Fr2 (k p : Nat) (H H' : Heap) : Prop := H.next ≤ H'.next ∧ ∀ b, b < H.next → b ≠ k → b ≠ p → H'.get b = H.get b
theorem Fr2.refl (k p : Nat) (H : Heap) : Fr2 k p H H := ⟨Nat.le_refl _, fun _ _ _ _ => rfl⟩
theorem Fr2.trans {k p : Nat} {H1 H2 H3 : Heap} (h : Fr2 k p H1 H2) (g : Fr2 k p H2 H3) : Fr2 k p H1 H3 := ⟨Nat.le_trans h.1 g.1, fun b hb h1 h2 => (g.2 b (Nat.lt_of_lt_of_le hb h.1) h1 h2).trans (h.2 b hb h1 h2)⟩
theorem Ext.fr2 {k p : Nat} {H1 H2 : Heap} (h : Ext H1 H2) : Fr2 k p H1 H2 := ⟨h.1, fun b hb _ _ => h.2 b hb⟩
theorem GS.fr2 {M k p : Nat} {H1 H2 : Heap} (h : GS M k H1 H2) : Fr2 k p H1 H2 := ⟨h.1, fun b hb h1 _ => h.2.1 b hb h1⟩
theorem TapeStep.gs' {M k : Nat} {H1 H2 : Heap} (h : TapeStep M H1 H2 k) : GS M k H1 H2 := ⟨Nat.le_of_eq h.1.symm, fun b _ hne => h.2.1 b hne, h.2.2⟩
theorem Fr2.put {k p : Nat} {H1 H2 : Heap} (h : Fr2 k p H1 H2) (o : SObj) : Fr2 k p H1 (H2.put p o) := ⟨h.1, fun b hb h1 h2 => by rw [get_put_other h2]; exact h.2 b hb h1 h2⟩
theorem Fr2.putK {k p : Nat} {H1 H2 : Heap} (h : Fr2 k p H1 H2) (o : SObj) : Fr2 k p H1 (H2.put k o) := ⟨h.1, fun b hb h1 h2 => by rw [get_put_other h1]; exact h.2 b hb h1 h2⟩
theorem Fr2.other {k p q : Nat} {H1 H2 : Heap} (h : Fr2 k q H1 H2) (hq : ∀ b, b < H1.next → b ≠ p → b ≠ q) : Fr2 k p H1 H2 := ⟨h.1, fun b hb h1 h2 => h.2 b hb h1 (hq b hb h2)⟩
theorem Fr2.old {k p b : Nat} {H1 H2 : Heap} (h : Fr2 k p H1 H2) (hb : b < H1.next) (h1 : b ≠ k) (h2 : b ≠ p) {o : SObj} (hg : H1.get b = some o) : H2.get b = some o := (h.2 b hb h1 h2).trans hg
def RB (B : Nat) (H : Heap) (v : SV) (z : Nat) (L : List (List SV)) : Prop :=
  AllL z L ∧ ((L = [] ∧ v = .nils) ∨ ∃ b c e ex ro frz, v = .slice b 0 L.length c z ∧ (∀ k, c = some k → k = L.length) ∧ B ≤ b ∧ b < H.next ∧ H.get b = some (.row L.flatten e ex ro frz))
theorem RB.rsl {B : Nat} {H : Heap} {v : SV} {z : Nat} {L : List (List SV)} (h : RB B H v z L) : RSl H v z L := by
  refine ⟨h.1, ?_⟩
  rcases h.2 with h | ⟨b, c, e, ex, ro, frz, h1, hc, _, h2, h3⟩
  · exact .inl h
  · exact .inr ⟨b, c, e, ex, ro, frz, h1, hc, h2, h3⟩
theorem RB.keep {B : Nat} {H H' : Heap} {v : SV} {z : Nat} {L : List (List SV)} (h : RB B H v z L) {k p : Nat} (hk : k < B) (hp : p < B ∨ H.next ≤ p) (hF : Fr2 k p H H') : RB B H' v z L := by
  refine ⟨h.1, ?_⟩
  rcases h.2 with h | ⟨b, c, e, ex, ro, frz, h1, hc, hB, h2, h3⟩
  · exact .inl h
  · exact .inr ⟨b, c, e, ex, ro, frz, h1, hc, hB, Nat.lt_of_lt_of_le h2 hF.1, (hF.2 b h2 (by omega) (by omega)).trans h3⟩
theorem RB.ext {B : Nat} {H H' : Heap} {v : SV} {z : Nat} {L : List (List SV)} (h : RB B H v z L) (hE : Ext H H') : RB B H' v z L := by
  refine ⟨h.1, ?_⟩
  rcases h.2 with h | ⟨b, c, e, ex, ro, frz, h1, hc, hB, h2, h3⟩
  · exact .inl h
  · exact .inr ⟨b, c, e, ex, ro, frz, h1, hc, hB, Nat.lt_of_lt_of_le h2 hE.1, (hE.2 b h2).trans h3⟩
theorem RB.nil {B : Nat} {H : Heap} {z : Nat} : RB B H .nils z [] := ⟨(fun _ h => by cases h), .inl ⟨rfl, rfl⟩⟩
theorem Sl.rb {B0 B e z : Nat} {H : Heap} {v : SV} {L : List (List SV)} (h : Sl B0 e z H v L) (hB : B ≤ B0) (hL : AllL z L) : RB B H v z L := by
  refine ⟨hL, ?_⟩
  rcases h with h | ⟨hne, b, hb0, hbn, rfl, hb⟩
  · exact .inl h
  · exact .inr ⟨b, none, e, false, false, 0, rfl, (fun k h => (by cases h)), by omega, hbn, hb⟩
theorem RSl.srx {H : Heap} {v : SV} {z : Nat} {L : List (List SV)} (h : RSl H v z L) : Srx H v z L := by
  rcases h.2 with ⟨rfl, rfl⟩ | ⟨b, c, e, ex, ro, frz, rfl, hc, h2, h3⟩
  · exact ⟨h.1, [], rfl, fun h => absurd rfl h⟩
  · have := src_slice (i := 0) (m := L.length) (c := c) h.1 h3 (by omega)
    simpa using this
theorem RSl.under {H : Heap} {v : SV} {z : Nat} {L : List (List SV)} (h : RSl H v z L) {b : Nat} (hb : H.next ≤ b) : SV.under b v = true := by
  rcases h.2 with ⟨rfl, rfl⟩ | ⟨b', c, e, ex, ro, frz, rfl, hc, h2, h3⟩
  · rfl
  · show Nat.blt b' b = true
    exact blt_true (by omega)
theorem app_copy {H : Heap} {v : SV} {z : Nat} {L : List (List SV)} (h : RSl H v z L) (hone : L.flatten.all SV.one = true) (hl : L.length < 1000) (e bytes : Nat) (hb : bytes ≤ 1000) :
    ∃ v1 H1, appV H false e z bytes .nils v = some (v1, H1) ∧ Ext H H1 ∧ Sl H.next e z H1 v1 L := by
  have hm : ([] : List (List SV)).length + L.length ≤ 999 := by simp; omega
  have := app_sl (bytes := bytes) (B0 := H.next) (e := e) (L := []) Sl.nil (fun _ h => by cases h) h.srx hone (Nat.le_refl _) (Nat.le_trans (Nat.mul_le_mul hm hb) (by decide)) (Nat.le_trans hm (by decide))
  obtain ⟨v1, H1, h1, h2, h3, h4⟩ := this
  exact ⟨v1, H1, h1, ⟨h3, h4⟩, by simpa using h2⟩
theorem app_more {H : Heap} {B1 e z b' : Nat} {v : SV} {L : List (List SV)} {x : List SV} {e' : TypeId} {ex ro : Bool} {frz : Nat} (hS : Sl B1 e z H v L) (hL : AllL z L) (hx : x.length = z) (hone : x.all SV.one = true) (hb' : H.get b' = some (.row x e' ex ro frz)) (hB : B1 ≤ H.next) (hl : L.length < 1000) (bytes : Nat) (hb : bytes ≤ 1000) :
    ∃ v2 H2, appV H false e z bytes v (.slice b' 0 1 (some 1) z) = some (v2, H2) ∧ Sl B1 e z H2 v2 (L ++ [x]) ∧ H.next ≤ H2.next ∧ ∀ k, k < B1 → H2.get k = H.get k := by
  have hm : L.length + 1 ≤ 1000 := by omega
  obtain ⟨v2, H2, h1, h2, h3, h4⟩ := app_one (bytes := bytes) (c := some 1) hS hL hx hone hb' hB (Nat.le_trans (Nat.mul_le_mul hm hb) (by decide)) (Nat.le_trans hm (by decide))
  exact ⟨v2, H2, h1, h2, by omega, h4⟩
theorem app_both {H : Heap} {v : SV} {z b' : Nat} {L : List (List SV)} {x : List SV} {e' : TypeId} {ex ro : Bool} {frz : Nat} (h : RSl H v z L) (hone : L.flatten.all SV.one = true) (hl : L.length < 999) (hx : x.length = z) (hone' : x.all SV.one = true) (hb' : H.get b' = some (.row x e' ex ro frz)) (hlt : b' < H.next) (e bytes : Nat) (hb : bytes ≤ 1000) :
    ∃ v1 H1 v2 H2, appV H false e z bytes .nils v = some (v1, H1) ∧ appV H1 false e z bytes v1 (.slice b' 0 1 (some 1) z) = some (v2, H2) ∧ Ext H H1 ∧ Ext H H2 ∧ RB H.next H2 v2 z (L ++ [x]) := by
  obtain ⟨v1, H1, h1, hE, hS⟩ := app_copy h hone (by omega) e bytes hb
  obtain ⟨v2, H2, h2, hS2, h3, h4⟩ := app_more hS h.1 hx hone' ((hE.2 _ hlt).trans hb') hE.1 (by omega) bytes hb
  refine ⟨v1, H1, v2, H2, h1, h2, hE, ⟨Nat.le_trans hE.1 h3, fun b hb => (h4 b hb).trans (hE.2 b hb)⟩, hS2.rb (Nat.le_refl _) (h.1.app fun y hy => by rw [List.mem_singleton.1 hy]; exact hx)⟩
theorem RB.mono {B B' : Nat} {H : Heap} {v : SV} {z : Nat} {L : List (List SV)} (h : RB B H v z L) (hB : B' ≤ B) : RB B' H v z L := by
  refine ⟨h.1, ?_⟩
  rcases h.2 with h | ⟨b, c, e, ex, ro, frz, h1, hc, hb, h2, h3⟩
  · exact .inl h
  · exact .inr ⟨b, c, e, ex, ro, frz, h1, hc, by omega, h2, h3⟩
theorem store_cell {H : Heap} {b o : Nat} {v : SV} {cs : List SV} {e : TypeId} {ex : Bool} {frz : Nat} (hb : H.get b = some (.row cs e ex false frz)) (ho : SV.one v = true) (h1 : o + 1 ≤ cs.length) (h2 : frz ≤ o) : storeS 1 (.ptr b o) [v] H = some (H.put b (.row (cs.set o v) e ex false frz)) := by
  rw [store_ptr (n := 1) (cs := [v]) rfl, storeC_eq, hb, sto_row (by simpa using h1) h2 (by simp [ho])]
  rw [List.length_cons, List.length_nil, List.set_eq_take_append_cons_drop, if_pos (by omega)]
  simp
theorem app_full {H : Heap} {B b z : Nat} {x : SV} {L K : List (List SV)} {e' : TypeId} {ex ro : Bool} {frz : Nat} (hB : B ≤ b) (hbn : b < H.next) (hb : H.get b = some (.row L.flatten e' ex ro frz)) (hL : AllL z L) (hx : Srx H x z K) (hl : L.length + K.length < 1000) (e bytes : Nat) (hby : bytes ≤ 1000) :
    ∃ v' H', appV H false e z bytes (.slice b 0 L.length (some L.length) z) x = some (v', H') ∧ Ext H H' ∧ RB B H' v' z (L ++ K) := by
  obtain ⟨hK, cs, hsrc, hcs⟩ := hx
  by_cases hK0 : K = []
  · subst hK0
    refine ⟨.slice b 0 L.length (some L.length) z, H, by simp only [appV, appS, hsrc, List.length_nil], Ext.refl _, ?_⟩
    rw [List.append_nil]
    exact ⟨hL, .inr ⟨b, some L.length, e', ex, ro, frz, rfl, (fun k h => by cases h; rfl), hB, hbn, hb⟩⟩
  · have hK1 : K.length ≠ 0 := by simpa using hK0
    obtain ⟨n, hn⟩ : ∃ n, K.length = n + 1 := ⟨K.length - 1, by omega⟩
    have hcs := hcs hK0
    subst hcs
    rw [hn] at hsrc hl
    have b1 : Nat.ble ((L.length + (n + 1)) * bytes) roomS = true := ble_true (Nat.le_trans (Nat.mul_le_mul (by omega : L.length + (n + 1) ≤ 1000) hby) (by decide))
    have b2 : Nat.ble (L.length + (n + 1)) roomS = true := ble_true (Nat.le_trans (by omega : L.length + (n + 1) ≤ 1000) (by decide))
    have hload : loadC H b 0 (L.length * z) = some L.flatten := by
      rw [loadC_eq, hb, rowL_row (by rw [flatten_len hL]; omega), List.drop_zero, ← flatten_len hL, List.take_length]
    have hno : Nat.ble (L.length + (n + 1)) L.length = false := by
      cases h : Nat.ble (L.length + (n + 1)) L.length with
      | false => rfl
      | true => have := Nat.le_of_ble_eq_true h; omega
    refine ⟨.slice H.next 0 (L.length + (n + 1)) none z, H.push (.row (L.flatten ++ K.flatten) e false false 0), ?_, (Ext.refl H).push _, ?_⟩
    · simp only [appV, appS, hsrc, beq_self, b1, b2, Bool.and_self, hload, hno]
    · refine ⟨hL.app hK, .inr ⟨H.next, none, e, false, false, 0, by rw [List.length_append, hn], (fun k h => (by cases h)), by omega, Nat.lt_succ_self _, ?_⟩⟩
      rw [List.flatten_append]
      exact get_push_self _
theorem EC_cutR {call : CallS} {lf : Nat} {c : SCode} {ts : T} {H : Heap} {R : SExit → T → DS → Heap → Prop} (P : T → Heap → Prop) (h1 : EC call lf c ts [] H fun x ts' D' H' => x = .normal ∧ D' = [] ∧ P ts' H') (h2 : ∀ ts' H', P ts' H' → R .normal ts' [] H') : EC call lf c ts [] H R :=
  EC_mono (fun x ts' D' H' h => by
    obtain ⟨rfl, rfl, hp⟩ := h
    exact h2 _ _ hp) h1
theorem funR_mono {rs : List SRes} {P P' : SV → Heap → Prop} (hP : ∀ w H, P w H → P' w H) : ∀ x ts' D' H', funR rs P x ts' D' H' → funR rs P' x ts' D' H' := by
  intro x ts' D' H' h
  unfold funR at h ⊢
  cases x with
  | exit id => exact h.elim
  | _ => obtain ⟨h1, v, h2, h3⟩ := h; exact ⟨h1, v, h2, hP _ _ h3⟩
theorem tab4 : tabT 4 = some (.code c4) := by kernel_rfl
theorem new_ok {lf n : Nat} {H : Heap} {v : SV} (hv : SV.one v = true) (hn : 1 ≤ n) : callS tabT lf n 4 [v] H = some (.ptr H.next 0, H.push (.row [v, .int .i64 ((0 : Nat) : Int)] 61 true false 0)) := by
  obtain ⟨n, rfl⟩ : ∃ m, n = m + 1 := ⟨n - 1, by omega⟩
  have hc : v.cells = [v] := by cases v <;> first | rfl | cases hv
  have key : ∃ w H', callS tabT lf (n + 1) 4 [v] H = some (w, H') ∧ w = .ptr H.next 0 ∧ H' = H.push (.row [v, .int .i64 ((0 : Nat) : Int)] 61 true false 0) := by
    refine call_code tab4 (by simp only [c4, go_sem, List.reduceReplicate, Nat.reduceAdd, Nat.reduceSub]; exact rfl) ?_
    simp only [c4]
    refine stp @hc ?_
    refine ret1 trivial ?_
    exact (⟨rfl, rfl⟩)
  obtain ⟨w, H', h, rfl, rfl⟩ := key
  exact h
end Go.Sh
end
section
namespace Go.Sh
set_option maxRecDepth 10000
set_option linter.all false
def memN (n : Nat) : List (List Nat) := nameL ++ [64 :: sUsers] ++ (grpL.take n).map (64 :: ·)
theorem memN_mem : ∀ n ∈ [0, 1, 2, 3], ∀ m ∈ memN n, m ∈ memL := by decide +kernel
structure GrB (B : Nat) (H : Heap) (n : Nat) (g : Gr) : Prop where
  sl : RB B H g.2.1 1 (strL g.2.2)
  len : g.2.2.length ≤ 3
  mem : ∀ m ∈ g.2.2, m ∈ memN n
structure GrsB (B : Nat) (H : Heap) (n k : Nat) (v : SV) (G : List Gr) : Prop where
  sl : RB B H v 2 (G.map grC)
  at_ : ∀ g ∈ G, GrB B H n g
  nm : G.map (·.1) = grpL.take k
  len : G.length = k
theorem GrsB.keep {B n j : Nat} {H H' : Heap} {v : SV} {G : List Gr} (h : GrsB B H n j v G) {k p : Nat} (hk : k < B) (hp : p < B ∨ H.next ≤ p) (hF : Fr2 k p H H') : GrsB B H' n j v G :=
  ⟨h.sl.keep hk hp hF, fun g hg => ⟨(h.at_ g hg).sl.keep hk hp hF, (h.at_ g hg).len, (h.at_ g hg).mem⟩, h.nm, h.len⟩
theorem GrsB.ext {B n j : Nat} {H H' : Heap} {v : SV} {G : List Gr} (h : GrsB B H n j v G) (hE : Ext H H') : GrsB B H' n j v G :=
  ⟨h.sl.ext hE, fun g hg => ⟨(h.at_ g hg).sl.ext hE, (h.at_ g hg).len, (h.at_ g hg).mem⟩, h.nm, h.len⟩
structure Rl where
  al : Bool
  r : Nat
  g : List Nat
  k : Nat
  t : Tt
def rlC (x : Rl) : List SV := [.bool x.al, .int .i64 (x.r : Int), .str x.g, .int .i64 (x.k : Int), .int .i64 (x.t.1 : Int), .str x.t.2]
structure RlOK (n : Nat) (x : Rl) : Prop where
  r1 : 1 ≤ x.r
  r5 : x.r ≤ 5
  g : x.g ∈ sAll :: sUsers :: grpL.take n
  sc : (x.k = 1 ∧ x.t = (0, [])) ∨ (x.k = 2 ∧ x.t.1 < 6 ∧ x.t.2 = []) ∨ (x.k = 3 ∧ x.t ∈ titL)
structure Gd where
  st : Bool
  g : List Nat
  t : Tt
  s : List Nat
def gdC (x : Gd) : List SV := [.bool x.st, .str x.g, .int .i64 (x.t.1 : Int), .str x.t.2, .str x.s]
structure GdOK (n : Nat) (x : Gd) : Prop where
  g : x.g ∈ sAll :: sUsers :: grpL.take n
  t : x.t ∈ titL
  s : x.s ∈ secL
structure PolB (B : Nat) (H : Heap) (n : Nat) (gv rv dv : SV) (G : List Gr) (R : List Rl) (E : List Gd) : Prop where
  n3 : n ≤ 3
  gs : GrsB B H n n gv G
  rs : RB B H rv 6 (R.map rlC)
  rlen : R.length ≤ 7
  rok : ∀ x ∈ R, RlOK n x
  ds : RB B H dv 5 (E.map gdC)
  dlen : E.length ≤ 3
  dok : ∀ x ∈ E, GdOK n x
theorem titL_mk : ∀ sp ∈ [0, 1, 2, 3, 4, 5], ∀ s ∈ titleL, (sp, s) ∈ titL := by decide +kernel
theorem lt_mem6 {sp : Nat} (h : sp < 6) : sp ∈ [0, 1, 2, 3, 4, 5] := by
  have : sp = 0 ∨ sp = 1 ∨ sp = 2 ∨ sp = 3 ∨ sp = 4 ∨ sp = 5 := by omega
  simpa using this
theorem bl_gr (g : Gr) {H : Heap} {z : Nat} {L : List (List SV)} (h : RSl H g.2.1 z L) : beqList (grC g) (grC g) = true := by
  have := h.bq
  rcases h.2 with ⟨_, e⟩ | ⟨b, c, e, ex, ro, frz, e', _⟩
  · simp [grC, beqOne, beqList, eqS_dec, e]
  · simp only [grC, beqList, e']
    rw [e'] at this
    simpa [beqOne, eqS_dec, beqS] using this
theorem grpL_at {n k : Nat} (hk : k < n) (hn : n ≤ 3) : ∃ s, grpL[k]? = some s ∧ grpL.take (k + 1) = grpL.take k ++ [s] ∧ s ∈ grpL.take n ∧ s.length ≤ 10 := by
  have h3 : k < grpL.length := by simp [grpL]; omega
  refine ⟨grpL[k], List.getElem?_eq_getElem h3, by rw [List.take_succ, List.getElem?_eq_getElem h3]; rfl, ?_⟩
  refine ⟨?_, (by decide : ∀ s ∈ grpL, s.length ≤ 10) _ (List.getElem_mem h3)⟩
  rw [List.mem_take_iff_getElem]
  exact ⟨k, by omega, rfl⟩
theorem gr_one {B n k : Nat} {H : Heap} {v : SV} {G : List Gr} (h : GrsB B H n k v G) : (G.map grC).flatten.all SV.one = true := by
  rw [List.all_eq_true]
  intro x hx
  obtain ⟨y, hy, hxy⟩ := List.mem_flatten.1 hx
  obtain ⟨g, hg, rfl⟩ := List.mem_map.1 hy
  simp only [grC, List.mem_cons, List.not_mem_nil, or_false] at hxy
  rcases hxy with rfl | rfl
  · rfl
  · exact (h.at_ g hg).sl.rsl.one
def c13R : SCode := (.seq (.reg [ox 11 (.mv (.c (.int .i64 (.ofNat 0))))]) (.block 4 (.loop (.seq (.seq (.reg [oy 72 11, oy 73 0, ⟨some 74, (.call 14 [(.t 73), (.c (.int .i64 (.ofNat 7)))]), none⟩, ox 75 (.bin .lss (.t 72) (.t 74))]) (.cond (.t 75) .skip (.exit 4))) (.seq (.block 5 (.seq (.reg [oy 78 0, ⟨some 79, (.call 14 [(.t 78), (.c (.int .i64 (.ofNat 3)))]), none⟩, ox 80 (.bin .gtr (.t 79) (.c (.int .i64 (.ofNat 0)))), oy 81 0, ⟨some 82, (.call 14 [(.t 81), (.c (.int .i64 (.ofNat 5)))]), none⟩, ox 83 (.bin .add (.c (.int .i64 (.ofNat 1))) (.t 82)), oy 84 0, oy 85 10, ⟨some 86, (.call 18 [(.t 84), (.t 85)]), none⟩, ox 87 (.build [(.bool false), (.int .i64 (.ofNat 0)), (.str []), (.int .i64 (.ofNat 0)), (.int .i64 (.ofNat 0)), (.str [])] [(0, (1, (.t 80))), (1, (1, (.t 83))), (2, (1, (.t 86)))]), ox 12 (.alloc [(.bool false), (.int .i64 (.ofNat 0)), (.str []), (.int .i64 (.ofNat 0)), (.int .i64 (.ofNat 0)), (.str [])] 112), ⟨none, (.op (.store 6 (.t 12) (.t 87))), none⟩]) (.seq (.seq (.reg [oy 88 0, ⟨some 89, (.call 14 [(.t 88), (.c (.int .i64 (.ofNat 3)))]), none⟩]) (.block 6 (.seq (.reg [ox 95 (.bin .eql (.t 89) (.c (.int .i64 (.ofNat 0)))), oy 94 95]) (.cond (.t 94) (.reg [ox 96 (.build [(.int .i64 (.ofNat 0)), (.int .i64 (.ofNat 0)), (.str [])] [(0, (1, (.c (.int .i64 (.ofNat 1)))))]), ox 97 (.fad 3 (.t 12)), ⟨none, (.op (.store 3 (.t 97) (.t 96))), none⟩]) (.seq (.reg [ox 99 (.bin .eql (.t 89) (.c (.int .i64 (.ofNat 1)))), oy 98 99]) (.cond (.t 98) (.reg [oy 100 0, ⟨some 101, (.call 14 [(.t 100), (.c (.int .i64 (.ofNat 6)))]), none⟩, ox 102 (.build [(.int .i64 (.ofNat 0)), (.str [])] [(0, (1, (.t 101)))]), ox 103 (.build [(.int .i64 (.ofNat 0)), (.int .i64 (.ofNat 0)), (.str [])] [(0, (1, (.c (.int .i64 (.ofNat 2))))), (1, (2, (.t 102)))]), ox 104 (.fad 3 (.t 12)), ⟨none, (.op (.store 3 (.t 104) (.t 103))), none⟩]) (.reg [oy 90 0, ⟨some 91, (.call 6 [(.t 90)]), none⟩, ox 92 (.build [(.int .i64 (.ofNat 0)), (.int .i64 (.ofNat 0)), (.str [])] [(0, (1, (.c (.int .i64 (.ofNat 3))))), (1, (2, (.t 91)))]), ox 93 (.fad 3 (.t 12)), ⟨none, (.op (.store 3 (.t 93) (.t 92))), none⟩]))))))) (.dreg [(ox 105 (.fad 1 (.t 3)), .pure), (ox 106 (.load false 1 (.t 105)), (.read 0 0)), (ox 107 (.app false 112 6 64 (.c .nils) (.t 106)), .eff), (ox 108 (.load true 6 (.t 12)), (.read 0 1)), (ox 109 (.bslice 112 6 1 [(.bool false), (.int .i64 (.ofNat 0)), (.str []), (.int .i64 (.ofNat 0)), (.int .i64 (.ofNat 0)), (.str [])] [(0, (6, (.t 108)))]), (.hoist 0 1)), (ox 110 (.app false 112 6 64 (.t 107) (.t 109)), .eff), (ox 111 (.fad 1 (.t 3)), .pure), (⟨none, (.op (.store 1 (.t 111) (.t 110))), none⟩, .eff)] false)))) (.reg [oy 76 11, ox 77 (.bin .add (.t 76) (.c (.int .i64 (.ofNat 1)))), oy 11 77]))))))
def c13G : SCode := (.seq (.reg [ox 13 (.mv (.c (.int .i64 (.ofNat 0))))]) (.block 7 (.loop (.seq (.seq (.reg [oy 112 13, oy 113 0, ⟨some 114, (.call 14 [(.t 113), (.c (.int .i64 (.ofNat 4)))]), none⟩, ox 115 (.bin .lss (.t 112) (.t 114))]) (.cond (.t 115) .skip (.exit 7))) (.seq (.block 8 (.seq (.reg [oy 118 0, ⟨some 119, (.call 14 [(.t 118), (.c (.int .i64 (.ofNat 3)))]), none⟩, ox 120 (.bin .eql (.t 119) (.c (.int .i64 (.ofNat 0)))), oy 121 0, oy 122 10, ⟨some 123, (.call 18 [(.t 121), (.t 122)]), none⟩, oy 124 0, ⟨some 125, (.call 6 [(.t 124)]), none⟩, oy 126 0, ox 127 (.bslice 9 1 4 [(.str []), (.str []), (.str []), (.str [])] [(0, (1, (.c (.str [])))), (1, (1, (.c (.str [115])))), (2, (1, (.c (.str [116])))), (3, (1, (.c (.str [97, 32, 98]))))]), ⟨some 128, (.call 18 [(.t 126), (.t 127)]), none⟩, ox 129 (.build [(.bool false), (.str []), (.int .i64 (.ofNat 0)), (.str []), (.str [])] [(0, (1, (.t 120))), (1, (1, (.t 123))), (2, (2, (.t 125))), (4, (1, (.t 128)))]), ox 14 (.alloc [(.bool false), (.str []), (.int .i64 (.ofNat 0)), (.str []), (.str [])] 114), ⟨none, (.op (.store 5 (.t 14) (.t 129))), none⟩]) (.dreg [(ox 130 (.fad 2 (.t 3)), .pure), (ox 131 (.load false 1 (.t 130)), (.read 0 0)), (ox 132 (.app false 114 5 64 (.c .nils) (.t 131)), .eff), (ox 133 (.load true 5 (.t 14)), (.read 0 1)), (ox 134 (.bslice 114 5 1 [(.bool false), (.str []), (.int .i64 (.ofNat 0)), (.str []), (.str [])] [(0, (5, (.t 133)))]), (.hoist 0 1)), (ox 135 (.app false 114 5 64 (.t 132) (.t 134)), .eff), (ox 136 (.fad 2 (.t 3)), .pure), (⟨none, (.op (.store 1 (.t 136) (.t 135))), none⟩, .eff)] false))) (.reg [oy 116 13, ox 117 (.bin .add (.t 116) (.c (.int .i64 (.ofNat 1)))), oy 13 117]))))))
def c13T : SCode := (.seq (.reg [ox 63 (.bslice 9 1 2 [(.str []), (.str [])] [(0, (1, (.c (.str [97, 108, 108])))), (1, (1, (.c (.str [117, 115, 101, 114, 115]))))]), oy 64 4, oy 65 5, ox 66 (.slv 1 none (some (.t 65)) none (.t 64)), ox 67 (.app false 9 1 16 (.t 63) (.t 66)), oy 10 67]) (.seq (.reg [ox 68 (.build [(.int .i64 (.ofNat 0)), (.int .i64 (.ofNat 0)), (.str [])] [(0, (1, (.c (.int .i64 (.ofNat 1)))))]), ox 69 (.build [(.bool false), (.int .i64 (.ofNat 0)), (.str []), (.int .i64 (.ofNat 0)), (.int .i64 (.ofNat 0)), (.str [])] [(0, (1, (.c (.bool true)))), (1, (1, (.c (.int .i64 (.ofNat 1))))), (2, (1, (.c (.str [97, 108, 108])))), (3, (3, (.t 68)))]), ox 70 (.bslice 112 6 1 [(.bool false), (.int .i64 (.ofNat 0)), (.str []), (.int .i64 (.ofNat 0)), (.int .i64 (.ofNat 0)), (.str [])] [(0, (6, (.t 69)))]), ox 71 (.fad 1 (.t 3)), ⟨none, (.op (.store 1 (.t 71) (.t 70))), none⟩]) (.seq c13R (.seq c13G (.seq (.reg [ox 137 (.load true 3 (.t 3)), ⟨none, (.op (.store 3 (.t 2) (.t 137))), none⟩]) .ret)))))
end Go.Sh
end
