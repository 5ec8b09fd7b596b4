/-
  The drawn view. (frame style z)
  The drawn view: the walk. (frame style z)
-/
import Derived.Test.YtnhogklhegmjhaaGreatDoorShC8
set_option linter.all false
section
namespace Go.Sh
set_option maxRecDepth 10000
set_option linter.all false
theorem bin_mul {k : IntKind} {a b : Int} : binS .mul (.int k a) (.int k b) = some (.int k (k.wrap (a * b))) := by
  cases k <;> rfl
attribute [go_sem] bin_mul
def refC : SV → Bool
  | .slice .. => true
  | .nils => true
  | _ => false
def RefAt (H : Heap) (k : Nat) : Prop := ∃ c cs e ex ro frz, H.get k = some (.row (c :: cs) e ex ro frz) ∧ refC c = true
theorem TapeOK.ref {M k : Nat} {H : Heap} (h : TapeOK M H k) : RefAt H k := by
  obtain ⟨_, _, lv, at_, h3, _, h5⟩ := h
  refine ⟨lv, _, _, _, _, _, h3, ?_⟩
  rcases h5 with rfl | ⟨lb, lo, len, cap, cs, e, ex, ro, frz, rfl, _⟩ <;> rfl
theorem RSl.ref {H : Heap} {v : SV} {z : Nat} {L : List (List SV)} (h : RSl H v z L) : refC v = true := by
  rcases h.2 with ⟨_, rfl⟩ | ⟨b, c, e, ex, ro, frz, rfl, _⟩ <;> rfl
def RSK (k : Nat) (H : Heap) (v : SV) (z : Nat) (L : List (List SV)) : Prop :=
  AllL z L ∧ ((L = [] ∧ v = .nils) ∨ ∃ b c e ex ro frz, v = .slice b 0 L.length c z ∧ (∀ k, c = some k → k = L.length) ∧ b ≠ k ∧ b < H.next ∧ H.get b = some (.row L.flatten e ex ro frz))
theorem RSK.rsl {k : Nat} {H : Heap} {v : SV} {z : Nat} {L : List (List SV)} (h : RSK k H v z L) : RSl H v z L := by
  refine ⟨h.1, ?_⟩
  rcases h.2 with h | ⟨b, c, e, ex, ro, frz, h1, hc, _, h2, h3⟩
  · exact .inl h
  · exact .inr ⟨b, c, e, ex, ro, frz, h1, hc, h2, h3⟩
theorem RB.rsk {B k : Nat} {H : Heap} {v : SV} {z : Nat} {L : List (List SV)} (h : RB B H v z L) (hk : k < B) : RSK k H v z L := by
  refine ⟨h.1, ?_⟩
  rcases h.2 with h | ⟨b, c, e, ex, ro, frz, h1, hc, hB, h2, h3⟩
  · exact .inl h
  · exact .inr ⟨b, c, e, ex, ro, frz, h1, hc, by omega, h2, h3⟩
theorem RSl.rsk {k : Nat} {H : Heap} {v : SV} {z : Nat} {L : List (List SV)} (h : RSl H v z L) (hf : ∀ x ∈ L.flatten, refC x = false) (hk : RefAt H k) : RSK k H v z L := by
  refine ⟨h.1, ?_⟩
  rcases h.2 with h | ⟨b, c, e, ex, ro, frz, h1, hc, h2, h3⟩
  · exact .inl h
  · refine .inr ⟨b, c, e, ex, ro, frz, h1, hc, fun hbk => ?_, h2, h3⟩
    obtain ⟨c', cs', _, _, _, _, h4, h5⟩ := hk
    subst hbk
    rw [h3] at h4
    have h6 := congrArg (fun o => match o with | some (SObj.row l _ _ _ _) => l | _ => []) h4
    have h7 : L.flatten = c' :: cs' := h6
    rw [hf c' (by rw [h7]; exact List.mem_cons_self ..)] at h5
    cases h5
theorem RSK.keep {k : Nat} {H H' : Heap} {v : SV} {z : Nat} {L : List (List SV)} (h : RSK k H v z L) (hF : Fr2 k k H H') : RSK k H' v z L := by
  refine ⟨h.1, ?_⟩
  rcases h.2 with h | ⟨b, c, e, ex, ro, frz, h1, hc, hne, h2, h3⟩
  · exact .inl h
  · exact .inr ⟨b, c, e, ex, ro, frz, h1, hc, hne, Nat.lt_of_lt_of_le h2 hF.1, (hF.2 b h2 hne hne).trans h3⟩
theorem RSK.keepN {k p : Nat} {H H' : Heap} {v : SV} {z : Nat} {L : List (List SV)} (h : RSK k H v z L) (hp : H.next ≤ p) (hF : Fr2 k p H H') : RSK k H' v z L := by
  refine ⟨h.1, ?_⟩
  rcases h.2 with h | ⟨b, c, e, ex, ro, frz, h1, hc, hne, h2, h3⟩
  · exact .inl h
  · exact .inr ⟨b, c, e, ex, ro, frz, h1, hc, hne, Nat.lt_of_lt_of_le h2 hF.1, (hF.2 b h2 hne (by omega)).trans h3⟩
theorem Fr2.gs {M k p : Nat} {H1 H2 : Heap} (h : Fr2 k p H1 H2) (hp : H1.next ≤ p) (hT : TapeOK M H2 k) : GS M k H1 H2 := ⟨h.1, fun b hb hk => h.2 b hb hk (by omega), hT⟩
theorem RSl.row {H : Heap} {v : SV} {z : Nat} {L : List (List SV)} (h : RSl H v z L) {i b o : Nat} {x : List SV} (hi : iadS z v (.int .i64 (i : Int)) = some (.ptr b o)) (hx : L[i]? = some x) : rowL (H.get b) o z = some x := by
  obtain ⟨b', o', hi', _, hr, _⟩ := h.at_ hx
  rw [hi] at hi'
  cases hi'
  exact hr
theorem RSl.keep2 {k p : Nat} {H H' : Heap} {v : SV} {z : Nat} {L : List (List SV)} (h : RSl H v z L) (hf : ∀ x ∈ L.flatten, refC x = false) (hk : RefAt H k) (hp : RefAt H p) (hF : Fr2 k p H H') : RSl H' v z L := by
  have h1 := h.rsk hf hk
  have h2 := h.rsk hf hp
  refine ⟨h.1, ?_⟩
  rcases h1.2 with h | ⟨b, c, e, ex, ro, frz, rfl, hc, hne, hb, h3⟩
  · exact .inl h
  · rcases h2.2 with ⟨_, h⟩ | ⟨b', _, _, _, _, _, h4, _, hne', _⟩
    · cases h
    · cases h4
      exact .inr ⟨b, c, e, ex, ro, frz, rfl, hc, Nat.lt_of_lt_of_le hb hF.1, (hF.2 b hb hne hne').trans h3⟩
theorem strL_ref (L : List (List Nat)) : ∀ x ∈ (strL L).flatten, refC x = false := by
  intro x hx
  rw [strL_flat] at hx
  obtain ⟨s, _, rfl⟩ := List.mem_map.1 hx
  rfl
theorem ttL_ref (L : List Tt) : ∀ x ∈ (ttL L).flatten, refC x = false := by
  intro x hx
  obtain ⟨y, hy, hxy⟩ := List.mem_flatten.1 hx
  obtain ⟨t, _, rfl⟩ := List.mem_map.1 hy
  simp only [tCs, List.mem_cons, List.not_mem_nil, or_false] at hxy
  rcases hxy with rfl | rfl <;> rfl
theorem Sl.keepF {B0 e z k p : Nat} {H H' : Heap} {v : SV} {L : List (List SV)} (h : Sl B0 e z H v L) (hk : k < B0) (hp : p < B0) (hF : Fr2 k p H H') : Sl B0 e z H' v L := by
  rcases h with h | ⟨hne, b, h1, h2, h3, h4⟩
  · exact .inl h
  · exact .inr ⟨hne, b, h1, Nat.lt_of_lt_of_le h2 hF.1, h3, (hF.2 b h2 (by omega) (by omega)).trans h4⟩
structure PolR (RS : SV → Nat → List (List SV) → Prop) (n : Nat) (gv rv dv : SV) (G : List Gr) (R : List Rl) (E : List Gd) : Prop where
  n3 : n ≤ 3
  gs : RS gv 2 (G.map grC)
  gat : ∀ g ∈ G, RS g.2.1 1 (strL g.2.2)
  glen : ∀ g ∈ G, g.2.2.length ≤ 3
  gmem : ∀ g ∈ G, ∀ m ∈ g.2.2, m ∈ memN n
  gnm : G.map (·.1) = grpL.take n
  rs : RS rv 6 (R.map rlC)
  rlen : R.length ≤ 7
  rok : ∀ x ∈ R, RlOK n x
  ds : RS dv 5 (E.map gdC)
  dlen : E.length ≤ 3
  dok : ∀ x ∈ E, GdOK n x
theorem PolR.imp {RS RS' : SV → Nat → List (List SV) → Prop} {n : Nat} {gv rv dv : SV} {G : List Gr} {R : List Rl} {E : List Gd} (h : PolR RS n gv rv dv G R E) (k : ∀ v z L, RS v z L → RS' v z L) : PolR RS' n gv rv dv G R E :=
  ⟨h.n3, k _ _ _ h.gs, fun g hg => k _ _ _ (h.gat g hg), h.glen, h.gmem, h.gnm, k _ _ _ h.rs, h.rlen, h.rok, k _ _ _ h.ds, h.dlen, h.dok⟩
theorem PolB.r {B n : Nat} {H : Heap} {gv rv dv : SV} {G : List Gr} {R : List Rl} {E : List Gd} (h : PolB B H n gv rv dv G R E) : PolR (RB B H) n gv rv dv G R E :=
  ⟨h.n3, h.gs.sl, fun g hg => (h.gs.at_ g hg).sl, fun g hg => (h.gs.at_ g hg).len, fun g hg => (h.gs.at_ g hg).mem, h.gs.nm, h.rs, h.rlen, h.rok, h.ds, h.dlen, h.dok⟩
theorem PolR.grs {H : Heap} {n : Nat} {gv rv dv : SV} {G : List Gr} {R : List Rl} {E : List Gd} (h : PolR (RSl H) n gv rv dv G R E) : GrsOK H gv G := by
  have hn3 := h.n3
  have hl : G.length ≤ 3 := by
    have := congrArg List.length h.gnm
    rw [List.length_map, List.length_take] at this
    omega
  refine ⟨h.gs, fun g hg => ⟨?_, h.gat g hg, by have := h.glen g hg; omega, fun m hm => ?_⟩, hl⟩
  · have : g.1 ∈ G.map (·.1) := List.mem_map_of_mem hg
    rw [h.gnm] at this
    exact List.mem_of_mem_take this
  · have hn : n ∈ [0, 1, 2, 3] := by
      have : n = 0 ∨ n = 1 ∨ n = 2 ∨ n = 3 := by omega
      simpa using this
    exact memN_mem n hn m (h.gmem g hg m hm)
structure Pg where
  t : Tt
  s : List Nat
  r : Nat
def pgC (x : Pg) : List SV := [.int .i64 (x.t.1 : Int), .str x.t.2, .str x.s, .int .i64 (x.r : Int)]
structure PgOK (x : Pg) : Prop where
  s : x.s.length ≤ 2000
  r : 1 ≤ x.r
structure ViewR (RS : SV → Nat → List (List SV) → Prop) (pv gv rv dv qv : SV) (clk : Int) (A : List Pg) (n : Nat) (G : List Gr) (R : List Rl) (E : List Gd) (Q : List (List Nat)) : Prop where
  pg : RS pv 4 (A.map pgC)
  pok : ∀ x ∈ A, PgOK x
  plen : A.length ≤ 6
  pmem : ∀ x ∈ A, x.t ∈ tQ :: pagL
  pso : (A.map Pg.t).Pairwise fun a b => cmpT a b = -1
  pol : PolR RS n gv rv dv G R E
  q : RS qv 1 (strL Q)
  qs : Q ∈ grpS
  c0 : 0 ≤ clk
  c1 : clk < 48000000
theorem ViewR.imp {RS RS' : SV → Nat → List (List SV) → Prop} {pv gv rv dv qv : SV} {clk : Int} {A : List Pg} {n : Nat} {G : List Gr} {R : List Rl} {E : List Gd} {Q : List (List Nat)} (h : ViewR RS pv gv rv dv qv clk A n G R E Q) (k : ∀ v z L, RS v z L → RS' v z L) : ViewR RS' pv gv rv dv qv clk A n G R E Q :=
  ⟨k _ _ _ h.pg, h.pok, h.plen, h.pmem, h.pso, h.pol.imp k, k _ _ _ h.q, h.qs, h.c0, h.c1⟩
end Go.Sh
end
section
namespace Go.Sh
set_option maxRecDepth 10000
set_option linter.all false
theorem tab5 : tabT 5 = some (.code c5) := by kernel_rfl
theorem pgC_ref (A : List Pg) : ∀ x ∈ (A.map pgC).flatten, refC x = false := by
  intro x hx
  obtain ⟨y, hy, hxy⟩ := List.mem_flatten.1 hx
  obtain ⟨t, _, rfl⟩ := List.mem_map.1 hy
  simp only [pgC, List.mem_cons, List.not_mem_nil, or_false] at hxy
  rcases hxy with rfl | rfl | rfl | rfl <;> rfl
theorem pg_all (A : List Pg) : AllL 4 (A.map pgC) := by
  intro x hx
  obtain ⟨s, _, rfl⟩ := List.mem_map.1 hx
  rfl
theorem pg_one (A : List Pg) : (A.map pgC).flatten.all SV.one = true := by
  rw [List.all_eq_true]
  intro x hx
  obtain ⟨y, hy, hxy⟩ := List.mem_flatten.1 hx
  obtain ⟨t, _, rfl⟩ := List.mem_map.1 hy
  simp only [pgC, List.mem_cons, List.not_mem_nil, or_false] at hxy
  rcases hxy with rfl | rfl | rfl | rfl <;> rfl
theorem mainL_pag : ∀ s ∈ mainL, ((0, s) : Tt) ∈ pagL := by decide +kernel
def subT : List (List Nat) := [[84], [65], [66], [85, 47, 120], [88]]
theorem subT_pag : ∀ s ∈ subT, ((3, s) : Tt) ∈ pagL := by decide +kernel
theorem RSl.bo {H : Heap} {v : SV} {z : Nat} {L : List (List SV)} (h : RSl H v z L) : beqOne v v = true := by
  rcases h.2 with ⟨_, rfl⟩ | ⟨b, c, e, ex, ro, frz, rfl, _⟩ <;> simp [beqOne, eqS_dec]
theorem bq_three {a b c : SV} (ha : beqOne a a = true) (hb : beqOne b b = true) (hc : beqOne c c = true) : beqS (.agg [a, b, c]) (.agg [a, b, c]) = true := by
  show beqList [a, b, c] [a, b, c] = true
  simp [beqList, ha, hb, hc]
section
variable {lf n : Nat} {H : Heap}
@[reducible] def I5a (H1 : Heap) (M kb p4 p5 nn : Nat) (m : Nat) (ts : T) (D : DS) (H' : Heap) : Prop :=
  D = [] ∧ GS M kb H1 H' ∧ ∃ (L : List Tt) (v : SV) (i : Nat), m = nn - i ∧ i ≤ nn ∧ L.length ≤ i ∧ SortT L ∧ RSl H' v 2 (ttL L) ∧
    ∃ z : Nat → SV, ts = ((.ptr kb 0) :: (.int .i64 ((1 : Nat) : Int)) :: z 2 :: z 3 :: (.ptr p4 0) :: (.ptr p5 0) :: (v) :: (.int .i64 (nn : Int)) :: (.int .i64 (i : Int)) :: z 9 :: z 10 :: z 11 :: z 12 :: z 13 :: z 14 :: z 15 :: z 16 :: z 17 :: z 18 :: z 19 :: z 20 :: z 21 :: z 22 :: z 23 :: z 24 :: z 25 :: z 26 :: z 27 :: z 28 :: z 29 :: z 30 :: z 31 :: z 32 :: z 33 :: z 34 :: z 35 :: z 36 :: z 37 :: z 38 :: z 39 :: z 40 :: z 41 :: z 42 :: z 43 :: z 44 :: z 45 :: z 46 :: z 47 :: z 48 :: z 49 :: z 50 :: z 51 :: z 52 :: z 53 :: z 54 :: z 55 :: z 56 :: z 57 :: z 58 :: z 59 :: z 60 :: z 61 :: z 62 :: z 63 :: z 64 :: [] : T) ∧ (True)
@[reducible] def I5b (H1 : Heap) (M kb p4 p5 B : Nat) (L : List Tt) (v gv rv dv qv : SV) (clk : Int) (m : Nat) (ts : T) (D : DS) (H' : Heap) : Prop :=
  D = [] ∧ Fr2 kb p5 H1 H' ∧ TapeOK M H' kb ∧ ∃ (A : List Pg) (pv : SV), m = L.length - A.length ∧ A.length ≤ L.length ∧ A.map Pg.t = L.take A.length ∧ (∀ x ∈ A, PgOK x) ∧ Sl B 40 4 H' pv (A.map pgC) ∧ RSl H' v 2 (ttL L) ∧ H'.get p5 = some (.row [pv, gv, rv, dv, qv, .int .i64 clk, .nils] 34 true false 0) ∧
    ∃ z : Nat → SV, ts = ((.ptr kb 0) :: (.int .i64 ((1 : Nat) : Int)) :: z 2 :: z 3 :: (.ptr p4 0) :: (.ptr p5 0) :: (v) :: z 7 :: z 8 :: z 9 :: (.int .i64 (A.length : Int)) :: z 11 :: z 12 :: z 13 :: z 14 :: z 15 :: z 16 :: z 17 :: z 18 :: z 19 :: z 20 :: z 21 :: z 22 :: z 23 :: z 24 :: z 25 :: z 26 :: z 27 :: z 28 :: z 29 :: z 30 :: z 31 :: z 32 :: z 33 :: z 34 :: z 35 :: z 36 :: z 37 :: z 38 :: z 39 :: z 40 :: z 41 :: z 42 :: z 43 :: z 44 :: z 45 :: z 46 :: z 47 :: z 48 :: z 49 :: z 50 :: z 51 :: z 52 :: z 53 :: z 54 :: z 55 :: z 56 :: z 57 :: z 58 :: z 59 :: z 60 :: z 61 :: z 62 :: z 63 :: z 64 :: [] : T) ∧ (True)
set_option maxHeartbeats 8000000 in
theorem view_ok {M kb : Nat} (hT : TapeOK M H kb) (hn : 8 ≤ n) (hlf : 1000 < lf) :
    ∃ v H', callS tabT lf n 5 [.ptr kb 0, .int .i64 ((1 : Nat) : Int)] H = some (v, H') ∧ GS M kb H H' ∧ ∃ pv gv rv dv qv clk A nn G R E Q, v = .agg [pv, gv, rv, dv, qv, .int .i64 clk, .nils] ∧ A.length ≤ 5 ∧ (∀ x ∈ A, x.t ∈ pagL) ∧ ViewR (RSK kb H') pv gv rv dv qv clk A nn G R E Q := by
  obtain ⟨n, rfl⟩ : ∃ m, n = m + 1 := ⟨n - 1, by omega⟩
  have key : ∃ v H', callS tabT lf (n + 1) 5 [.ptr kb 0, .int .i64 ((1 : Nat) : Int)] H = some (v, H') ∧ GS M kb H H' ∧ ∃ pv gv rv dv qv clk A nn G R E Q, v = .agg [pv, gv, rv, dv, qv, .int .i64 clk, .nils] ∧ A.length ≤ 5 ∧ (∀ x ∈ A, x.t ∈ pagL) ∧ ViewR (RSK kb H') pv gv rv dv qv clk A nn G R E Q := by
    have hkM := hT.1
    have hMn := hT.2.1
    obtain ⟨H1, hH1⟩ : ∃ H1, H.push (.row [.nils, .nils, .nils, .nils, .nils, .int .i64 ((0 : Nat) : Int), .nils] 34 true false 0) = H1 := ⟨_, rfl⟩
    have hE1 : Ext H H1 := by rw [← hH1]; exact (Ext.refl _).push _
    have hn1 : H1.next = H.next + 1 := by rw [← hH1]; rfl
    have hp4 : H1.get H.next = some (.row [.nils, .nils, .nils, .nils, .nils, .int .i64 ((0 : Nat) : Int), .nils] 34 true false 0) := by rw [← hH1]; exact get_push_self _
    have hT1 : TapeOK M H1 kb := by rw [← hH1]; exact hT.push _
    obtain ⟨v2, H2, hc2, hg2, nn, gv, rv, dv, G, R, E, rfl, hpol⟩ := policy_ok (lf := lf) (n := n) hT1 (by omega) hlf
    obtain ⟨r3, H3, hc3, h30, h31, hst3⟩ := next_ok (lf := lf) (n := n) hg2.2.2 (m := ((600000 : Nat) : Int)) (by omega) (by omega) (by omega)
    obtain ⟨r3, rfl⟩ : ∃ k : Nat, r3 = (k : Int) := ⟨r3.toNat, by omega⟩
    have hle2 := hg2.1
    have hn3 : H3.next = H2.next := hst3.1
    have go := hpol.gs.sl.rsl.one
    have ro := hpol.rs.rsl.one
    have do_ := hpol.ds.rsl.one
    have hclk : (r3 : Int) * ((80 : Nat) : Int) = ((r3 * 80 : Nat) : Int) := by rw [Int.natCast_mul]
    obtain ⟨H4, hH4⟩ : ∃ H4, (H3.push (.row [.nils, .nils, .nils, .nils, .nils, .int .i64 ((0 : Nat) : Int), .nils] 34 true false 0)).put H3.next (.row [.nils, gv, rv, dv, .nils, .int .i64 ((r3 : Int) * ((80 : Nat) : Int)), .nils] 34 true false 0) = H4 := ⟨_, rfl⟩
    have hE4 : Ext H3 H4 := by rw [← hH4]; exact ((Ext.refl H3).push _).put (Nat.le_refl _) _
    have hn4 : H4.next = H3.next + 1 := by rw [← hH4]; rfl
    have hp5 : H4.get H3.next = some (.row [.nils, gv, rv, dv, .nils, .int .i64 ((r3 * 80 : Nat) : Int), .nils] 34 true false 0) := by rw [← hH4, ← hclk]; exact get_put_self _ _
    have hT4 : TapeOK M H4 kb := by rw [← hH4]; exact (hst3.2.2.push _).put hst3.2.2.2.1 _
    refine call_code tab5 (by simp only [c5, go_sem, List.reduceReplicate, Nat.reduceAdd, Nat.reduceSub]; exact rfl) ?_
    simp only [c5]
    refine stp @hH1 ?_
    refine kst trivial hc2 ?_
    refine stp trivial ?_
    refine kst trivial hc3 ?_
    refine stp trivial ?_
    have hall : [.nils, gv, rv, dv, .nils, .int .i64 ((r3 : Int) * ((80 : Nat) : Int)), .nils].all SV.one = true := by
      simp only [List.all_cons, List.all_nil, go, ro, do_]; rfl
    have hst5 : storeS 7 (.ptr H3.next 0) [.nils, gv, rv, dv, .nils, .int .i64 ((r3 : Int) * ((80 : Nat) : Int)), .nils] (H3.push (.row [.nils, .nils, .nils, .nils, .nils, .int .i64 ((0 : Nat) : Int), .nils] 34 true false 0)) = some H4 := by
      rw [store_ptr (n := 7) rfl, storeC_eq, get_push_self, sto_row (by simp) (by omega) hall]
      exact congrArg some hH4
    refine EO_opN (v := .undef) (H' := H4) (by simp only [go_sem, SV.cells, hst5]) ?_
    obtain ⟨us, H5, hc5, hus, hg5⟩ := user_ok (lf := lf) (n := n) hT4 (by omega)
    have hF25 : Fr2 kb H3.next H2 H5 := hst3.gs'.fr2.trans (hE4.fr2.trans hg5.fr2)
    have hpol5 := hpol.r.imp fun v z L h => h.keep (by omega) (.inr (by omega)) hF25
    obtain ⟨qv, H6, Q, hc6, hE6, hQ, hq6⟩ := groups_ok (lf := lf) (n := n) (hpol5.imp fun v z L h => h.rsl).grs ro do_ hus (by omega) hlf
    have hle5 := hg5.1
    have hle6 := hE6.1
    have hp5' := hg5.old (by omega) (show H3.next ≠ kb by omega) hp5
    have hp56 := (hE6.2 _ (by omega)).trans hp5'
    have hT6 : TapeOK M H6 kb := hg5.2.2.keep hE6.1 fun b hb => hE6.2 b (by have := hg5.2.2.2.1; omega)
    have qo := hq6.one
    have qc := hq6.cells
    have hst6 := store_cell (o := 4) hp56 qo (by simp) (by omega)
    obtain ⟨H7, hH7⟩ : ∃ H7, H6.put H3.next (.row [.nils, gv, rv, dv, qv, .int .i64 ((r3 * 80 : Nat) : Int), .nils] 34 true false 0) = H7 := ⟨_, rfl⟩
    have hn7 : H7.next = H6.next := by rw [← hH7]; rfl
    have hp57 : H7.get H3.next = some (.row [.nils, gv, rv, dv, qv, .int .i64 ((r3 * 80 : Nat) : Int), .nils] 34 true false 0) := by rw [← hH7]; exact get_put_self _ _
    have hF67 : Fr2 kb H3.next H6 H7 := by rw [← hH7]; exact (Fr2.refl ..).put _
    have hT7 : TapeOK M H7 kb := by rw [← hH7]; exact hT6.put (by omega) _
    have hR6 : RefAt H6 H3.next := ⟨_, _, _, _, _, _, hp56, rfl⟩
    have hR7 : RefAt H7 H3.next := ⟨_, _, _, _, _, _, hp57, rfl⟩
    have hq7 := hq6.keep2 (strL_ref Q) hT6.ref hR6 hF67
    have hpb : beqS (.agg [gv, rv, dv]) (.agg [gv, rv, dv]) = true := bq_three hpol.gs.sl.rsl.bo hpol.rs.rsl.bo hpol.ds.rsl.bo
    refine EO_nil (seqR_normal (EC_seq ?_))
    refine EC_draw rfl ?_
    refine stp @hp5 ?_
    refine ED_call (by exact sfc trivial) hc5 (by (simp only [List.set_cons_zero, List.set_cons_succ]; with_reducible rfl)) ?_
    refine stp trivial ?_
    refine ED_call (by exact sfc trivial) hc6 (by (simp only [List.set_cons_zero, List.set_cons_succ]; with_reducible rfl)) ?_
    refine stp (And.intro @hp56 (And.intro @qc (And.intro @hst6 @hH7))) ?_
    refine ⟨?_, fun h => (by cases h), _, (by simp only [List.getLast?_cons_cons, List.getLast?_singleton]; first | done | with_reducible rfl), ?_⟩
    · exact rdp (And.intro @hp5 (And.intro @hp5' @hpb))
    · obtain ⟨nt, H8, hc8, h80, h81, hst8⟩ := next_ok (lf := lf) (n := n) hT7 (m := ((6 : Nat) : Int)) (by omega) (by omega) (by omega)
      obtain ⟨nt, rfl⟩ : ∃ k : Nat, nt = (k : Int) := ⟨nt.toNat, by omega⟩
      have hn8 : H8.next = H7.next := hst8.1
      refine stp trivial ?_
      refine kst trivial hc8 ?_
      refine stp trivial ?_
      refine EC_loop (I := I5a H8 M kb H.next H3.next nt) ?_ nt ?_ (by omega)
      · rintro m ts D H9 ⟨rfl, hg9, L, tv, i, rfl, hi, hLi, hso, htv, ⟨z, rfl, -⟩⟩
        have hle9 := hg9.1
        refine stp trivial ?_
        refine cst trivial (fun hc => ?_) (fun hc => ?_) <;> try simp only [decide_eq_true_eq, decide_eq_false_iff_not, not_true_eq_false, not_false_eq_true, Int.not_lt, Int.not_le, ge_iff_le, gt_iff_lt] at hc
        · obtain ⟨mt, H10, hc10, hmt, hg10⟩ := main_ok (lf := lf) (n := n) hg9.2.2 (by omega)
          have htc : (ttl 0 mt).cells = [.int .i64 ((0 : Nat) : Int), .str mt] := rfl
          obtain ⟨H11, hH11⟩ : ∃ H11, (H10.push (.row [.int .i64 ((0 : Nat) : Int), .str []] 37 true false 0)).put H10.next (.row [.int .i64 ((0 : Nat) : Int), .str mt] 37 true false 0) = H11 := ⟨_, rfl⟩
          have hE11 : Ext H10 H11 := by rw [← hH11]; exact ((Ext.refl _).push _).put (Nat.le_refl _) _
          have hn11 : H11.next = H10.next + 1 := by rw [← hH11]; rfl
          have hT11 : TapeOK M H11 kb := by rw [← hH11]; exact (hg10.2.2.push _).put hg10.2.2.2.1 _
          have hb11 : H11.get H10.next = some (.row [.int .i64 ((0 : Nat) : Int), .str mt] 37 true false 0) := by rw [← hH11]; exact get_put_self _ _
          obtain ⟨r12, H12, hc12, h120, h121, hst12⟩ := next_ok (lf := lf) (n := n) hT11 (m := ((3 : Nat) : Int)) (by omega) (by omega) (by omega)
          obtain ⟨r12, rfl⟩ : ∃ k : Nat, r12 = (k : Int) := ⟨r12.toNat, by omega⟩
          have hb12 := (hst12.2.1 H10.next (by have := hg10.1; omega)).trans hb11
          have hn12 : H12.next = H11.next := hst12.1
          have hle10 := hg10.1
          refine stp trivial ?_
          refine kst trivial hc10 ?_
          refine stp (And.intro @htc @hH11) ?_
          refine kst trivial hc12 ?_
          refine stp trivial ?_
          refine EC_cut (fun ts H14 => Fr2 kb H10.next H12 H14 ∧ TapeOK M H14 kb ∧ ∃ (t : Tt), t ∈ pagL ∧ H14.get H10.next = some (.row (tCs t) 37 true false 0) ∧ ∃ z : Nat → SV, ts = ((.ptr kb 0) :: (.int .i64 ((1 : Nat) : Int)) :: z 2 :: z 3 :: (.ptr H.next 0) :: (.ptr H3.next 0) :: (tv) :: (.int .i64 (nt : Int)) :: (.int .i64 (i : Int)) :: (.ptr H10.next 0) :: z 10 :: z 11 :: z 12 :: z 13 :: z 14 :: z 15 :: z 16 :: z 17 :: z 18 :: z 19 :: z 20 :: z 21 :: z 22 :: z 23 :: z 24 :: z 25 :: z 26 :: z 27 :: z 28 :: z 29 :: z 30 :: z 31 :: z 32 :: z 33 :: z 34 :: z 35 :: z 36 :: z 37 :: z 38 :: z 39 :: z 40 :: z 41 :: z 42 :: z 43 :: z 44 :: z 45 :: z 46 :: z 47 :: z 48 :: z 49 :: z 50 :: z 51 :: z 52 :: z 53 :: z 54 :: z 55 :: z 56 :: z 57 :: z 58 :: z 59 :: z 60 :: z 61 :: z 62 :: z 63 :: z 64 :: [] : T) ∧ (True)) ?_ ?_
          · refine cst trivial (fun hc => ?_) (fun hc => ?_) <;> try simp only [decide_eq_true_eq, decide_eq_false_iff_not, not_true_eq_false, not_false_eq_true, Int.not_lt, Int.not_le, ge_iff_le, gt_iff_lt] at hc
            · obtain ⟨st, H13, hc13, hs13, hg13, hn13⟩ := of_lit (lf := lf) (n := n) hst12.2.2 5 (L := subT) rfl rfl (by decide) (by decide) (by omega)
              have hb13 := hg13.old (by omega) (by omega) hb12
              refine stp trivial ?_
              refine kst trivial hc13 ?_
              refine stp @hb13 ?_
              exact ⟨rfl, rfl, (hg13.fr2).put _, hg13.2.2.put (by omega) _, (3, st), subT_pag st hs13, get_put_self _ _, (frame_in (by rfl) (trivial))⟩
            · refine stp trivial ?_
              exact ⟨rfl, rfl, Fr2.refl .., hst12.2.2, (0, mt), mainL_pag mt hmt, hb12, (frame_in (by rfl) (trivial))⟩
          rintro ts' H14 ⟨hF14, hT14, t, ht, hb14, ⟨z, rfl, -⟩⟩
          have hF914 : Fr2 kb H10.next H9 H14 := hg10.fr2.trans (hE11.fr2.trans (hst12.gs'.fr2.trans hF14))
          have htv14 : RSl H14 tv 2 (ttL L) := ((htv.rsk (ttL_ref L) hg9.2.2.ref).keepN hle10 hF914).rsl
          have hle14 := hF914.1
          obtain ⟨v15, H15, hc15, hE15, hv15⟩ := putTit_ok (lf := lf) (n := n) htv14 hso.2 ht (by omega) (by omega) hlf
          have hrt : rowL (some (.row (tCs t) 37 true false 0)) 0 2 = some (tCs t) := rfl
          have hc15 : callS tabT lf n 19 [tv, .agg (tCs t)] H14 = some (v15, H15) := hc15
          refine stp (And.intro @hb14 @hrt) ?_
          refine kst trivial hc15 ?_
          refine stp (succ_w (k := i) (by omega)) ?_
          have hpl := putT_len L t
          refine loopR_normal (nt - (i + 1)) (by omega) ⟨rfl, ?_, putT' L t, v15, i + 1, rfl, by omega, by omega, sortT_put hso ht, hv15, (frame_in (by rfl) (trivial))⟩
          exact hg9.trans ((hF914.gs hle10 hT14).trans ⟨hE15.1, fun b hb _ => hE15.2 b hb, hT14.keep hE15.1 fun b hb => hE15.2 b (by have := hT14.2.1; omega)⟩)
        · have hin : i = nt := by omega
          subst hin
          refine stp trivial ?_
          have hp58 := (hst8.2.1 _ (by omega)).trans hp57
          have hp59 := hg9.old (by omega) (by omega) hp58
          have hq9 : RSl H9 qv 1 (strL Q) := (((hq7.rsk (strL_ref Q) hT7.ref).keep hst8.gs'.fr2).keep hg9.fr2).rsl
          refine EC_loop (I := I5b H9 M kb H.next H3.next H9.next L tv gv rv dv qv ((r3 * 80 : Nat) : Int)) ?_ L.length ?_ (by omega)
          · rintro m ts D H10 ⟨rfl, hF10, hT10, A, pv, rfl, hAl, hAt, hAo, hpv, htv10, hp510, ⟨z, rfl, -⟩⟩
            have hle10 := hF10.1
            have hlen := htv10.lenl
            rw [ttL_len] at hlen
            have hR10 : RefAt H10 H3.next := ⟨_, _, _, _, _, _, hp510, (hpv.rsl (pg_all A)).ref⟩
            refine stp @hlen ?_
            refine cst trivial (fun hc => ?_) (fun hc => ?_) <;> try simp only [decide_eq_true_eq, decide_eq_false_iff_not, not_true_eq_false, not_false_eq_true, Int.not_lt, Int.not_le, ge_iff_le, gt_iff_lt] at hc
            · have hAL : A.length < L.length := by omega
              obtain ⟨b, o, hi, hb, hrow, _⟩ := htv10.at_ (ttL_at (List.getElem?_eq_getElem hAL))
              have htake : L.take (A.length + 1) = L.take A.length ++ [L[A.length]] := by rw [List.take_succ, List.getElem?_eq_getElem hAL]; rfl
              have hrow : rowL (H10.get b) o 2 = some (tCs L[A.length]) := hrow
              have hLA : L[A.length]? = some L[A.length] := List.getElem?_eq_getElem hAL
              generalize L[A.length] = t at hrow htake hLA
              obtain ⟨t1, t2⟩ := t
              have hrow : rowL (H10.get b) o 2 = some [.int .i64 (t1 : Int), .str t2] := hrow
              obtain ⟨tx, H11, hc11, htx, hg11⟩ := text_ok (lf := lf) (n := n) hT10 (by omega) (by omega)
              obtain ⟨r12, H12, hc12, h120, h121, hst12⟩ := next_ok (lf := lf) (n := n) hg11.2.2 (m := ((9 : Nat) : Int)) (by omega) (by omega) (by omega)
              obtain ⟨r12, rfl⟩ : ∃ k : Nat, r12 = (k : Int) := ⟨r12.toNat, by omega⟩
              have htk10 := htv10.rsk (ttL_ref L) hT10.ref
              have htk11 := htk10.keep hg11.fr2
              have htk12 := htk11.keep hst12.gs'.fr2
              have hx : (ttL L)[A.length]? = some [.int .i64 (t1 : Int), .str t2] := by rw [ttL_at hLA]; rfl
              have hrow11 := htk11.rsl.row hi hx
              have hrow12 := htk12.rsl.row hi hx
              have hle11 := hg11.1
              have hn12 : H12.next = H11.next := hst12.1
              have hp511 := hg11.old (by omega) (by omega) hp510
              have hp512 := (hst12.2.1 _ (by omega)).trans hp511
              have hw3 : (((1 : Nat) : Int) + (r12 : Int)) = ((r12 + 1 : Nat) : Int) := by omega
              obtain ⟨H13, hH13⟩ : ∃ H13, H12.push (.row [.int .i64 (t1 : Int), .str t2, .str tx, .int .i64 (((1 : Nat) : Int) + (r12 : Int))] 40 true false 0) = H13 := ⟨_, rfl⟩
              have hE13 : Ext H12 H13 := by rw [← hH13]; exact (Ext.refl _).push _
              have hn13 : H13.next = H12.next + 1 := by rw [← hH13]; rfl
              have hlit : H13.get H12.next = some (.row (pgC ⟨(t1, t2), tx, r12 + 1⟩) 40 true false 0) := by rw [← hH13, pgC, ← hw3]; exact get_push_self _
              have hF12 : Fr2 kb H3.next H10 H12 := hg11.fr2.trans hst12.gs'.fr2
              have hF13 : Fr2 kb H3.next H10 H13 := hF12.trans hE13.fr2
              have hp513 := (hE13.2 _ (by omega)).trans hp512
              obtain ⟨v2, H14, ha2, hS14, hn14, hk14⟩ := app_more (hpv.keepF (by omega) (by omega) hF13) (pg_all A) (x := pgC ⟨(t1, t2), tx, r12 + 1⟩) rfl rfl hlit (by omega) (by rw [List.length_map]; omega) 48 (by omega)
              have hp514 := (hk14 _ (by omega)).trans hp513
              have hall14 : AllL 4 (A.map pgC ++ [pgC ⟨(t1, t2), tx, r12 + 1⟩]) := (pg_all (A ++ [⟨(t1, t2), tx, r12 + 1⟩])) |> fun h => by simpa using h
              have ho2 := (hS14.rsl hall14).one
              have hc2 := (hS14.rsl hall14).cells
              have hst := store_cell (o := 0) hp514 ho2 (by simp) (by omega)
              have pvb := (hpv.rsl (pg_all A)).bq
              have ttb : beqS (.agg [.int .i64 (t1 : Int), .str t2]) (.agg [.int .i64 (t1 : Int), .str t2]) = true := bq_tt (t1, t2)
              refine EC_skip (seqR_normal (EC_seq (EC_block (EC_draw rfl ?_))))
              refine stp (And.intro @hp510 (And.intro @hi @hrow)) ?_
              refine ED_call (by exact sfc trivial) hc11 (by (simp only [List.set_cons_zero, List.set_cons_succ]; with_reducible rfl)) ?_
              refine stp trivial ?_
              refine ED_call (by exact sfc trivial) hc12 (by (simp only [List.set_cons_zero, List.set_cons_succ]; with_reducible rfl)) ?_
              refine stp (And.intro @hH13 (And.intro @ha2 (And.intro @hc2 @hst))) ?_
              refine ⟨?_, fun h => (by cases h), _, (by simp only [List.getLast?_cons_cons, List.getLast?_singleton]; first | done | with_reducible rfl), ?_⟩
              · exact rdp (And.intro @hp510 (And.intro @hp511 (And.intro @hp512 (And.intro @hp513 (And.intro @hi (And.intro @hrow (And.intro @hrow11 (And.intro @hrow12 (And.intro @pvb @ttb)))))))))
              · refine stp (succ_w (k := A.length) (by omega)) ?_
                have hlen' : (A ++ [(⟨(t1, t2), tx, r12 + 1⟩ : Pg)]).length = A.length + 1 := by simp
                have hFp : Fr2 kb H3.next H14 (H14.put H3.next (.row [v2, gv, rv, dv, qv, .int .i64 ((r3 * 80 : Nat) : Int), .nils] 34 true false 0)) := (Fr2.refl ..).put _
                have hF914 : Fr2 kb H3.next H9 H14 := ⟨by omega, fun b hb h1 h2 => by rw [hk14 b hb]; exact (hF10.trans hF13).2 b hb h1 h2⟩
                have hT14 : TapeOK M H14 kb := (hst12.2.2.keep (hE13.1) fun b hb => hE13.2 b (by omega)).keep hn14 fun b hb => hk14 b (by omega)
                refine loopR_normal (L.length - (A.length + 1)) (by omega) ⟨rfl, hF914.trans hFp, hT14.put (by omega) _, A ++ [⟨(t1, t2), tx, r12 + 1⟩], v2, by rw [hlen'], by omega, ?_, fun x hx => ?_, ?_, ?_, get_put_self _ _, by rw [hlen']; exact (frame_in (by rfl) (trivial))⟩
                · rw [hlen', htake, List.map_append, hAt]; rfl
                · rcases List.mem_append.1 hx with h | h
                  · exact hAo x h
                  · rw [List.mem_singleton.1 h]; exact ⟨htx, by show 1 ≤ r12 + 1; omega⟩
                · have := hS14.keepF (by omega) (by omega) hFp
                  simpa using this
                · exact htv.keep2 (ttL_ref L) hg9.2.2.ref ⟨_, _, _, _, _, _, hp59, rfl⟩ (hF914.trans hFp)
            · have hAL : A.length = L.length := by omega
              have hp40 : H10.get H.next = some (.row [.nils, .nils, .nils, .nils, .nils, .int .i64 ((0 : Nat) : Int), .nils] 34 true false 0) := by
                rw [hF10.2 _ (by omega) (by omega) (by omega), hg9.2.1 _ (by omega) (by omega), hst8.2.1 _ (by omega), hF67.2 _ (by omega) (by omega) (by omega), hE6.2 _ (by omega), hg5.2.1 _ (by omega) (by omega), hE4.2 _ (by omega), hst3.2.1 _ (by omega), hg2.2.1 _ (by omega) (by omega)]
                exact hp4
              have po := (hpv.rsl (pg_all A)).one
              have qo := hq9.one
              have hall' : [pv, gv, rv, dv, qv, .int .i64 ((r3 * 80 : Nat) : Int), .nils].all SV.one = true := by
                simp only [List.all_cons, List.all_nil, po, go, ro, do_, qo]; rfl
              have hst10 : storeS 7 (.ptr H.next 0) [pv, gv, rv, dv, qv, .int .i64 ((r3 * 80 : Nat) : Int), .nils] H10 = some (H10.put H.next (.row [pv, gv, rv, dv, qv, .int .i64 ((r3 * 80 : Nat) : Int), .nils] 34 true false 0)) := by
                rw [store_ptr (n := 7) rfl, storeC_eq, hp40, sto_row (by simp) (by omega) hall']
                rfl
              have hFp : Fr2 kb H.next H10 (H10.put H.next (.row [pv, gv, rv, dv, qv, .int .i64 ((r3 * 80 : Nat) : Int), .nils] 34 true false 0)) := (Fr2.refl ..).put _
              have hTe : TapeOK M (H10.put H.next (.row [pv, gv, rv, dv, qv, .int .i64 ((r3 * 80 : Nat) : Int), .nils] 34 true false 0)) kb := hT10.put (by omega) _
              have hF210 : Fr2 kb H3.next H2 H10 := hF25.trans (hE6.fr2.trans (hF67.trans (hst8.gs'.fr2.trans (hg9.fr2.trans hF10))))
              have hq10 := hq9.keep2 (strL_ref Q) hg9.2.2.ref ⟨_, _, _, _, _, _, hp59, rfl⟩ hF10
              have hqe := hq10.keep2 (strL_ref Q) hT10.ref ⟨_, _, _, _, _, _, hp40, rfl⟩ hFp
              have hAtt : A.map Pg.t = L := by rw [hAt, hAL, List.take_length]
              have hmm : ∀ x ∈ A, x.t ∈ pagL := fun x hx => hso.2 _ (by rw [← hAtt]; exact List.mem_map_of_mem hx)
              refine stp @hp510 ?_
              refine EO_opN (v := .undef) (H' := H10.put H.next (.row [pv, gv, rv, dv, qv, .int .i64 ((r3 * 80 : Nat) : Int), .nils] 34 true false 0)) (by simp only [go_sem, SV.cells, hst10]) ?_
              refine stp trivial ?_
              refine ret1 trivial ?_
              refine (⟨⟨?_, fun b hb hbk => ?_, hTe⟩, pv, gv, rv, dv, qv, _, A, nn, G, R, E, Q, rfl, by omega, hmm, ⟨?_, hAo, by omega, fun x hx => List.mem_cons_of_mem _ (hmm x hx), by rw [hAtt]; exact hso.1, ?_, ?_, hQ, by omega, by omega⟩⟩)
              · rw [next_put]; omega
              · rw [get_put_other (by omega), hF10.2 _ (by omega) (by omega) (by omega), hg9.2.1 _ (by omega) (by omega), hst8.2.1 _ (by omega), hF67.2 _ (by omega) (by omega) (by omega), hE6.2 _ (by omega), hg5.2.1 _ (by omega) (by omega), hE4.2 _ (by omega), hst3.2.1 _ (by omega), hg2.2.1 _ (by omega) (by omega)]
                exact hE1.2 b hb
              · exact ((hpv.keepF (by omega) (by omega) hFp).rb (B := H9.next) (Nat.le_refl _) (pg_all A)).rsk (by omega)
              · exact hpol.r.imp fun v z L h => ((h.keep (by omega) (.inr (by omega)) hF210).keep (by omega) (.inl (by omega)) hFp).rsk (by omega)
              · exact hqe.rsk (strL_ref Q) hTe.ref
          · exact ⟨rfl, Fr2.refl .., hg9.2.2, [], .nils, by simp, by simp, rfl, (fun x h => by cases h), Sl.nil, htv, hp59, (frame_in (by rfl) (trivial))⟩
      · exact ⟨rfl, GS.refl hst8.2.2, [], .nils, 0, rfl, by omega, by simp, ⟨List.Pairwise.nil, fun t h => by cases h⟩, ⟨(fun _ h => by cases h), .inl ⟨rfl, rfl⟩⟩, (frame_in (by rfl) (trivial))⟩
  exact key
end
end Go.Sh
end
