/-
  The contracts of the library that the proof leans on, laid at this program: which of its functions, types and variables they speak of; each field a fact of the program.
  The functions of the tables that are given by what they answer: search, comparison and joining of strings.
  The functions of the library that are given by what they answer, at this program; and the deferred function that recovers.
-/
import Derived.Shelf.Strings.Shaped
import Derived.Shelf.Small.Strs
import Derived.Shelf.Strings.OnBuilder
import Derived.Test.YtnhogklhegmjhaaGreatDoorProg
import Derived.Test.YtnhogklhegmjhaaGreatDoorShB3
import Derived.Test.YtnhogklhegmjhaaGreatDoorShA6
import Derived.Lib.Strings
import Derived.Lib.Join
import Derived.Lib.Index
import Derived.Lib.Bytealg
import Derived.Recover
import Derived.Tactics2
set_option linter.all false
section
namespace Go.Proofs
open Go.Shelf
def Tryz.lays143_ren : Go.Shelf.Ren := ⟨fun | 143 => 176 | 219 => 250 | 217 => 86 | 225 => 292 | 224 => 293 | 267 => 294 | 266 => 148 | 314 => 334 | n => n, fun | 9 => 9 | 3 => 3 | 4 => 4 | 5 => 5 | 46 => 107 | 146 => 364 | 51 => 292 | n => n, fun | 1 => 0 | n => n⟩
theorem Tryz.lays143 : Go.Proofs.LaysM.n143 Tryz.prog Tryz.lays143_ren := {
  mixed := by kernel_rfl
  f143 := Tryz.func176.trans (congrArg some (by kernel_rfl))
  f217 := Tryz.func86.trans (congrArg some (by kernel_rfl))
  f219 := Tryz.func250.trans (congrArg some (by kernel_rfl))
  f224 := Tryz.func293.trans (congrArg some (by kernel_rfl))
  f225 := Tryz.func292.trans (congrArg some (by kernel_rfl))
  f266 := Tryz.func148.trans (congrArg some (by kernel_rfl))
  f267 := Tryz.func294.trans (congrArg some (by kernel_rfl))
  f314 := Tryz.func334.trans (congrArg some (by kernel_rfl))
  t3 := Tryz.underlying3
  a3 := Tryz.isAgg3
  z3 := Tryz.sizeOf3
  v3 := Tryz.zeroValue3
  t4 := Tryz.underlying4
  a4 := Tryz.isAgg4
  z4 := Tryz.sizeOf4
  v4 := Tryz.zeroValue4
  t5 := Tryz.underlying5
  a5 := Tryz.isAgg5
  z5 := Tryz.sizeOf5
  v5 := Tryz.zeroValue5
  t9 := Tryz.underlying9
  a9 := Tryz.isAgg9
  z9 := Tryz.sizeOf9
  v9 := Tryz.zeroValue9
  t46 := Tryz.underlying107
  a46 := Tryz.isAgg107
  z46 := Tryz.sizeOf107
  v46 := Tryz.zeroValue107
  t51 := Tryz.underlying292
  a51 := Tryz.isAgg292
  z51 := Tryz.sizeOf292
  v51 := Tryz.zeroValue292
  t146 := Tryz.underlying364
  a146 := Tryz.isAgg364
  z146 := Tryz.sizeOf364
  v146 := Tryz.zeroValue364
  g1 := by kernel_rfl
  i3 := by kernel_rfl
  i4 := by kernel_rfl
  i5 := by kernel_rfl
  i9 := by kernel_rfl
  i46 := by kernel_rfl
  i51 := by kernel_rfl
  i146 := by kernel_rfl
  m1 := by kernel_rfl
  s1_3 := fun w h => Go.Proofs.cell_of_shapedOpen_int (zero := #[.int .i64 0]) (t := 3) h (of_decide_eq_true (by kernel_rfl)) (by kernel_rfl) rfl (by kernel_rfl) (by kernel_rfl) Tryz.underlying3 }
def Tryz.lays106_ren : Go.Shelf.Ren := ⟨fun | 106 => 120 | 213 => 198 | 265 => 264 | n => n, fun | 9 => 9 | 3 => 3 | n => n, fun | n => n⟩
theorem Tryz.lays106 : Go.Proofs.Lays.n106 Tryz.prog Tryz.lays106_ren := {
  mixed := by kernel_rfl
  f106 := Tryz.func120.trans (congrArg some (by kernel_rfl))
  f213 := Tryz.func198.trans (congrArg some (by kernel_rfl))
  f265 := Tryz.func264.trans (congrArg some (by kernel_rfl))
  t3 := Tryz.underlying3
  a3 := Tryz.isAgg3
  z3 := Tryz.sizeOf3
  v3 := Tryz.zeroValue3
  t9 := Tryz.underlying9
  a9 := Tryz.isAgg9
  z9 := Tryz.sizeOf9
  v9 := Tryz.zeroValue9 }
def Tryz.lays156_ren : Go.Shelf.Ren := ⟨fun | 156 => 31 | 165 => 78 | 166 => 35 | 169 => 40 | 240 => 84 | 241 => 140 | 276 => 147 | 277 => 228 | n => n, fun | 31 => 31 | 9 => 9 | 3 => 3 | 4 => 4 | 0 => 0 | 20 => 20 | 72 => 99 | 76 => 102 | 70 => 96 | 37 => 97 | 75 => 101 | 127 => 180 | 164 => 257 | 5 => 5 | 80 => 65 | n => n, fun | n => n⟩
theorem Tryz.lays156 : Go.Proofs.Lays.n156 Tryz.prog Tryz.lays156_ren := {
  mixed := by kernel_rfl
  f156 := Tryz.func31.trans (congrArg some (by kernel_rfl))
  f165 := Tryz.func78.trans (congrArg some (by kernel_rfl))
  f166 := Tryz.func35.trans (congrArg some (by kernel_rfl))
  f169 := Tryz.func40.trans (congrArg some (by kernel_rfl))
  f240 := Tryz.func84.trans (congrArg some (by kernel_rfl))
  f241 := Tryz.func140.trans (congrArg some (by kernel_rfl))
  f276 := Tryz.func147.trans (congrArg some (by kernel_rfl))
  f277 := Tryz.func228.trans (congrArg some (by kernel_rfl))
  t0 := Tryz.underlying0
  a0 := Tryz.isAgg0
  z0 := Tryz.sizeOf0
  v0 := Tryz.zeroValue0
  t3 := Tryz.underlying3
  a3 := Tryz.isAgg3
  z3 := Tryz.sizeOf3
  v3 := Tryz.zeroValue3
  t4 := Tryz.underlying4
  a4 := Tryz.isAgg4
  z4 := Tryz.sizeOf4
  v4 := Tryz.zeroValue4
  t9 := Tryz.underlying9
  a9 := Tryz.isAgg9
  z9 := Tryz.sizeOf9
  v9 := Tryz.zeroValue9
  t20 := Tryz.underlying20
  a20 := Tryz.isAgg20
  z20 := Tryz.sizeOf20
  v20 := Tryz.zeroValue20
  t31 := Tryz.underlying31
  a31 := Tryz.isAgg31
  z31 := Tryz.sizeOf31
  v31 := Tryz.zeroValue31
  t37 := Tryz.underlying97
  a37 := Tryz.isAgg97
  z37 := Tryz.sizeOf97
  v37 := Tryz.zeroValue97
  t70 := Tryz.underlying96
  a70 := Tryz.isAgg96
  z70 := Tryz.sizeOf96
  v70 := Tryz.zeroValue96
  t72 := Tryz.underlying99
  a72 := Tryz.isAgg99
  z72 := Tryz.sizeOf99
  v72 := Tryz.zeroValue99
  t75 := Tryz.underlying101
  a75 := Tryz.isAgg101
  z75 := Tryz.sizeOf101
  v75 := Tryz.zeroValue101
  t76 := Tryz.underlying102
  a76 := Tryz.isAgg102
  z76 := Tryz.sizeOf102
  v76 := Tryz.zeroValue102
  t127 := Tryz.underlying180
  a127 := Tryz.isAgg180
  z127 := Tryz.sizeOf180
  v127 := Tryz.zeroValue180
  t164 := Tryz.underlying257
  a164 := Tryz.isAgg257
  z164 := Tryz.sizeOf257
  v164 := Tryz.zeroValue257 }
theorem Tryz.extra156 : Builder.Extra Tryz.prog Tryz.lays156_ren := {
  sizeBuilder := by kernel_rfl
  liesBuilder := by kernel_rfl
  t5 := Tryz.underlying5
  a5 := Tryz.isAgg5
  z5 := Tryz.sizeOf5
  v5 := Tryz.zeroValue5
  infoByte := by kernel_rfl
  cellsByte := by kernel_rfl
  sizeByte := by kernel_rfl
  neB5 := by decide }
end Go.Proofs
end
section
namespace Go.Sh
open Go.Proofs
open Go.RowKit (Below)
def ground : Ground where
  p := fun _ B w => 0 < B ∧ ∃ m, w.cell? ⟨0, 0, none⟩ = some (.int .i64 m)
  st := fun _ _ _ _ _ h _ hb => ⟨h.1, h.2.elim fun m hm => ⟨m, (hb.cell (p := ⟨0, 0, none⟩) h.1).trans hm⟩⟩
theorem ground_up : ground.up := fun _ _ _ _ _ h _ hp => ⟨Nat.lt_of_lt_of_le hp.1 h, hp.2⟩
def NatOK (P : Program) (f : FuncId) (g : List SV → Heap → Option (SV × Heap)) : Prop :=
  enterable P f = true ∧ ∀ args H v H', g args H = some (v, H') → ∀ φ B w (args' : Array Value), VRL φ args args'.toList → HG ground φ B H w → Calls P f args' w (CPost φ B H w v H')
theorem beq_u8 (a b : UInt8) : Nat.beq a.toNat b.toNat = (a == b) := by
  rw [Bool.eq_iff_iff, Nat.beq_eq, beq_iff_eq]
  exact ⟨fun h => UInt8.toNat.inj h, fun h => by rw [h]⟩
theorem pre_eq : ∀ (sub s : List UInt8), pre (sub.map UInt8.toNat) (s.map UInt8.toNat) = sub.isPrefixOf s
  | [], _ => by simp [pre]
  | _ :: _, [] => by simp [pre]
  | a :: l, b :: s => by
    simp only [List.map_cons, pre, beq_u8, pre_eq l s, List.isPrefixOf]
theorem ixs_nil (sub : List Nat) (i : Nat) : ixs [] sub i = match pre sub [] with | true => Int.ofNat i | false => -1 := by
  rw [ixs.eq_def]
  cases h : pre sub [] <;> simp [h]
theorem ixs_cons (b : Nat) (s sub : List Nat) (i : Nat) : ixs (b :: s) sub i = match pre sub (b :: s) with | true => Int.ofNat i | false => ixs s sub (i + 1) := by
  rw [ixs.eq_def]
  cases h : pre sub (b :: s) <;> simp [h]
theorem ixs_eq : ∀ (s sub : List UInt8) (i : Nat), ixs (s.map UInt8.toNat) (sub.map UInt8.toNat) i = if Lib.index s sub == -1 then -1 else Lib.index s sub + i
  | [], sub, i => by
    have h := pre_eq sub []
    rw [List.map_nil] at h
    rw [List.map_nil, ixs_nil, h, Lib.index]
    cases sub with
    | nil => simp
    | cons a l => simp
  | b :: s, sub, i => by
    have h := pre_eq sub (b :: s)
    rw [List.map_cons] at h
    rw [List.map_cons, ixs_cons, h, ixs_eq s sub (i + 1), Lib.index]
    cases h : sub.isPrefixOf (b :: s) with
    | true => simp
    | false =>
      have hg := Lib.index_ge s sub
      simp only [Bool.false_eq_true, if_false]
      by_cases h1 : Lib.index s sub = -1
      · simp [h1]
      · have h2 : ¬ Lib.index s sub + 1 = -1 := by omega
        simp only [beq_iff_eq, h1, h2, if_false]
        omega
theorem ixs_index (s sub : List UInt8) : ixs (s.map UInt8.toNat) (sub.map UInt8.toNat) 0 = Lib.index s sub := by
  rw [ixs_eq]
  split
  · rename_i h
    exact (eq_of_beq h).symm
  · simp
theorem natIndex_ok {P : Program} {f : FuncId} (he : enterable P f = true)
    (hc : ∀ (s sub : ByteArray) (m : Int) (w : World), s.size < 4294967281 → w.cell? ⟨0, 0, none⟩ = some (.int .i64 m) → Calls P f #[.string s, .string sub] w fun e w' => e = .returned (.int .i64 (Lib.index s.data.toList sub.data.toList)) ∧ w' = w) :
    NatOK P f natIndex := by
  refine ⟨he, fun args H v H' hv φ B w args' ha hh => ?_⟩
  unfold natIndex at hv
  split at hv
  · rename_i s sub
    split at hv
    · rename_i hlt
      cases hv
      obtain ⟨l⟩ := args'
      cases ha with
      | cons h1 h2 =>
        cases h2 with
        | cons h3 h4 =>
          cases h4
          cases h1 with
          | str h5 =>
            cases h3 with
            | str h6 =>
              rename_i a b
              subst h5 h6
              obtain ⟨_, m, hm⟩ := hh.2
              refine (hc a b m w ?_ hm).mono ?_
              · rw [Nat.blt_eq, List.length_map] at hlt
                exact hlt
              · rintro e w' ⟨rfl, rfl⟩
                rw [ixs_index]
                exact ⟨Nat.le_refl _, φ, _, Emb.ext.refl φ _, rfl, .int _ _, hh.1, Below.refl _ _⟩
    · cases hv
  · cases hv
theorem cmpS_eq : ∀ (a b : List UInt8), cmpS (a.map UInt8.toNat) (b.map UInt8.toNat) = Lib.compareBytes a b
  | [], [] => rfl
  | [], _ :: _ => rfl
  | _ :: _, [] => rfl
  | a :: x, b :: y => by
    have ih := cmpS_eq x y
    unfold cmpS at ih ⊢
    simp only [List.map_cons, eqS, ltS, Lib.compareBytes]
    by_cases hab : a = b
    · subst hab
      have h1 : Nat.beq a.toNat a.toNat = true := by rw [Nat.beq_eq]
      have h2 : Nat.blt a.toNat a.toNat = false := by rw [Bool.eq_false_iff]; intro h; rw [Nat.blt_eq] at h; omega
      have h3 : ¬ a < a := by rw [UInt8.lt_iff_toNat_lt]; omega
      rw [h1, h2, Bool.true_and, Bool.true_and, Bool.false_or, if_neg h3, if_neg h3]
      exact ih
    · have hne : a.toNat ≠ b.toNat := fun h => hab (UInt8.toNat.inj h)
      have h1 : Nat.beq a.toNat b.toNat = false := by rw [Bool.eq_false_iff]; intro h; rw [Nat.beq_eq] at h; exact hne h
      rw [h1, Bool.false_and, Bool.false_and, Bool.or_false]
      by_cases hlt : a.toNat < b.toNat
      · have h2 : Nat.blt a.toNat b.toNat = true := by rw [Nat.blt_eq]; exact hlt
        rw [h2, if_pos (by rw [UInt8.lt_iff_toNat_lt]; exact hlt)]
      · have h2 : Nat.blt a.toNat b.toNat = false := by rw [Bool.eq_false_iff]; intro h; rw [Nat.blt_eq] at h; exact hlt h
        rw [h2, if_neg (by rw [UInt8.lt_iff_toNat_lt]; exact hlt), if_pos (by rw [UInt8.lt_iff_toNat_lt]; omega)]
theorem natCmp_ok {P : Program} {f : FuncId} (he : enterable P f = true)
    (hc : ∀ (a b : ByteArray) (w : World), Calls P f #[.string a, .string b] w fun e w' => e = .returned (.int .i64 (Lib.compareBytes a.data.toList b.data.toList)) ∧ w' = w) :
    NatOK P f natCmp := by
  refine ⟨he, fun args H v H' hv φ B w args' ha hh => ?_⟩
  unfold natCmp at hv
  split at hv
  · cases hv
    obtain ⟨l⟩ := args'
    cases ha with
    | cons h1 h2 =>
      cases h2 with
      | cons h3 h4 =>
        cases h4
        cases h1 with
        | str h5 =>
          cases h3 with
          | str h6 =>
            rename_i a b
            subst h5 h6
            refine (hc a b w).mono ?_
            rintro e w' ⟨rfl, rfl⟩
            rw [cmpS_eq]
            exact ⟨Nat.le_refl _, φ, _, Emb.ext.refl φ _, rfl, .int _ _, hh.1, Below.refl _ _⟩
  · cases hv
def lstB (b : ByteArray) : List Nat := b.data.toList.map UInt8.toNat
theorem strsOf_ok {φ : Emb} : ∀ {cs : List SV} {xs : List (List Nat)} {f : Nat → Option Value}, strsOf cs = some xs → (∀ i x, cs[i]? = some x → ∃ v, f i = some v ∧ VR φ x v) →
    ∃ bs : List ByteArray, bs.length = cs.length ∧ xs = bs.map lstB ∧ ∀ i b, bs[i]? = some b → f i = some (.string b)
  | [], _, _, h, _ => by
    cases h
    exact ⟨[], rfl, rfl, fun i b h => by simp at h⟩
  | c :: cs, xs, f, h, hf => by
    obtain ⟨v, hv, hr⟩ := hf 0 c rfl
    cases c with
    | str s =>
      simp only [strsOf] at h
      split at h
      · rename_i r hs
        cases h
        obtain ⟨bs, h1, h2, h3⟩ := strsOf_ok (f := fun i => f (i + 1)) hs fun i x hx => hf (i + 1) x hx
        cases hr with
        | str hr =>
          rename_i b
          refine ⟨b :: bs, by simp [h1], by rw [List.map_cons, ← h2, hr]; rfl, fun i b' hb => ?_⟩
          cases i with
          | zero => cases hb; exact hv
          | succ i => exact h3 i b' hb
      · cases h
    | _ => cases h
theorem joinS_eq (sep : List UInt8) (bs : List ByteArray) : joinS (sep.map UInt8.toNat) (bs.map lstB) = (Lib.join (bs.map (·.data.toList)) sep).map UInt8.toNat := by
  cases bs with
  | nil => rfl
  | cons b r =>
    rw [List.map_cons, List.map_cons, Lib.join_cons, joinS, List.map_append, Lib.joinTail, List.map_flatten]
    congr 2
    simp only [List.map_map]
    apply List.map_congr_left
    intro x _
    simp [lstB]
theorem natJoin_ok {P : Program} {f : FuncId} (he : enterable P f = true)
    (h0 : ∀ (a : Option Addr) (c : Nat) (sep : ByteArray) (w : World), Calls P f #[.slice a 0 c, .string sep] w fun e w' => e = .returned (.string ⟨#[]⟩) ∧ w' = w)
    (hj : ∀ (bk o c : Nat) (xs : List ByteArray) (sep : ByteArray) (w : World), (∀ (j : Nat) x, xs[j]? = some x → w.cell? ⟨bk, o + j, none⟩ = some (.string x)) → bk < w.heap.size → xs.length ≤ 140737488355328 → xs.length ≤ c →
      (Lib.join (xs.map (·.data.toList)) sep.data.toList).length ≤ 140737488355328 →
      Calls P f #[.slice (some ⟨bk, o, none⟩) xs.length c, .string sep] w fun e w' => e = .returned (.string ⟨(Lib.join (xs.map (·.data.toList)) sep.data.toList).toArray⟩) ∧ Below w.heap.size w w') :
    NatOK P f natJoin := by
  refine ⟨he, fun args H v H' hv φ B w args' ha hh => ?_⟩
  unfold natJoin at hv
  split at hv
  · rename_i b n c sep
    split at hv
    · rename_i cs e ex ro frz hb
      split at hv
      · rename_i hn
        simp only [Bool.and_eq_true, Nat.blt_eq, Nat.beq_eq] at hn
        obtain ⟨hn1, hn2⟩ := hn
        split at hv
        · rename_i xs hxs
          split at hv
          · rename_i hjl
            cases hv
            rw [Nat.blt_eq] at hjl
            obtain ⟨l⟩ := args'
            cases ha with
            | cons h1 h2 =>
              cases h2 with
              | cons h3 h4 =>
                cases h4
                cases h3 with
                | str h6 =>
                  rename_i sp
                  subst h6
                  cases h1 with
                  | slice k1 k2 k3 k4 =>
                    rename_i cap l
                    have ho := hh.1.obj b l k1
                    have hd := hh.1.dom b l k1
                    rw [hb] at ho
                    cases ho with
                    | row q1 q2 q3 q4 q5 q6 q7 =>
                      rename_i C lo hi
                      obtain ⟨bs, b1, b2, b3⟩ := strsOf_ok hxs q3
                      subst b2
                      rw [joinS_eq] at hjl ⊢
                      rw [List.length_map] at hjl
                      obtain rfl : n = bs.length := by omega
                      refine (hj l.rb (l.base + 0) cap bs sp w (fun j x hx => ?_) hd.2 (by omega) k3 (by omega)).mono ?_
                      · rw [cell?_at w l.rb _ C e (lo, hi) q1, Nat.add_zero]
                        exact b3 j x hx
                      · rintro e' w' ⟨rfl, hbl⟩
                        exact ⟨Nat.le_refl _, φ, _, Emb.ext.refl φ _, rfl, .str rfl, hh.1.world hbl.size fun k hk => hbl.block k hk, hbl.mono hh.1.sz⟩
                  | slice0 k1 =>
                    rename_i cap
                    obtain rfl : cs = [] := List.length_eq_zero_iff.1 hn2
                    cases hxs
                    refine (h0 _ _ _ w).mono ?_
                    rintro e' w' ⟨rfl, rfl⟩
                    exact ⟨Nat.le_refl _, φ, _, Emb.ext.refl φ _, rfl, .str rfl, hh.1, Below.refl _ _⟩
          · cases hv
        · cases hv
      · cases hv
    · cases hv
  · cases hv
end Go.Sh
end
section
namespace Go.Sh
open Go.Proofs
open Go Go.RowKit
theorem nat176 : NatOK Tryz.prog 176 natIndex :=
  natIndex_ok (by kernel_rfl) fun s sub m w hs hm => Any.strings_Index (ρ := Tryz.lays143_ren) { Tryz.lays143 with } s sub m w hs hm
theorem nat250 : NatOK Tryz.prog 250 natIndex :=
  natIndex_ok (by kernel_rfl) fun s sub m w hs hm => Any.stringslite_Index (ρ := Tryz.lays143_ren) { Tryz.lays143 with } s sub m w hs hm
theorem nat120 : NatOK Tryz.prog 120 natCmp :=
  natCmp_ok (by kernel_rfl) fun a b w => Any.strings_Compare (ρ := Tryz.lays106_ren) Tryz.lays106 a b w
theorem nat31 : NatOK Tryz.prog 31 natJoin :=
  natJoin_ok (by kernel_rfl) (fun a c sep w => Any.strings_Join_none (ρ := Tryz.lays156_ren) Tryz.lays156 Tryz.extra156 a c sep w)
    fun bk o c xs sep w h1 h2 h3 h4 h5 => Any.strings_Join (ρ := Tryz.lays156_ren) Tryz.lays156 Tryz.extra156 bk o c xs sep w h1 h2 h3 h4 h5
theorem d99 : enterable Tryz.prog 99 = true ∧ ∀ args, (fun _ : List SV => true) args = true → ∀ φ B H w (args' : Array Value), VRL φ args args'.toList → HG ground φ B H w → CallsD Tryz.prog 99 args' .returning w (DPost φ B H w H) := by
  refine ⟨by kernel_rfl, fun args _ φ B H w args' _ hh => ?_⟩
  refine callsD_of_wpS Tryz.func99 rfl fun c₀ cs hu => ?_
  obtain ⟨A, hA⟩ : ∃ A, args' ++ Array.replicate (Tryz.f99.ntmps - args'.size) Go.undef = A := ⟨_, rfl⟩
  have hs : 15 ≤ A.size := by
    rw [← hA, Array.size_append, Array.size_replicate]
    have : Tryz.f99.ntmps = 15 := rfl
    omega
  rw [hA]
  apply wpS_seq
  apply wpS_region
  simp [wpOpsS, go_sem, recoverD, hu, Exit.thenS]
  rw [if_pos (by omega : 4 < A.size)]
  obtain ⟨A2, hA2⟩ : ∃ A2, (A.setIfInBounds 4 Value.nilIface).setIfInBounds 1 Value.nilIface = A2 := ⟨_, rfl⟩
  have hs2 : 15 ≤ A2.size := by
    rw [← hA2, Array.size_setIfInBounds, Array.size_setIfInBounds]
    exact hs
  have h21 : A2[1]? = some Value.nilIface := by
    rw [← hA2, Array.getElem?_setIfInBounds, if_pos rfl, if_pos (by rw [Array.size_setIfInBounds]; omega)]
  rw [hA2]
  apply wpS_seq
  apply wpS_region
  have h5 : (if 5 < A2.size then Value.nilIface else Go.undef) = Value.nilIface := if_pos (by omega)
  simp [wpOpsS, go_sem, Exit.thenS, h21, h5]
  refine wpS_cond (t := false) (by simp [Act.eval]; omega) ?_
  simp only [Bool.false_eq_true, if_false]
  refine wpS_of_wp (wp_skip ?_)
  refine ⟨rfl, .returning, ?_, .tuple #[], ?_, rfl, Nat.le_refl _, φ, _, Emb.ext.refl φ _, rfl, hh.1, Below.refl _ _⟩
  · cases c₀
    cases hu
    rfl
  · simp [results]
end Go.Sh
end
