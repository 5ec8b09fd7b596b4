/-
  The contracts of the library that the proof leans on, laid at this program: which of its functions, types and variables they speak of; each field a fact of the program.
  The functions of the table that are given by what they answer: the search for a string in a string.
  The functions of the table that are given by what they answer: the sorted keys of a map that holds nothing, and the deferred function that recovers.
-/
import Derived.Shelf.Strings.Shaped
import Derived.Shelf.SlIter.Nil
import Derived.Shelf.SortM.Plain
import Derived.Shelf.SortM.SortNone
import Derived.Ground.GgzProg
import Derived.Ground.SlgmProg
import Derived.Shelf.SlGeneric
import Derived.Test.YtpcpmplkblbpbaaGreatDoorProg
import Derived.Test.YtpcpmplkblbpbaaGreatDoorShB3
import Derived.Test.YtpcpmplkblbpbaaGreatDoorShA6
import Derived.Recover
import Derived.Tactics2
set_option linter.all false
section
namespace Go.Proofs
open Go.Shelf
def Tryz.lays143_ren : Go.Shelf.Ren := ⟨fun | 143 => 104 | 219 => 175 | 217 => 97 | 225 => 259 | 224 => 260 | 267 => 261 | 266 => 163 | 314 => 309 | n => n, fun | 9 => 9 | 3 => 3 | 4 => 4 | 5 => 5 | 46 => 272 | 146 => 419 | 51 => 348 | n => n, fun | 1 => 0 | n => n⟩
theorem Tryz.lays143 : Go.Proofs.LaysM.n143 Tryz.prog Tryz.lays143_ren := {
  mixed := by kernel_rfl
  f143 := Tryz.func104.trans (congrArg some (by kernel_rfl))
  f217 := Tryz.func97.trans (congrArg some (by kernel_rfl))
  f219 := Tryz.func175.trans (congrArg some (by kernel_rfl))
  f224 := Tryz.func260.trans (congrArg some (by kernel_rfl))
  f225 := Tryz.func259.trans (congrArg some (by kernel_rfl))
  f266 := Tryz.func163.trans (congrArg some (by kernel_rfl))
  f267 := Tryz.func261.trans (congrArg some (by kernel_rfl))
  f314 := Tryz.func309.trans (congrArg some (by kernel_rfl))
  t3 := Tryz.underlying3
  a3 := Tryz.isAgg3
  z3 := Tryz.sizeOf3
  v3 := Tryz.zeroValue3
  t4 := Tryz.underlying4
  a4 := Tryz.isAgg4
  z4 := Tryz.sizeOf4
  v4 := Tryz.zeroValue4
  t5 := Tryz.underlying5
  a5 := Tryz.isAgg5
  z5 := Tryz.sizeOf5
  v5 := Tryz.zeroValue5
  t9 := Tryz.underlying9
  a9 := Tryz.isAgg9
  z9 := Tryz.sizeOf9
  v9 := Tryz.zeroValue9
  t46 := Tryz.underlying272
  a46 := Tryz.isAgg272
  z46 := Tryz.sizeOf272
  v46 := Tryz.zeroValue272
  t51 := Tryz.underlying348
  a51 := Tryz.isAgg348
  z51 := Tryz.sizeOf348
  v51 := Tryz.zeroValue348
  t146 := Tryz.underlying419
  a146 := Tryz.isAgg419
  z146 := Tryz.sizeOf419
  v146 := Tryz.zeroValue419
  g1 := by kernel_rfl
  i3 := by kernel_rfl
  i4 := by kernel_rfl
  i5 := by kernel_rfl
  i9 := by kernel_rfl
  i46 := by kernel_rfl
  i51 := by kernel_rfl
  i146 := by kernel_rfl
  m1 := by kernel_rfl
  s1_3 := fun w h => Go.Proofs.cell_of_shapedOpen_int (zero := #[.int .i64 0]) (t := 3) h (of_decide_eq_true (by kernel_rfl)) (by kernel_rfl) rfl (by kernel_rfl) (by kernel_rfl) Tryz.underlying3 }
def Tryz.keysA_ren : Go.Shelf.Ren := ⟨fun | 7 => 407 | 10 => 449 | n => n, fun | 23 => 518 | 26 => 9 | 3 => 9 | 28 => 521 | 0 => 0 | 27 => 520 | 33 => 222 | 4 => 4 | n => n, fun | n => n⟩
theorem Tryz.keysA : Go.Proofs.SlLaysZ.n7 Tryz.prog Tryz.keysA_ren := {
  mixed := by kernel_rfl
  f7 := ⟨Tryz.f407.name, by decide, Tryz.func407.trans (congrArg some (by kernel_rfl))⟩
  f10 := ⟨Tryz.f449.name, by decide, Tryz.func449.trans (congrArg some (by kernel_rfl))⟩
  t0 := Tryz.underlying0
  a0 := Tryz.isAgg0
  z0 := Tryz.sizeOf0
  v0 := Tryz.zeroValue0
  t4 := Tryz.underlying4
  a4 := Tryz.isAgg4
  z4 := Tryz.sizeOf4
  v4 := Tryz.zeroValue4
  t23 := Tryz.underlying518
  a23 := Tryz.isAgg518
  z23 := Tryz.sizeOf518
  v23 := Tryz.zeroValue518
  t26 := Tryz.underlying9
  a26 := Tryz.isAgg9
  z26 := Tryz.sizeOf9
  v26 := Tryz.zeroValue9
  t27 := Tryz.underlying520
  a27 := Tryz.isAgg520
  z27 := Tryz.sizeOf520
  v27 := Tryz.zeroValue520
  t28 := Tryz.underlying521
  a28 := Tryz.isAgg521
  z28 := Tryz.sizeOf521
  v28 := Tryz.zeroValue521
  t33 := Tryz.underlying222
  a33 := Tryz.isAgg222
  z33 := Tryz.sizeOf222
  v33 := Tryz.zeroValue222 }
def Tryz.sortedA_ren : Go.Shelf.Ren := ⟨fun | 6 => 406 | 8 => 447 | 9 => 448 | 11 => 491 | 13 => 143 | 12 => 492 | 23 => 225 | 24 => 226 | 14 => 512 | 15 => 513 | 16 => 514 | 17 => 515 | 18 => 516 | 19 => 517 | 20 => 518 | 21 => 519 | 22 => 520 | 25 => 523 | 26 => 286 | 27 => 287 | 28 => 524 | 29 => 525 | 30 => 526 | 31 => 528 | n => n, fun | 26 => 9 | 28 => 521 | 24 => 26 | 0 => 0 | 3 => 3 | 37 => 272 | 48 => 348 | 50 => 350 | 4 => 4 | 40 => 342 | 39 => 341 | 45 => 283 | 5 => 5 | 9 => 9 | 51 => 386 | 55 => 390 | 57 => 437 | 58 => 321 | 33 => 222 | n => n, fun | n => n⟩
theorem Tryz.sortedA : Go.Proofs.SlLaysZ.n6 Tryz.prog Tryz.sortedA_ren := {
  mixed := by kernel_rfl
  f6 := ⟨Tryz.f406.name, by decide, Tryz.func406.trans (congrArg some (by kernel_rfl))⟩
  f8 := ⟨Tryz.f447.name, by decide, Tryz.func447.trans (congrArg some (by kernel_rfl))⟩
  f11 := ⟨Tryz.f491.name, by decide, Tryz.func491.trans (congrArg some (by kernel_rfl))⟩
  t0 := Tryz.underlying0
  a0 := Tryz.isAgg0
  z0 := Tryz.sizeOf0
  v0 := Tryz.zeroValue0
  t24 := Tryz.underlying26
  a24 := Tryz.isAgg26
  z24 := Tryz.sizeOf26
  v24 := Tryz.zeroValue26
  t26 := Tryz.underlying9
  a26 := Tryz.isAgg9
  z26 := Tryz.sizeOf9
  v26 := Tryz.zeroValue9
  t28 := Tryz.underlying521
  a28 := Tryz.isAgg521
  z28 := Tryz.sizeOf521
  v28 := Tryz.zeroValue521
  i26 := by kernel_rfl }
def Tryz.sortA_ren : Go.Shelf.Ren := ⟨fun | 6 => 448 | 8 => 143 | 9 => 492 | 19 => 225 | 20 => 226 | 21 => 512 | 22 => 513 | 23 => 514 | 24 => 515 | 25 => 516 | 26 => 517 | 27 => 518 | 28 => 519 | 29 => 520 | 36 => 523 | 31 => 286 | 32 => 287 | 37 => 524 | 38 => 525 | 39 => 526 | 41 => 528 | n => n, fun | 27 => 26 | 29 => 9 | 3 => 3 | 32 => 272 | 26 => 26 | 0 => 0 | 44 => 348 | 46 => 350 | 4 => 4 | 36 => 342 | 35 => 341 | 41 => 283 | 5 => 5 | 9 => 9 | 53 => 386 | 57 => 390 | 63 => 437 | 64 => 321 | n => n, fun | n => n⟩
theorem Tryz.sortA : Go.Proofs.SlLaysM.n6 Tryz.prog Tryz.sortA_ren := {
  mixed := by kernel_rfl
  f6 := ⟨Tryz.f448.name, by decide, Tryz.func448.trans (congrArg some (by kernel_rfl))⟩
  f8 := Tryz.func143.trans (congrArg some (by kernel_rfl))
  f9 := ⟨Tryz.f492.name, by decide, Tryz.func492.trans (congrArg some (by kernel_rfl))⟩
  f19 := Tryz.func225.trans (congrArg some (by kernel_rfl))
  f20 := Tryz.func226.trans (congrArg some (by kernel_rfl))
  f21 := ⟨Tryz.f512.name, by decide, Tryz.func512.trans (congrArg some (by kernel_rfl))⟩
  f22 := ⟨Tryz.f513.name, by decide, Tryz.func513.trans (congrArg some (by kernel_rfl))⟩
  f23 := ⟨Tryz.f514.name, by decide, Tryz.func514.trans (congrArg some (by kernel_rfl))⟩
  f24 := ⟨Tryz.f515.name, by decide, Tryz.func515.trans (congrArg some (by kernel_rfl))⟩
  f25 := ⟨Tryz.f516.name, by decide, Tryz.func516.trans (congrArg some (by kernel_rfl))⟩
  f26 := ⟨Tryz.f517.name, by decide, Tryz.func517.trans (congrArg some (by kernel_rfl))⟩
  f27 := ⟨Tryz.f518.name, by decide, Tryz.func518.trans (congrArg some (by kernel_rfl))⟩
  f28 := ⟨Tryz.f519.name, by decide, Tryz.func519.trans (congrArg some (by kernel_rfl))⟩
  f29 := ⟨Tryz.f520.name, by decide, Tryz.func520.trans (congrArg some (by kernel_rfl))⟩
  f31 := Tryz.func286.trans (congrArg some (by kernel_rfl))
  f32 := Tryz.func287.trans (congrArg some (by kernel_rfl))
  f36 := ⟨Tryz.f523.name, by decide, Tryz.func523.trans (congrArg some (by kernel_rfl))⟩
  f37 := ⟨Tryz.f524.name, by decide, Tryz.func524.trans (congrArg some (by kernel_rfl))⟩
  f38 := ⟨Tryz.f525.name, by decide, Tryz.func525.trans (congrArg some (by kernel_rfl))⟩
  f39 := ⟨Tryz.f526.name, by decide, Tryz.func526.trans (congrArg some (by kernel_rfl))⟩
  f41 := ⟨Tryz.f528.name, by decide, Tryz.func528.trans (congrArg some (by kernel_rfl))⟩
  t0 := Tryz.underlying0
  a0 := Tryz.isAgg0
  z0 := Tryz.sizeOf0
  v0 := Tryz.zeroValue0
  t3 := Tryz.underlying3
  a3 := Tryz.isAgg3
  z3 := Tryz.sizeOf3
  v3 := Tryz.zeroValue3
  t4 := Tryz.underlying4
  a4 := Tryz.isAgg4
  z4 := Tryz.sizeOf4
  v4 := Tryz.zeroValue4
  t5 := Tryz.underlying5
  a5 := Tryz.isAgg5
  z5 := Tryz.sizeOf5
  v5 := Tryz.zeroValue5
  t9 := Tryz.underlying9
  a9 := Tryz.isAgg9
  z9 := Tryz.sizeOf9
  v9 := Tryz.zeroValue9
  t26 := Tryz.underlying26
  a26 := Tryz.isAgg26
  z26 := Tryz.sizeOf26
  v26 := Tryz.zeroValue26
  t27 := Tryz.underlying26
  a27 := Tryz.isAgg26
  z27 := Tryz.sizeOf26
  v27 := Tryz.zeroValue26
  t29 := Tryz.underlying9
  a29 := Tryz.isAgg9
  z29 := Tryz.sizeOf9
  v29 := Tryz.zeroValue9
  t32 := Tryz.underlying272
  a32 := Tryz.isAgg272
  z32 := Tryz.sizeOf272
  v32 := Tryz.zeroValue272
  t35 := Tryz.underlying341
  a35 := Tryz.isAgg341
  z35 := Tryz.sizeOf341
  v35 := Tryz.zeroValue341
  t36 := Tryz.underlying342
  a36 := Tryz.isAgg342
  z36 := Tryz.sizeOf342
  v36 := Tryz.zeroValue342
  t41 := Tryz.underlying283
  a41 := Tryz.isAgg283
  z41 := Tryz.sizeOf283
  v41 := Tryz.zeroValue283
  t44 := Tryz.underlying348
  a44 := Tryz.isAgg348
  z44 := Tryz.sizeOf348
  v44 := Tryz.zeroValue348
  t46 := Tryz.underlying350
  a46 := Tryz.isAgg350
  z46 := Tryz.sizeOf350
  v46 := Tryz.zeroValue350
  t53 := Tryz.underlying386
  a53 := Tryz.isAgg386
  z53 := Tryz.sizeOf386
  v53 := Tryz.zeroValue386
  t57 := Tryz.underlying390
  a57 := Tryz.isAgg390
  z57 := Tryz.sizeOf390
  v57 := Tryz.zeroValue390
  t63 := Tryz.underlying437
  a63 := Tryz.isAgg437
  z63 := Tryz.sizeOf437
  v63 := Tryz.zeroValue437
  t64 := Tryz.underlying321
  a64 := Tryz.isAgg321
  z64 := Tryz.sizeOf321
  v64 := Tryz.zeroValue321 }
end Go.Proofs
end
section
namespace Go.Sh
open Go.Proofs
open Go.RowKit (Below)
def ground : Ground where
  p := fun B w => 0 < B ∧ ∃ m, w.cell? ⟨0, 0, none⟩ = some (.int .i64 m)
  st := fun _ _ _ h hb => ⟨h.1, h.2.elim fun m hm => ⟨m, (hb.cell (p := ⟨0, 0, none⟩) h.1).trans hm⟩⟩
theorem ground_up (B B' : Nat) (w : World) (h : B ≤ B') (_ : B' ≤ w.heap.size) (hp : ground.p B w) : ground.p B' w := ⟨Nat.lt_of_lt_of_le hp.1 h, hp.2⟩
theorem beq_u8 (a b : UInt8) : Nat.beq a.toNat b.toNat = (a == b) := by
  rw [Bool.eq_iff_iff, Nat.beq_eq, beq_iff_eq]
  exact ⟨fun h => UInt8.toNat.inj h, fun h => by rw [h]⟩
theorem pre_eq : ∀ (sub s : List UInt8), pre (sub.map UInt8.toNat) (s.map UInt8.toNat) = sub.isPrefixOf s
  | [], _ => by simp [pre]
  | _ :: _, [] => by simp [pre]
  | a :: l, b :: s => by
    simp only [List.map_cons, pre, beq_u8, pre_eq l s, List.isPrefixOf]
theorem ixs_nil (sub : List Nat) (i : Nat) : ixs [] sub i = match pre sub [] with | true => Int.ofNat i | false => -1 := by
  rw [ixs.eq_def]
  cases h : pre sub [] <;> simp [h]
theorem ixs_cons (b : Nat) (s sub : List Nat) (i : Nat) : ixs (b :: s) sub i = match pre sub (b :: s) with | true => Int.ofNat i | false => ixs s sub (i + 1) := by
  rw [ixs.eq_def]
  cases h : pre sub (b :: s) <;> simp [h]
theorem ixs_eq : ∀ (s sub : List UInt8) (i : Nat), ixs (s.map UInt8.toNat) (sub.map UInt8.toNat) i = if Lib.index s sub == -1 then -1 else Lib.index s sub + i
  | [], sub, i => by
    have h := pre_eq sub []
    rw [List.map_nil] at h
    rw [List.map_nil, ixs_nil, h, Lib.index]
    cases sub with
    | nil => simp
    | cons a l => simp
  | b :: s, sub, i => by
    have h := pre_eq sub (b :: s)
    rw [List.map_cons] at h
    rw [List.map_cons, ixs_cons, h, ixs_eq s sub (i + 1), Lib.index]
    cases h : sub.isPrefixOf (b :: s) with
    | true => simp
    | false =>
      have hg := Lib.index_ge s sub
      simp only [Bool.false_eq_true, if_false]
      by_cases h1 : Lib.index s sub = -1
      · simp [h1]
      · have h2 : ¬ Lib.index s sub + 1 = -1 := by omega
        simp only [beq_iff_eq, h1, h2, if_false]
        omega
theorem ixs_index (s sub : List UInt8) : ixs (s.map UInt8.toNat) (sub.map UInt8.toNat) 0 = Lib.index s sub := by
  rw [ixs_eq]
  split
  · rename_i h
    exact (eq_of_beq h).symm
  · simp
theorem natIndex_ok {P : Program} {f : FuncId} (he : enterable P f = true)
    (hc : ∀ (s sub : ByteArray) (m : Int) (w : World), s.size < 4294967281 → w.cell? ⟨0, 0, none⟩ = some (.int .i64 m) → Calls P f #[.string s, .string sub] w fun e w' => e = .returned (.int .i64 (Lib.index s.data.toList sub.data.toList)) ∧ w' = w) :
    enterable P f = true ∧ ∀ args H v H', natIndex args H = some (v, H') → ∀ φ B w (args' : Array Value), VRL φ args args'.toList → HG ground φ B H w → Calls P f args' w (CPost φ B H w v H') := by
  refine ⟨he, fun args H v H' hv φ B w args' ha hh => ?_⟩
  unfold natIndex at hv
  split at hv
  · rename_i s sub
    split at hv
    · rename_i hlt
      cases hv
      obtain ⟨l⟩ := args'
      cases ha with
      | cons h1 h2 =>
        cases h2 with
        | cons h3 h4 =>
          cases h4
          cases h1 with
          | str h5 =>
            cases h3 with
            | str h6 =>
              rename_i a b
              subst h5 h6
              obtain ⟨_, m, hm⟩ := hh.2
              refine (hc a b m w ?_ hm).mono ?_
              · rw [Nat.blt_eq, List.length_map] at hlt
                exact hlt
              · rintro e w' ⟨rfl, rfl⟩
                rw [ixs_index]
                exact ⟨Nat.le_refl _, φ, _, Emb.ext.refl φ _, rfl, .int _ _, hh.1, Below.refl _ _⟩
    · cases hv
  · cases hv
theorem nat104 : enterable Tryz.prog 104 = true ∧ ∀ args H v H', natIndex args H = some (v, H') → ∀ φ B w (args' : Array Value), VRL φ args args'.toList → HG ground φ B H w → Calls Tryz.prog 104 args' w (CPost φ B H w v H') :=
  natIndex_ok (by kernel_rfl) fun s sub m w hs hm => Any.strings_Index (ρ := Tryz.lays143_ren) { Tryz.lays143 with } s sub m w hs hm
theorem nat175 : enterable Tryz.prog 175 = true ∧ ∀ args H v H', natIndex args H = some (v, H') → ∀ φ B w (args' : Array Value), VRL φ args args'.toList → HG ground φ B H w → Calls Tryz.prog 175 args' w (CPost φ B H w v H') :=
  natIndex_ok (by kernel_rfl) fun s sub m w hs hm => Any.stringslite_Index (ρ := Tryz.lays143_ren) { Tryz.lays143 with } s sub m w hs hm
end Go.Sh
end
section
namespace Go.Sh
open Go.Proofs
open Go Go.RowKit Go.Maps Go.Sort Go.Shelf
theorem sorts_ok (m : Nat) : AnyZ.SortsIn Tryz.prog Tryz.sortedA_ren Fence.wide m :=
  ⟨fun blk off cap ss W hH hblk hsz => callsIn_wide.2 (AnyM.slices_Sort_string Tryz.sortA blk off cap ss W hH hblk hsz),
   fun p cap W => callsIn_wide.2 (AnyM.slices_Sort_string_none Tryz.sortA p cap W)⟩
theorem nat406 : enterable Tryz.prog 406 = true ∧ ∀ args H v H', natSorted args H = some (v, H') → ∀ φ B w (args' : Array Value), VRL φ args args'.toList → HG ground φ B H w → Calls Tryz.prog 406 args' w (CPost φ B H w v H') := by
  refine ⟨by kernel_rfl, fun args H v H' hv φ B w args' ha hh => ?_⟩
  unfold natSorted at hv
  split at hv
  · rename_i b
    split at hv
    · rename_i m e ro frz hb
      split at hv
      · rename_i ck hm
        cases hv
        obtain ⟨l⟩ := args'
        cases ha with
        | cons h1 h2 =>
          cases h2
          cases h1 with
          | func h3 h4 =>
            rename_i us vs
            obtain ⟨us⟩ := us
            obtain ⟨vs⟩ := vs
            cases h3
            cases h4 with
            | cons h5 h6 =>
              cases h6
              cases h5 with
              | ptr h7 =>
                rename_i l
                have ho := hh.1.obj b l h7
                have hd := hh.1.dom b l h7
                rw [hb] at ho
                cases ho with
                | row k1 k2 k3 k4 k5 k6 k7 =>
                  obtain ⟨u, hu, hvr⟩ := k3 0 _ rfl
                  obtain ⟨q1, q2⟩ := k5 rfl
                  cases hvr with
                  | map h8 =>
                    rename_i lm
                    have ho2 := hh.1.obj m lm h8
                    rw [hm] at ho2
                    cases ho2 with
                    | map r1 r2 r3 r4 =>
                      rename_i es'
                      have hes : es' = #[] := Array.size_eq_zero_iff.1 r2.symm
                      subst hes
                      have hcell : w.cell? ⟨l.rb, 0, none⟩ = some (.map (some lm.rb)) := by
                        rw [q1] at hu
                        exact (cell?_at w l.rb 0 _ _ _ k1).trans hu
                      have hown : w.ownsMap (H := Unit) Tryz.prog (Tryz.keysA_ren.t 26) (fun _ => none) lm.rb 0 (.map []) := ⟨#[], ck, r1, ⟨by simp, MapKept.stamped_empty ck, by simp⟩, Nat.le_refl _, rfl⟩
                      have hseq : SeqGives Fence.wide 2 Tryz.prog 449 #[.pointer (some ⟨l.rb, 0, none⟩)] encStr (fun ss => ss.Perm (strKeys (H := Unit) (.map []))) (Maps.size (H := Unit) (.map [])) w :=
                        AnyZ.keys_gives (ρ := Tryz.keysA_ren) { Tryz.keysA with } Fence.wide _ trivial rfl (by omega) l.rb lm.rb 0 (.map []) w hd.2 hcell hown
                      have cS := AnyZ.sorted_in Tryz.sortedA Fence.wide 5 trivial trivial trivial trivial rfl (by omega) (sorts_ok _) (enters_of Tryz.func448 (by kernel_rfl) rfl) 449 #[.pointer (some ⟨l.rb, 0, none⟩)] trivial (enters_of Tryz.func449 (by kernel_rfl) rfl) _ _ (Nat.zero_le _) (by decide) w hseq
                      change CallsIn _ _ Tryz.prog 406 _ _ _ at cS
                      have c2 := callsIn_wide.1 cS
                      rw [q1]
                      refine Calls.mono c2 ?_
                      rintro e2 w' ⟨v, ss, rfl, hp, _, hn, hb2⟩
                      obtain rfl := hn.2 (List.Perm.eq_nil hp)
                      exact ⟨Nat.le_refl _, φ, _, Emb.ext.refl φ _, rfl, .nils, hh.1.world hb2.size hb2.block, hb2.mono hh.1.sz⟩
      · cases hv
    · cases hv
  · cases hv
theorem d124 : enterable Tryz.prog 124 = true ∧ ∀ args, (fun _ : List SV => true) args = true → ∀ φ B H w (args' : Array Value), VRL φ args args'.toList → HG ground φ B H w → CallsD Tryz.prog 124 args' .returning w (DPost φ B H w H) := by
  refine ⟨by kernel_rfl, fun args _ φ B H w args' _ hh => ?_⟩
  refine callsD_of_wpS Tryz.func124 rfl fun c₀ cs hu => ?_
  obtain ⟨A, hA⟩ : ∃ A, args' ++ Array.replicate (Tryz.f124.ntmps - args'.size) Go.undef = A := ⟨_, rfl⟩
  have hs : 15 ≤ A.size := by
    rw [← hA, Array.size_append, Array.size_replicate]
    have : Tryz.f124.ntmps = 15 := rfl
    omega
  rw [hA]
  apply wpS_seq
  apply wpS_region
  simp [wpOpsS, go_sem, recoverD, hu, Exit.thenS]
  rw [if_pos (by omega : 4 < A.size)]
  obtain ⟨A2, hA2⟩ : ∃ A2, (A.setIfInBounds 4 Value.nilIface).setIfInBounds 1 Value.nilIface = A2 := ⟨_, rfl⟩
  have hs2 : 15 ≤ A2.size := by
    rw [← hA2, Array.size_setIfInBounds, Array.size_setIfInBounds]
    exact hs
  have h21 : A2[1]? = some Value.nilIface := by
    rw [← hA2, Array.getElem?_setIfInBounds, if_pos rfl, if_pos (by rw [Array.size_setIfInBounds]; omega)]
  rw [hA2]
  apply wpS_seq
  apply wpS_region
  have h5 : (if 5 < A2.size then Value.nilIface else Go.undef) = Value.nilIface := if_pos (by omega)
  simp [wpOpsS, go_sem, Exit.thenS, h21, h5]
  refine wpS_cond (t := false) (by simp [Act.eval]; omega) ?_
  simp only [Bool.false_eq_true, if_false]
  refine wpS_of_wp (wp_skip ?_)
  refine ⟨rfl, .returning, ?_, .tuple #[], ?_, rfl, Nat.le_refl _, φ, _, Emb.ext.refl φ _, rfl, hh.1, Below.refl _ _⟩
  · cases c₀
    cases hu
    rfl
  · simp [results]
end Go.Sh
end
