/-
  What PageColours answers.
-/
import Derived.Test.YtnhogklhegmjhaaGreatDoorShE1
import Derived.Test.YtnhogklhegmjhaaGreatDoorShD6
import Derived.Test.YtnhogklhegmjhaaGreatDoorShR0
import Derived.Test.YtnhogklhegmjhaaGreatDoorShR1
import Derived.Test.YtnhogklhegmjhaaGreatDoorShR2
import Derived.Test.YtnhogklhegmjhaaGreatDoorShR3
import Derived.Test.YtnhogklhegmjhaaGreatDoorShR4
import Derived.Test.YtnhogklhegmjhaaGreatDoorShR5
set_option linter.all false
section
namespace Go.Sh
open Go.Proofs
open Go.RowKit (Below)
theorem good_all : ∀ t ∈ titL, goodR t = true := by
  intro t ht
  unfold titL at ht
  simp only [List.mem_flatMap, List.mem_map] at ht
  obtain ⟨s, hs, n, hn, rfl⟩ := ht
  have k : namesT.all (fun n => goodR (s, n)) = true := by
    simp only [List.mem_cons, List.not_mem_nil, or_false] at hs
    rcases hs with rfl | rfl | rfl | rfl | rfl | rfl
    · exact k_run0
    · exact k_run1
    · exact k_run2
    · exact k_run3
    · exact k_run4
    · exact k_run5
  exact List.all_eq_true.1 k n hn
theorem run_good {t : Tt} (ht : t ∈ titL) (ok : Bool) : htmlIs (htmlT t ok) (runR t ok) = true := by
  have h := good_all t ht
  unfold goodR at h
  rw [Bool.and_eq_true] at h
  cases ok
  · exact h.2
  · exact h.1
theorem ground_pos (φ : Emb) (B : Nat) (w : World) (h : ground.p φ B w) : 0 < w.heap.size := by
  obtain ⟨_, m, hm⟩ := h
  have := World.block_lt_of_cell? _ _ hm
  simpa using this
theorem call3_ok {t : Tt} {ok : Bool} (ht : t ∈ titL) (lf n : Nat) : CallOK ground Tryz.prog (call3 t ok lf n) := by
  intro f args H r H' h
  unfold call3 at h
  split at h
  · rename_i hf
    have hf8 : f = 8 := Nat.eq_of_beq_eq_true hf
    subst hf8
    exact ⟨by kernel_rfl, nat8_ok mixed_ok ground_up ground_pos tabB_ok tabT_ok (by kernel_rfl) (by kernel_rfl) (run_good ht ok) h⟩
  · exact shadow_ok mixed_ok tabT_ok lf n f args H r H' h
theorem tab3 : tabT 3 = some (.code c3) := by kernel_rfl
theorem top_true {v : SV} {H : Heap} (hd : DataOK H v) : ∀ φ B w (args' : Array Value), VRL φ [v] args'.toList → HG ground φ B H w →
    Calls Tryz.prog 3 args' w fun e w' => e = .returned (.bool true) ∧ Below B w w' := by
  intro φ B w args' ha hh
  obtain ⟨t, ok, ht, hw⟩ := top_walk (lf := 1001) (n := 9) (H := H) hd (by omega) (by omega)
  have hc : CallOK ground Tryz.prog (call3 t ok 1001 9) := call3_ok ht 1001 9
  refine (outer_ok tabT_ok hc (draw_ok mixed_ok hc) tab3 hw φ B w args' ha hh).mono ?_
  rintro e w' ⟨r, H', rfl, _, φ', u, _, rfl, hu, _, hbl⟩
  cases hu
  exact ⟨rfl, hbl⟩
theorem ground_of {W : World} (hsh : W.ShapedOpen Tryz.prog) : ground.p (fun _ => none) W.heap.size W := by
  obtain ⟨m, hm⟩ := Tryz.lays143.s1_3 W hsh
  have hm' : W.cell? ⟨0, 0, none⟩ = some (.int .i64 m) := hm
  refine ⟨?_, m, hm'⟩
  have := World.block_lt_of_cell? _ _ hm'
  simpa using this
theorem top_calls {W : World} (hsh : W.ShapedOpen Tryz.prog) {v0 : Value}
    (h0 : v0 = .slice none 0 0 ∨ ∃ (a : Addr) (len cap : Nat) (zs : List Int), v0 = .slice (some a) len cap ∧ a.spot = none ∧ len ≤ cap ∧ len < 140737488355328 ∧ zs.length = cap ∧ ∀ i, i < zs.length → W.cell? (a.add i) = some (.int .i64 (zs.getD i 0))) :
    Calls Tryz.prog 3 #[v0] W fun e W' => e = .returned (.bool true) ∧ Below W.heap.size W W' := by
  have hg := ground_of hsh
  have hnil : HR (fun _ => none) W.heap.size ⟨0, .leaf⟩ W := ⟨(fun _ _ e => (by cases e)), (fun _ _ _ _ e => (by cases e)), (fun _ _ e => (by cases e)), Nat.le_refl _⟩
  rcases h0 with rfl | ⟨a, len, cap, zs, rfl, hsp, hlc, hcm, hzl, hcell⟩
  · exact top_true (H := ⟨0, .leaf⟩) (.inl rfl) (fun _ => none) W.heap.size W _ (.cons .nils .nil) ⟨hnil, hg⟩
  · by_cases hc0 : cap = 0
    · subst hc0
      obtain rfl : len = 0 := by omega
      have hd : DataOK ((⟨0, .leaf⟩ : Heap).push (.row [] 0 false true 0)) (.slice 0 0 0 none 1) := .inr ⟨0, 0, 0, none, [], 0, false, true, 0, rfl, by decide, get_push_self _, by decide, fun i hi => absurd hi (Nat.not_lt_zero i)⟩
      have hr : HR (fun _ => none) W.heap.size ((⟨0, .leaf⟩ : Heap).push (.row [] 0 false true 0)) W := ⟨(fun _ _ e => (by cases e)), (fun _ _ _ _ e => (by cases e)), (fun _ _ e => (by cases e)), Nat.le_refl _⟩
      exact top_true hd (fun _ => none) W.heap.size W _ (.cons (.slice0 (fun k e => (by cases e))) .nil) ⟨hr, hg⟩
    · obtain ⟨blk, off, spot⟩ := a
      simp only at hsp
      subst hsp
      have hadd : ∀ i, (⟨blk, off, none⟩ : Addr).add i = ⟨blk, off + i, none⟩ := fun i => addr_add _ _ _
      have hfirst := hcell 0 (by omega)
      rw [hadd, Nat.add_zero] at hfirst
      have hblt : blk < W.heap.size := by
        have := World.block_lt_of_cell? _ _ hfirst
        simpa using this
      obtain ⟨C, e, f1, f2, hb⟩ : ∃ C e f1 f2, W.heap[blk]? = some (.cells C e (f1, f2)) := by
        have h1 := hfirst
        simp only [World.cell?] at h1
        cases hw : W.heap[blk]? with
        | none => rw [hw] at h1; simp at h1
        | some o =>
          rw [hw] at h1
          cases o with
          | cells C e f => exact ⟨C, e, f.1, f.2, rfl⟩
          | _ => simp at h1
      have hC : ∀ i, i < cap → C[off + i]? = some (.int .i64 (zs.getD i 0)) := fun i hi => by
        have h1 := hcell i (by omega)
        have h2 := cell?_at W blk (off + i) C e (f1, f2) hb
        rw [hadd] at h1
        rw [← h2]
        exact h1
      have hsz : off + cap ≤ C.size := by
        have h1 := hC (cap - 1) (by omega)
        have := (Array.getElem?_eq_some_iff.1 h1).1
        omega
      obtain ⟨cs, hcs⟩ : ∃ cs : List SV, cs = zs.map (SV.int .i64) := ⟨_, rfl⟩
      have hcl : cs.length = cap := by rw [hcs, List.length_map, hzl]
      have hce : ∀ i, i < cap → cs[i]? = some (.int .i64 (zs.getD i 0)) := fun i hi => by
        rw [hcs, List.getElem?_map, List.getD_eq_getElem?_getD, List.getElem?_eq_getElem (by omega)]
        rfl
      obtain ⟨H, hH⟩ : ∃ H, (⟨0, .leaf⟩ : Heap).push (.row cs e false true 0) = H := ⟨_, rfl⟩
      have hH0 : H.get 0 = some (.row cs e false true 0) := by rw [← hH]; exact get_push_self (H := ⟨0, .leaf⟩) _
      have hHn : H.next = 1 := by rw [← hH]; rfl
      obtain ⟨φ, hφ⟩ : ∃ φ : Emb, φ = fun b => if b = 0 then some ⟨blk, off, C.size, Go.undef⟩ else none := ⟨_, rfl⟩
      have hφ0 : φ 0 = some ⟨blk, off, C.size, Go.undef⟩ := by rw [hφ]; rfl
      have hφi : ∀ b l, φ b = some l → b = 0 ∧ l = ⟨blk, off, C.size, Go.undef⟩ := fun b l h => by
        rw [hφ] at h
        simp only at h
        split at h
        · rename_i hb0
          cases h
          exact ⟨hb0, rfl⟩
        · exact (by cases h)
      have hr : HR φ W.heap.size H W := by
        refine ⟨fun b l h => ?_, fun b b' l l' h h' _ _ _ => ?_, fun b l h => ?_, Nat.le_refl _⟩
        · obtain ⟨rfl, rfl⟩ := hφi b l h
          exact ⟨by omega, hblt⟩
        · rw [(hφi b l h).1, (hφi b' l' h').1]
        · obtain ⟨rfl, rfl⟩ := hφi b l h
          rw [hH0]
          refine .row hb rfl (fun i x hx => ?_) (by rw [hcl]; exact hsz) (fun h => (by cases h)) (fun h => (by cases h)) (fun h => (by cases h))
          have hi : i < cap := by
            have := (List.getElem?_eq_some_iff.1 hx).1
            omega
          rw [hce i hi] at hx
          cases hx
          exact ⟨_, hC i hi, .int _ _⟩
      have hd : DataOK H (.slice 0 0 len none 1) := .inr ⟨0, 0, len, none, cs, e, false, true, 0, rfl, by omega, hH0, by omega, fun i hi => ⟨_, by rw [Nat.zero_add]; exact hce i (by omega)⟩⟩
      have hvr : VR φ (.slice 0 0 len none 1) (.slice (some ⟨blk, off, none⟩) len cap) := .slice (l := ⟨blk, off, C.size, Go.undef⟩) hφ0 (fun k h => (by cases h)) hlc (by simpa using hsz)
      exact top_true hd φ W.heap.size W _ (.cons hvr .nil) ⟨hr, hg⟩
end Go.Sh
end
