/-
  slices.Insert at units, one unit more: its four roads.
-/
import Derived.Shelf.Spec.SlicesInsertGrow
import Derived.Test.YtpcpmplkblbpbaaGreatDoorShA6
import Derived.Test.YtpcpmplkblbpbaaGreatDoorProg
import Derived.KernelRfl
set_option linter.all false
section
set_option linter.all false
namespace Go.Sh
open Go.Proofs
open Go Go.Shelf Go.RowKit Go.Lib
theorem run_copy_k {P : Program} (w : World) (dT sT ty elem : TypeId) {info : TypeInfo} (b o dLen dCap ab ao sLen sCap n : Nat) (cs : List Value)
    (hu : P.underlying dT = some (.slice elem)) (hi : P.info? elem = some info) (hn : Nat.min sLen dLen = n) (hcl : cs.length = n * info.size)
    (hsrc : ∀ j v, cs[j]? = some v → w.cell? ⟨ab, ao + j, none⟩ = some v) (hc : ∀ j, j < cs.length → (w.cell? ⟨b, o + j, none⟩).isSome = true) (hf : ∀ j, j < cs.length → w.frozen? ⟨b, o + j, none⟩ = false) (h1 : ∀ v ∈ cs, v.oneCell' = true) :
    (Builtin.copy_ #[dT, sT] ty #[.slice (some ⟨b, o, none⟩) dLen dCap, .slice (some ⟨ab, ao, none⟩) sLen sCap]).run P w = .ok (goInt n) (w.setCells b o cs) := by
  have hl := run_loadCells_list (P := P) w ⟨ab, ao, none⟩ cs (fun j v hj => by rw [Addr.add_lit]; exact hsrc j v hj)
  have hst := run_storeCells_cells (P := P) b o cs 0 w (by simpa using hc) (by simpa using hf) h1
  rw [hcl] at hl
  simp [Builtin.copy_, run_underlying hu, Builtin.lenOf, Builtin.firstCells, sizeOf, typeInfo, hi, hn, hl, hst]
structure Ins (P : Program) : Prop where
  mixed : P.follows .mixedOrders = true
  f38 : P.funcs[38]? = some Tryz.f38
  f55 : P.funcs[55]? = some Tryz.f55
  t0 : P.underlying 0 = some (TypeDesc.tuple #[])
  a0 : ∀ (w : World), Sem.run P (isAgg 0) w = Result.ok false w
  z0 : ∀ (w : World), Sem.run P (Go.sizeOf 0) w = Result.ok 1 w
  v0 : ∀ (w : World), Sem.run P (zeroValue 0) w = Result.ok (Value.tuple #[]) w
  t3 : P.underlying 3 = some (TypeDesc.int IntKind.i64)
  a3 : ∀ (w : World), Sem.run P (isAgg 3) w = Result.ok false w
  z3 : ∀ (w : World), Sem.run P (Go.sizeOf 3) w = Result.ok 1 w
  v3 : ∀ (w : World), Sem.run P (zeroValue 3) w = Result.ok (Value.int IntKind.i64 0) w
  t4 : P.underlying 4 = some TypeDesc.bool
  a4 : ∀ (w : World), Sem.run P (isAgg 4) w = Result.ok false w
  z4 : ∀ (w : World), Sem.run P (Go.sizeOf 4) w = Result.ok 1 w
  v4 : ∀ (w : World), Sem.run P (zeroValue 4) w = Result.ok (Value.bool false) w
  a51 : ∀ (w : World), Sem.run P (isAgg 51) w = Result.ok true w
  z51 : ∀ (w : World), Sem.run P (Go.sizeOf 51) w = Result.ok 3 w
  t43 : P.underlying 43 = some (TypeDesc.slice 51)
  a43 : ∀ (w : World), Sem.run P (isAgg 43) w = Result.ok false w
  z43 : ∀ (w : World), Sem.run P (Go.sizeOf 43) w = Result.ok 1 w
  v43 : ∀ (w : World), Sem.run P (zeroValue 43) w = Result.ok (Value.slice none 0 0) w
  i51 : ∃ info z, P.info? 51 = some info ∧ info.size = 3 ∧ info.bytes = 40 ∧ info.zero = some z ∧ z.cells.size = 3 ∧ z = .agg #[.string ⟨#[]⟩, .int .i64 0, .string ⟨#[]⟩]
theorem ins_tryz : Ins Tryz.prog where
  mixed := by kernel_rfl
  f38 := Tryz.func38
  f55 := Tryz.func55
  t0 := Tryz.underlying0
  a0 := Tryz.isAgg0
  z0 := Tryz.sizeOf0
  v0 := Tryz.zeroValue0
  t3 := Tryz.underlying3
  a3 := Tryz.isAgg3
  z3 := Tryz.sizeOf3
  v3 := Tryz.zeroValue3
  t4 := Tryz.underlying4
  a4 := Tryz.isAgg4
  z4 := Tryz.sizeOf4
  v4 := Tryz.zeroValue4
  a51 := Tryz.isAgg51
  z51 := Tryz.sizeOf51
  t43 := Tryz.underlying43
  a43 := Tryz.isAgg43
  z43 := Tryz.sizeOf43
  v43 := Tryz.zeroValue43
  i51 := ⟨_, _, (by kernel_rfl : Tryz.prog.info? 51 = some Tryz.t51), rfl, rfl, rfl, rfl, rfl⟩
variable {P : Program}
theorem src_m {w : World} {vb voff m vc : Nat} {vs : List Value} (hl : vs.length = m * 3) (hvs : ∀ j v, vs[j]? = some v → w.cell? ⟨vb, voff + j, none⟩ = some v) : Src P w 3 (.slice (some ⟨vb, voff, none⟩) m vc) m vs := by
  refine ⟨fun w' => by simp [Builtin.lenOf], fun k w' hk hw => ?_, hl⟩
  have h := run_loadCells_list (P := P) w' ⟨vb, voff, none⟩ (vs.take (k * 3)) (fun j u hj => by
    rw [Addr.add_lit, cell?_heap hw]
    rw [List.getElem?_take] at hj
    split at hj
    · exact hvs j u hj
    · cases hj)
  rw [List.length_take, hl, Nat.min_eq_left (by omega)] at h
  simp [Builtin.firstCells, h]
section
variable {w : World} {rb off n cap vb voff m vc i : Nat} {cs vs : List Value}
set_option maxHeartbeats 1000000 in
set_option maxRecDepth 100000 in
theorem ins_end_room (L : Ins P) (hm : 0 < m) (hroom : n + m ≤ cap) (hvl : vs.length = m * 3) (hc : ∀ j, j < m * 3 → (w.cell? ⟨rb, off + n * 3 + j, none⟩).isSome = true) (hf : ∀ j, j < m * 3 → w.frozen? ⟨rb, off + n * 3 + j, none⟩ = false)
    (hvs : ∀ j v, vs[j]? = some v → w.cell? ⟨vb, voff + j, none⟩ = some v) (h1v : ∀ v ∈ vs, v.oneCell' = true) :
    Calls P 38 #[.slice (some ⟨rb, off, none⟩) n cap, .int .i64 n, .slice (some ⟨vb, voff, none⟩) m vc] w fun e w' =>
      e = .returned (.slice (some ⟨rb, off, none⟩) (n + m) cap) ∧ w' = w.setCells rb (off + n * 3) vs := by
  have mixed := L.mixed
  have t0 := L.t0; have a0 := L.a0; have z0 := L.z0; have v0 := L.v0; have t3 := L.t3; have a3 := L.a3; have z3 := L.z3; have v3 := L.v3; have t4 := L.t4; have a4 := L.a4; have z4 := L.z4; have v4 := L.v4; have a51 := L.a51; have z51 := L.z51; have t43 := L.t43; have a43 := L.a43; have z43 := L.z43; have v43 := L.v43
  have u0 := run_underlying L.t0; have u3 := run_underlying L.t3; have u4 := run_underlying L.t4; have u43 := run_underlying L.t43
  obtain ⟨info, z, hinfo, hsz, hby, hz, hzl, hzv⟩ := L.i51
  have hrz : ∀ ty, (Builtin.append_ #[43, 43] ty #[.slice (some ⟨rb, off, none⟩) n cap, .slice (some ⟨vb, voff, none⟩) m vc]).run P w = .ok (.slice (some ⟨rb, off, none⟩) (n + m) cap) (w.setCells rb (off + n * 3) vs) := fun ty => by
    have hS : Src P w info.size (.slice (some ⟨vb, voff, none⟩) m vc) m vs := by rw [hsz]; exact src_m hvl hvs
    have h := run_app_room (P := P) (w := w) (t := 43) (u := 43) (ty := ty) (g := rb) (b := off) (sCap := cap) t43 hinfo t43 (fun k h => by cases h) hS hroom (by rw [hvl, hsz]; exact hc) (by rw [hvl, hsz]; exact hf) h1v
    rw [hsz] at h
    exact h
  have hz1 : ¬ ((m : Int) = 0) := by omega
  clear hinfo hsz hby hz hzl hzv hc hf hvs h1v
  go_enter L.f38, Tryz.ntmps38
  go_wp2_with (at_builtin; refine Lib.wpList_append_run _ rfl _ _ _ _ rfl _ _ rfl rfl _ _ (hrz _) ?_)
  go_ret
  exact ⟨rfl, rfl⟩
set_option maxHeartbeats 1000000 in
set_option maxRecDepth 100000 in
theorem ins_end_grow (L : Ins P) (hm : 0 < m) (hnc : n ≤ cap) (hroom : cap < n + m) (hbig : n + m ≤ 1000000) (hcl : cs.length = n * 3) (hvl : vs.length = m * 3) (hcs : ∀ j v, cs[j]? = some v → w.cell? ⟨rb, off + j, none⟩ = some v)
    (hvs : ∀ j v, vs[j]? = some v → w.cell? ⟨vb, voff + j, none⟩ = some v) :
    Calls P 38 #[.slice (some ⟨rb, off, none⟩) n cap, .int .i64 n, .slice (some ⟨vb, voff, none⟩) m vc] w fun e w' =>
      e = .returned (.slice (some ⟨w.heap.size, 0, none⟩) (n + m) (grownCap w (n + m) cap 51)) ∧
      w' = w.drew.alloc (.cells (cs.toArray ++ vs.toArray ++ Builtin.zeroCells (Value.agg #[.string ⟨#[]⟩, .int .i64 0, .string ⟨#[]⟩]).cells (grownCap w (n + m) cap 51 - (n + m))) 51) := by
  have mixed := L.mixed
  have t0 := L.t0; have a0 := L.a0; have z0 := L.z0; have v0 := L.v0; have t3 := L.t3; have a3 := L.a3; have z3 := L.z3; have v3 := L.v3; have t4 := L.t4; have a4 := L.a4; have z4 := L.z4; have v4 := L.v4; have a51 := L.a51; have z51 := L.z51; have t43 := L.t43; have a43 := L.a43; have z43 := L.z43; have v43 := L.v43
  have u0 := run_underlying L.t0; have u3 := run_underlying L.t3; have u4 := run_underlying L.t4; have u43 := run_underlying L.t43
  obtain ⟨info, z, hinfo, hsz, hby, hz, hzl, hzv⟩ := L.i51
  have hrz : ∀ ty, (Builtin.append_ #[43, 43] ty #[.slice (some ⟨rb, off, none⟩) n cap, .slice (some ⟨vb, voff, none⟩) m vc]).run P w = .ok (.slice (some ⟨w.heap.size, 0, none⟩) (n + m) (grownCap w (n + m) cap 51))
      (w.drew.alloc (.cells (cs.toArray ++ vs.toArray ++ Builtin.zeroCells z.cells (grownCap w (n + m) cap 51 - (n + m))) 51)) := fun ty => by
    have hS : Src P w info.size (.slice (some ⟨vb, voff, none⟩) m vc) m vs := by rw [hsz]; exact src_m hvl hvs
    exact run_app_grow (P := P) (w := w) (t := 43) (u := 43) (ty := ty) (base := some ⟨rb, off, none⟩) (sCap := cap) (olds := cs) t43 hinfo hz t43 (fun k h => by cases h) hS hroom (fun w' hw => by
      have h := run_loadCells_list (P := P) w' ⟨rb, off, none⟩ cs (fun j u hj => by rw [Addr.add_lit, cell?_heap hw]; exact hcs j u hj)
      rw [hcl] at h
      rw [hsz]
      simp [Builtin.firstCells, h]) (by omega) (by rw [hby]; omega)
  rw [hzv] at hrz
  have hz1 : ¬ ((m : Int) = 0) := by omega
  clear hinfo hsz hby hz hzl hzv hcs hvs
  go_enter L.f38, Tryz.ntmps38
  go_wp2_with (at_builtin; refine Lib.wpList_append_run _ rfl _ _ _ _ rfl _ _ rfl rfl _ _ (hrz _) ?_)
  all_goals
    go_ret
    exact ⟨rfl, rfl⟩
set_option maxHeartbeats 4000000 in
set_option maxRecDepth 100000 in
theorem ins_shift (L : Ins P) (hi : i < n) (hm : 0 < m) (hroom : n + m ≤ cap) (hbig : n + m ≤ 1000000) (hvb : vb ≠ rb) (hcl : cs.length = n * 3) (hvl : vs.length = m * 3)
    (hcs : ∀ j v, cs[j]? = some v → w.cell? ⟨rb, off + j, none⟩ = some v) (hsp : ∀ j, j < (n + m) * 3 → (w.cell? ⟨rb, off + j, none⟩).isSome = true) (hfz : ∀ j, j < (n + m) * 3 → w.frozen? ⟨rb, off + j, none⟩ = false)
    (hvs : ∀ j v, vs[j]? = some v → w.cell? ⟨vb, voff + j, none⟩ = some v) (h1c : ∀ v ∈ cs, v.oneCell' = true) (h1v : ∀ v ∈ vs, v.oneCell' = true)
    (tA tB : TypeId) (kA kB : Nat) (hsa : w.shape? vb = some (tA, kA)) (hsb : w.shape? rb = some (tB, kB)) (hkB : kB ≠ 0) (hfa : w.frozen? ⟨vb, voff, none⟩ = false) (hfe : w.frozen? ⟨vb, kA, none⟩ = false) :
    Calls P 38 #[.slice (some ⟨rb, off, none⟩) n cap, .int .i64 i, .slice (some ⟨vb, voff, none⟩) m vc] w fun e w' =>
      e = .returned (.slice (some ⟨rb, off, none⟩) (n + m) cap) ∧ w' = (w.drew.setCells rb (off + (i + m) * 3) (cs.drop (i * 3))).setCells rb (off + i * 3) vs := by
  have mixed := L.mixed
  have t0 := L.t0; have a0 := L.a0; have z0 := L.z0; have v0 := L.v0; have t3 := L.t3; have a3 := L.a3; have z3 := L.z3; have v3 := L.v3; have t4 := L.t4; have a4 := L.a4; have z4 := L.z4; have v4 := L.v4; have a51 := L.a51; have z51 := L.z51; have t43 := L.t43; have a43 := L.a43; have z43 := L.z43; have v43 := L.v43
  have u0 := run_underlying L.t0; have u3 := run_underlying L.t3; have u4 := run_underlying L.t4; have u43 := run_underlying L.t43
  obtain ⟨info, z, hinfo, hsz, hby, hz, hzl, hzv⟩ := L.i51
  have hz1 : ¬ ((m : Int) = 0) := by omega
  have hz2 : ¬ ((i : Int) = (n : Int)) := by omega
  have hov : ∀ lb cb, (callFunc 55 #[.slice (some ⟨vb, voff, none⟩) m vc, .slice (some ⟨rb, off + (i + m) * 3, none⟩) lb cb]).run P w = .ok (.value (.bool false)) w := fun lb cb => by
    rw [run_callFunc_extern L.f55 (by kernel_rfl) (by kernel_rfl) (by kernel_rfl) (e := Extern.SlicesOverlaps.overlaps #[43, 43] #[4]) (by kernel_rfl),
      Lib.run_overlaps_apart w 43 4 51 L.t43 3 L.z51 ⟨vb, voff, none⟩ ⟨rb, off + (i + m) * 3, none⟩ m vc lb cb hvb tA tB kA kB hsa hsb hkB hfa hfe]
    rfl
  have hdl : (cs.drop (i * 3)).length = (n - i) * 3 := by rw [List.length_drop, hcl]; omega
  have hw1 : IntKind.i64.wrap ((i : Int) + (m : Int)) = (i : Int) + (m : Int) := by rw [IntKind.wrap_i64]; omega
  have hb1 : (0 : Int) ≤ (i : Int) + (m : Int) := by omega
  have hin : i ≤ n := by omega
  have htn : ((i : Int) + (m : Int)).toNat = i + m := by omega
  have hb2 : ¬ (cap = i + m) := by omega
  have hb3 : (i : Int) ≤ (n : Int) + (m : Int) := by omega
  have hb4 : ¬ (cap = i) := by omega
  have hcp1 : ∀ ty dc sc, (Builtin.copy_ #[43, 43] ty #[.slice (some ⟨rb, off + (i + m) * 3, none⟩) (n + m - (i + m)) dc, .slice (some ⟨rb, off + i * 3, none⟩) (n + m - i) sc]).run P w.drew = .ok (goInt (n - i : Nat)) (w.drew.setCells rb (off + (i + m) * 3) (cs.drop (i * 3))) := fun ty dc sc =>
    run_copy_k w.drew 43 43 ty 51 rb (off + (i + m) * 3) (n + m - (i + m)) dc rb (off + i * 3) (n + m - i) sc (n - i) (cs.drop (i * 3)) L.t43 hinfo (by simp only [Nat.min_def]; split <;> omega) (by rw [hsz]; exact hdl)
      (fun j v hj => by rw [Nat.add_assoc]; exact hcs (i * 3 + j) v (by rwa [List.getElem?_drop] at hj))
      (fun j hj => by rw [Nat.add_assoc]; exact hsp _ (by omega)) (fun j hj => by rw [Nat.add_assoc]; exact hfz _ (by omega)) (fun v hv => h1c v (List.mem_of_mem_drop hv))
  obtain ⟨W1, hW1⟩ : ∃ W1, W1 = w.drew.setCells rb (off + (i + m) * 3) (cs.drop (i * 3)) := ⟨_, rfl⟩
  have hsp1 : ∀ k, k < (n + m) * 3 → (W1.cell? ⟨rb, off + k, none⟩).isSome = true := fun k hk => by
    rw [hW1]
    exact isSome_setCells rb _ _ _ (fun j hj => by rw [Nat.add_assoc]; exact hsp _ (by omega)) _ (hsp k hk)
  have hcp2 : ∀ (W : World), (∀ x, W.cell? x = W1.cell? x) → (∀ x, W.frozen? x = W1.frozen? x) → ∀ ty dc, (Builtin.copy_ #[43, 43] ty #[.slice (some ⟨rb, off + i * 3, none⟩) (n + m - i) dc, .slice (some ⟨vb, voff, none⟩) m vc]).run P W = .ok (goInt (m : Nat)) (W.setCells rb (off + i * 3) vs) := fun W hWc hWf ty dc =>
    run_copy_k W 43 43 ty 51 rb (off + i * 3) (n + m - i) dc vb voff m vc m vs L.t43 hinfo (by simp only [Nat.min_def]; split <;> omega) (by rw [hsz]; exact hvl)
      (fun j v hj => by
        rw [hWc, hW1, World.cell?_setCells_out rb _ _ _ _ (fun h _ => absurd h hvb)]
        exact hvs j v hj)
      (fun j hj => by rw [hWc, Nat.add_assoc]; exact hsp1 _ (by omega)) (fun j hj => by rw [hWf, hW1, World.frozen?_setCells, Nat.add_assoc]; exact hfz _ (by omega)) h1v
  rw [← hW1] at hcp1
  clear hinfo hsz hby hz hzl hzv hcs hvs hsp hfz hsp1
  go_enter L.f38, Tryz.ntmps38
  go_wp2_with (simp only [hov])
  go_region_law_o (refine step_copy_runI rfl _ _ 43 43 rfl _ _ (by simp [Act.eval, Act.put]) (by simp [Act.eval, Act.put]) (hcp1 _ _ _) ?_)
  go_wp2_with (at_builtin; refine wpList_copy_runI _ rfl _ _ 43 43 rfl _ _ rfl rfl (hcp2 _ (fun _ => rfl) (fun _ => rfl) _ _) ?_)
  go_ret
  first | exact ⟨rfl, rfl⟩ | exact ⟨rfl, by rw [hW1]⟩
set_option maxHeartbeats 4000000 in
set_option maxRecDepth 100000 in
theorem ins_grow (L : Ins P) (hi : i < n) (hm : 0 < m) (hnc : n ≤ cap) (hroom : cap < n + m) (hbig : n + m ≤ 1000000) (hcl : cs.length = n * 3) (hvl : vs.length = m * 3) (hbw : rb < w.heap.size) (hvw : vb < w.heap.size)
    (hcs : ∀ j v, cs[j]? = some v → w.cell? ⟨rb, off + j, none⟩ = some v) (hvs : ∀ j v, vs[j]? = some v → w.cell? ⟨vb, voff + j, none⟩ = some v) (h1c : ∀ v ∈ cs, v.oneCell' = true) (h1v : ∀ v ∈ vs, v.oneCell' = true) :
    Calls P 38 #[.slice (some ⟨rb, off, none⟩) n cap, .int .i64 i, .slice (some ⟨vb, voff, none⟩) m vc] w fun e w' =>
      e = .returned (.slice (some ⟨w.heap.size, 0, none⟩) (n + m) (grownCap w (n + m) cap 51)) ∧
      w' = (((w.alloc (.cells ((cs.take (i * 3)).toArray ++ Builtin.zeroCells (Value.agg #[.string ⟨#[]⟩, .int .i64 0, .string ⟨#[]⟩]).cells (n + m - i) ++ Builtin.zeroCells (Value.agg #[.string ⟨#[]⟩, .int .i64 0, .string ⟨#[]⟩]).cells (grownCap w (n + m) cap 51 - (n + m))) 51)).drew.setCells w.heap.size (i * 3) vs).drew).setCells w.heap.size ((i + m) * 3) (cs.drop (i * 3)) := by
  have mixed := L.mixed
  have t0 := L.t0; have a0 := L.a0; have z0 := L.z0; have v0 := L.v0; have t3 := L.t3; have a3 := L.a3; have z3 := L.z3; have v3 := L.v3; have t4 := L.t4; have a4 := L.a4; have z4 := L.z4; have v4 := L.v4; have a51 := L.a51; have z51 := L.z51; have t43 := L.t43; have a43 := L.a43; have z43 := L.z43; have v43 := L.v43
  have u0 := run_underlying L.t0; have u3 := run_underlying L.t3; have u4 := run_underlying L.t4; have u43 := run_underlying L.t43
  obtain ⟨info, z, hinfo, hsz, hby, hz, hzl, hzv⟩ := L.i51
  have hz1 : ¬ ((m : Int) = 0) := by omega
  have hz2 : ¬ ((i : Int) = (n : Int)) := by omega
  have hz3 : (cap : Int) < (n : Int) + (m : Int) := by omega
  have hkk : (n : Int) + (m : Int) - (i : Int) = ((n + m - i : Nat) : Int) := by omega
  have hik : i + (n + m - i) = n + m := by omega
  have htl : (cs.take (i * 3)).length = i * 3 := by rw [List.length_take]; omega
  have hold : (Builtin.firstCells info.size i (.slice (some ⟨rb, off, none⟩) i cap)).run P w.drew = .ok (cs.take (i * 3)).toArray w.drew := by
    have h := run_loadCells_list (P := P) w.drew ⟨rb, off, none⟩ (cs.take (i * 3)) (fun j v hj => by
      rw [Addr.add_lit]
      rw [List.getElem?_take] at hj
      split at hj
      · exact hcs j v hj
      · cases hj)
    rw [htl] at h
    rw [hsz]
    simp [Builtin.firstCells, h]
  have hrz : ∀ ty, (Builtin.append_ #[43, 3] ty #[.slice (some ⟨rb, off, none⟩) i cap, .int .i64 ((n : Int) + (m : Int) - (i : Int))]).run P w =
      .ok (.slice (some ⟨w.heap.size, 0, none⟩) (n + m) (grownCap w (n + m) cap 51)) (w.drew.alloc (.cells ((cs.take (i * 3)).toArray ++ Builtin.zeroCells (Value.agg #[.string ⟨#[]⟩, .int .i64 0, .string ⟨#[]⟩]).cells (n + m - i) ++ Builtin.zeroCells (Value.agg #[.string ⟨#[]⟩, .int .i64 0, .string ⟨#[]⟩]).cells (grownCap w (n + m) cap 51 - (n + m))) 51)) := fun ty => by
    have h := Lib.run_append_grow_zeros w 43 3 ty 51 info _ .i64 .i64 L.t43 L.t3 hinfo hz (some ⟨rb, off, none⟩) i cap (cs.take (i * 3)) hold (n + m - i) (by omega) (by omega) (by omega) (by omega) (by rw [hby]; omega) (by rw [hby, hik]; exact growslice_fits hroom (by omega))
    rw [hik, hzv] at h
    rw [hkk]
    exact h
  obtain ⟨G, hG⟩ : ∃ G, G = grownCap w (n + m) cap 51 := ⟨_, rfl⟩
  obtain ⟨ROW, hROW⟩ : ∃ ROW : Array Value, ROW = (cs.take (i * 3)).toArray ++ Builtin.zeroCells (Value.agg #[.string ⟨#[]⟩, .int .i64 0, .string ⟨#[]⟩]).cells (n + m - i) ++ Builtin.zeroCells (Value.agg #[.string ⟨#[]⟩, .int .i64 0, .string ⟨#[]⟩]).cells (G - (n + m)) := ⟨_, rfl⟩
  rw [← hG] at hrz ⊢
  rw [← hROW] at hrz ⊢
  have hGn : n + m ≤ G := by rw [hG]; exact grownCap_ge w _ _ _
  have hRl : (n + m) * 3 ≤ ROW.size := by
    rw [hROW]
    simp only [Array.size_append, List.size_toArray, size_zeroCells, htl]
    show _ ≤ i * 3 + (n + m - i) * 3 + (G - (n + m)) * 3
    omega
  obtain ⟨W1, hW1⟩ : ∃ W1, W1 = w.drew.alloc (.cells ROW 51) := ⟨_, rfl⟩
  rw [← hW1] at hrz
  have hN : ∀ j, j < (n + m) * 3 → (W1.cell? ⟨w.heap.size, j, none⟩).isSome = true := fun j hj => by
    rw [hW1, World.cell?_alloc_at (w := w.drew) ROW _ w.heap.size j rfl, Array.getElem?_eq_getElem (by omega)]; rfl
  have hNf : ∀ j, W1.frozen? ⟨w.heap.size, j, none⟩ = false := fun j => by rw [hW1]; exact World.frozen?_alloc_at (w := w.drew) ROW _ w.heap.size j rfl
  have hOb : ∀ j v, w.cell? ⟨rb, j, none⟩ = some v → W1.cell? ⟨rb, j, none⟩ = some v := fun j v h => by rw [hW1, World.cell?_alloc_past (w := w.drew) _ rb j hbw]; exact h
  have hOv : ∀ j v, w.cell? ⟨vb, j, none⟩ = some v → W1.cell? ⟨vb, j, none⟩ = some v := fun j v h => by rw [hW1, World.cell?_alloc_past (w := w.drew) _ vb j hvw]; exact h
  have hcpA : ∀ (W : World), (∀ x, W.cell? x = W1.cell? x) → (∀ x, W.frozen? x = W1.frozen? x) → ∀ ty dc, (Builtin.copy_ #[43, 43] ty #[.slice (some ⟨w.heap.size, i * 3, none⟩) (n + m - i) dc, .slice (some ⟨vb, voff, none⟩) m vc]).run P W = .ok (goInt (m : Nat)) (W.setCells w.heap.size (i * 3) vs) := fun W hWc hWf ty dc =>
    run_copy_k W 43 43 ty 51 w.heap.size (i * 3) (n + m - i) dc vb voff m vc m vs L.t43 hinfo (by simp only [Nat.min_def]; split <;> omega) (by rw [hsz]; exact hvl)
      (fun j v hj => by rw [hWc]; exact hOv _ v (hvs j v hj))
      (fun j hj => by rw [hWc]; exact hN _ (by omega)) (fun j hj => by rw [hWf]; exact hNf _) h1v
  have hG63 : G ≤ 9223372036854775807 := by
    have := grownCap_le_maxLen w (n + m) cap 51 (by unfold maxLen; omega)
    rw [← hG] at this
    unfold maxLen at this
    omega
  have hGi : ¬ (G = i) := by omega
  have hGim : ¬ (G = i + m) := by omega
  have hci : ¬ (cap = i) := by omega
  have hbN : rb ≠ w.heap.size := by omega
  have hdl : (cs.drop (i * 3)).length = (n - i) * 3 := by rw [List.length_drop, hcl]; omega
  have hcpB : ∀ (W : World), (∀ x, W.cell? x = (W1.setCells w.heap.size (i * 3) vs).cell? x) → (∀ x, W.frozen? x = (W1.setCells w.heap.size (i * 3) vs).frozen? x) → ∀ ty dc sc, (Builtin.copy_ #[43, 43] ty #[.slice (some ⟨w.heap.size, (i + m) * 3, none⟩) (n + m - (i + m)) dc, .slice (some ⟨rb, off + i * 3, none⟩) (n - i) sc]).run P W = .ok (goInt (n - i : Nat)) (W.setCells w.heap.size ((i + m) * 3) (cs.drop (i * 3))) := fun W hWc hWf ty dc sc =>
    run_copy_k W 43 43 ty 51 w.heap.size ((i + m) * 3) (n + m - (i + m)) dc rb (off + i * 3) (n - i) sc (n - i) (cs.drop (i * 3)) L.t43 hinfo (by simp only [Nat.min_def]; split <;> omega) (by rw [hsz]; exact hdl)
      (fun j v hj => by
        rw [hWc, World.cell?_setCells_out _ _ _ _ _ (fun h _ => absurd h hbN), Nat.add_assoc]
        exact hOb _ v (hcs (i * 3 + j) v (by rwa [List.getElem?_drop] at hj)))
      (fun j hj => by rw [hWc]; exact isSome_setCells _ _ _ _ (fun t ht => hN _ (by omega)) _ (hN _ (by omega)))
      (fun j hj => by rw [hWf, World.frozen?_setCells]; exact hNf _) (fun v hv => h1c v (List.mem_of_mem_drop hv))
  subst hW1
  have hE1 : ∀ x, ((w.alloc (.cells ROW 51)).drew).cell? x = (w.drew.alloc (.cells ROW 51)).cell? x := fun x => rfl
  have hE2 : ∀ x, ((w.alloc (.cells ROW 51)).drew).frozen? x = (w.drew.alloc (.cells ROW 51)).frozen? x := fun x => rfl
  have hF1 : ∀ x, (((w.alloc (.cells ROW 51)).drew.setCells w.heap.size (i * 3) vs).drew).cell? x = ((w.drew.alloc (.cells ROW 51)).setCells w.heap.size (i * 3) vs).cell? x := fun x => rfl
  have hF2 : ∀ x, (((w.alloc (.cells ROW 51)).drew.setCells w.heap.size (i * 3) vs).drew).frozen? x = ((w.drew.alloc (.cells ROW 51)).setCells w.heap.size (i * 3) vs).frozen? x := fun x => rfl
  have hw1 : IntKind.i64.wrap ((i : Int) + (m : Int)) = (i : Int) + (m : Int) := by rw [IntKind.wrap_i64]; omega
  have hb1 : (0 : Int) ≤ (i : Int) + (m : Int) := by omega
  have hin : i ≤ n := by omega
  have htn : ((i : Int) + (m : Int)).toNat = i + m := by omega
  have hb3 : (i : Int) ≤ (n : Int) := by omega
  clear hkk hik hold hROW hG hRl hinfo hsz hby hz hzl hzv hcs hvs htl
  go_enter L.f38, Tryz.ntmps38
  go_wp2_with (first
    | (at_builtin; refine Lib.wpList_append_run _ rfl _ _ _ _ rfl _ _ rfl rfl _ _ (hrz _) ?_)
    | (at_builtin; refine wpList_copy_runI _ rfl _ _ 43 43 rfl _ _ rfl rfl (hcpA _ hE1 hE2 _ _) ?_)
    | (at_builtin; refine wpList_copy_runI _ rfl _ _ 43 43 rfl _ _ rfl rfl (hcpB _ (fun _ => rfl) (fun _ => rfl) _ _ _) ?_))
  go_region_law_o (refine step_copy_runI rfl _ _ 43 43 rfl (.slice (some ⟨w.heap.size, (i + m) * 3, none⟩) (n + m - (i + m)) (G - (i + m))) (.slice (some ⟨rb, off + i * 3, none⟩) (n - i) (cap - i)) (by simp [Act.eval, Act.put]) (by simp [Act.eval, Act.put]) (hcpB _ hF1 hF2 3 (G - (i + m)) (cap - i)) ?_)
  go_wp2
  go_ret
  exact ⟨rfl, rfl⟩
end
end Go.Sh
end
