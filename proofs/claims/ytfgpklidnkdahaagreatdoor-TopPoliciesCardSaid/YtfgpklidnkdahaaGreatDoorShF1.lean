/-
  TopPolicies answers true, whatever is handed in: the given row and the given card.
  Conditions: none beyond the row's own (the listed variables of Go's library hold what the text of the program lays in them).
-/
import Derived.Test.YtfgpklidnkdahaaGreatDoorRows
import Derived.Test.YtfgpklidnkdahaaGreatDoorShH8
import Derived.Test.YtfgpklidnkdahaaGreatDoorShF0
import Derived.Deep.DeepHandedRow
import Derived.Deep.DeepWitnessRowRef
import Derived.Lib.LaidIn
import Derived.ProofKit
import Derived.SizedLaws
import Derived.SliceStrings
namespace Go.Proofs.YtfgpklidnkdahaaGreatDoor
open Go.ChangeShapes Go.WideShapes Go.ChangeAt Go.RowKit Go.Lib
open Go.ChangeMaps (open_string shut_string)

theorem own : ownKnob Tryz.prog.godebug = none := by kernel_rfl
theorem laidOut : laidOutB Tryz.prog = true := by kernel_rfl

/-- The cells that a datum of numbers takes. -/
def litCell : DataW Unit → Value
  | .lit (.int k n) => .int k n
  | _ => Go.undef
def rowCells : DataW Unit → List Value
  | .agg l => l.map litCell
  | _ => []
def rowsCells : DataW Unit → List Value
  | .agg l => l.flatMap rowCells
  | _ => []

/-- A world that fits: the listed variables hold what their initialisers lay. -/
noncomputable def laidWorld (os : Os) : World :=
  let N := (World.settled Tryz.prog os).heap.size
  let w0 := World.holding Tryz.prog os ⟨#[
    .cells #[.string ⟨#[105, 110, 118, 97, 108, 105, 100, 32, 115, 121, 110, 116, 97, 120]⟩] 591,
    .cells #[.string ⟨#[118, 97, 108, 117, 101, 32, 111, 117, 116, 32, 111, 102, 32, 114, 97, 110, 103, 101]⟩] 591], #[], []⟩
  let put (h : Array Obj) (g : Nat) (cs : Array Value) : Array Obj := h.modify g fun
    | .cells _ t frozen => .cells cs t frozen
    | o => o
  let h1 := put w0.heap 1 (rowCells Rows.laid_unicode_utf8_first).toArray
  let h2 := put h1 2 (rowsCells Rows.laid_unicode_utf8_acceptRanges).toArray
  let h3 := put h2 3 (rowCells Rows.laid_internal_strconv_uint64pow10).toArray
  let h6 := put h3 6 (rowCells Rows.laid_math_bits_deBruijn32tab).toArray
  let h7 := put h6 7 (rowCells Rows.laid_math_bits_deBruijn64tab).toArray
  let h4 := put h7 4 #[.iface 589 (.pointer (some ⟨N, 0, none⟩))]
  let h5 := put h4 5 #[.iface 589 (.pointer (some ⟨N + 1, 0, none⟩))]
  { w0 with heap := h5 }

noncomputable abbrev N0 : Nat := (World.settled Tryz.prog default).heap.size
theorem piece (os : Os) (args : Array Value) : LaidIn Tryz.prog ((laidWorld os).forCall (fun _ _ => 0) ⟨#[], args, []⟩).memory Rows.topPoliciesRow.laid [1, 2, 3, 6, 7, 4, N0, 5, N0 + 1] :=
  LaidIn.of_run [1, 2, 3, 6, 7, 4, N0, 5, N0 + 1] 8 (by kernel_rfl) (by kernel_rfl) (by kernel_rfl) (by kernel_rfl)
theorem laid_met (os : Os) (args : Array Value) : laidMet Tryz.prog Rows.topPoliciesRow.laid ((laidWorld os).forCall (fun _ _ => 0) ⟨#[], args, []⟩).memory := (piece os args).met

/-- What is handed in there. -/
def args0 : Array Value := #[.slice none 0 0]

theorem witness_row (os : Os) {H : Type} (enc : TypeId × Value → H) :
    (OpenSpec.ofChange Rows.topPoliciesSpec).preRow enc Tryz.prog Tryz.f3 Rows.topPoliciesRow.domain false Rows.topPoliciesRow.laid ((laidWorld os).forCall (fun _ _ => 0) ⟨#[], args0, []⟩).memory args0 := by
  have hw : (DataW.whole enc Tryz.prog ((laidWorld os).forCall (fun _ _ => 0) ⟨#[], args0, []⟩).memory Tryz.f3.params.toList (OpenSpec.ofChange Rows.topPoliciesSpec).vars false args0.toList 8).map (fun x => (x.1, x.2.1)) =
      some ([.nil], []) := by kernel_rfl
  obtain ⟨⟨x1, x2, x3⟩, hx, hx1⟩ := Option.map_eq_some_iff.1 hw
  simp only [Prod.mk.injEq] at hx1
  obtain ⟨rfl, rfl⟩ := hx1
  exact OpenSpec.preRow_of_cond 8 hx (by kernel_rfl) (fun k hk => by cases hk) (by kernel_rfl) (laid_met os _)

set_option maxRecDepth 100000 in
/-- The call answers true, and nothing that was there has turned. -/
theorem top_post {H : Type} {enc : TypeId × Value → H} {W : World} {base : Nat} {args : Array Value} {ds gs : List (DataW H)} {before : List MemPlace}
    (hval0 : ∀ (j : Nat) t v, Tryz.f3.params[j]? = some t → args[j]? = some v → Value.okWide Tryz.prog W .any base t v)
    (hW : DataW.Whole enc Tryz.prog Tryz.f3.params.toList [] false W args.toList ds gs before)
    (hz : (DataW.weightsEach Tryz.prog Tryz.f3.params.toList ds).all (· ≤ reachBytes) = true) (hsh : W.ShapedOpen Tryz.prog) :
    Calls Tryz.prog 3 args W fun e W' => ∃ v, e = .returned v ∧ Rows.topPoliciesSpec.post enc Tryz.prog Tryz.f3 false true false false W args v W' := by
  have hW' := hW
  have hlt : ∀ x ∈ before, x.block < W.heap.size := fun x hx => hW.lt x hx
  obtain ⟨p, q, hA0, hV0, rfl, _, _⟩ := hW
  have hA : DataW.TrodAll enc Tryz.prog W 0 (fun _ => true) true Tryz.f3.params.toList args.toList ds p := hA0
  have hval : ∀ (j : Nat) t v, Tryz.f3.params[j]? = some t → args[j]? = some v → Value.okWide Tryz.prog W .any base t v := hval0
  rw [Tryz.params3] at hA hval hz
  obtain ⟨v0, d0, rfl, rfl, h0⟩ := trodAll_one hA
  obtain ⟨rfl, rfl⟩ := trodVars_none hV0
  have hv0 := hval 0 22 v0 rfl rfl
  have hslice : v0 = .slice none 0 0 ∨ ∃ (a : Addr) (len cap : Nat) (zs : List Int), v0 = .slice (some a) len cap ∧ a.spot = none ∧ len ≤ cap ∧ len < 140737488355328 ∧ zs.length = cap ∧ ∀ i, i < zs.length → W.cell? (a.add i) = some (.int .i64 (zs.getD i 0)) := by
    obtain ⟨fuel, hf⟩ := h0
    rcases open_ints Tryz.underlying22 Tryz.underlying3 (by kernel_rfl) hf with ⟨hc, _⟩ | ⟨a, len, cap, zs, hc, _, hlc, _, hzl, hx, hcell, _⟩
    · obtain ⟨a', len', cap', rfl⟩ := okWide_slice Tryz.underlying22 hv0
      simp [Value.cells] at hc
      obtain ⟨rfl, rfl, rfl⟩ := hc
      exact .inl rfl
    · obtain ⟨a', len', cap', rfl⟩ := okWide_slice Tryz.underlying22 hv0
      simp [Value.cells] at hc
      obtain ⟨rfl, rfl, rfl⟩ := hc
      simp only [Value.okWide, Tryz.underlying22, Cell.okWide, Cell.ok] at hv0
      simp only [Prod.mk.injEq] at hx
      obtain ⟨rfl, rfl⟩ := hx
      have hb := sized_slice hz (j := 0) (t := 22) (e := 3) rfl rfl Tryz.underlying22
      have h8 : Tryz.prog.bytesOf 3 = 8 := by kernel_rfl
      have hr : reachBytes = 140737488351232 := rfl
      rw [h8, hr] at hb
      rw [if_pos rfl] at hzl
      simp only [lits, List.length_map, List.length_take, List.length_drop] at hb
      exact .inr ⟨a, len', cap', zs, rfl, hv0.2.2.2.1, hlc, by omega, hzl, hcell⟩
  refine (Go.Sh.top_calls hsh hslice).mono ?_
  rintro e W' ⟨rfl, bel⟩
  refine ⟨_, rfl, _, _, _, [], p, [], hW', ?_, ?_, ?_, bel.frame _, fun h => by cases h⟩
  · exact trodAll_mk1 (shut_bool Tryz.underlying4 true)
  · exact trodAll_mk1 (Below.trod laidOut (by kernel_rfl) (of_decide_eq_true (by kernel_rfl)) h0 bel (fun x hx => hlt x (by simp [hx])))
  · rfl

set_option maxRecDepth 100000 in
theorem top_lifted (os : Os) (started : os.Started) (H : Type) (enc : TypeId × Value → H) (F : Stop.Interp) :
    ReturnsInHanded {} Tryz.checked os 3 .any ((OpenSpec.ofChange Rows.topPoliciesSpec).preRow enc Tryz.prog Tryz.f3 Rows.topPoliciesRow.domain false Rows.topPoliciesRow.laid) (((OpenSpec.ofChange Rows.topPoliciesSpec).at F).post enc Tryz.prog Tryz.f3 false true false false) := by
  refine returnsInHanded_of_row (C := Tryz.checked) (s := OpenSpec.ofChange Rows.topPoliciesSpec) own started (by kernel_rfl) Tryz.func3
    (witness_row_atRef (enc := enc) (C := Tryz.checked) false (laidWorld os) args0 rfl (by kernel_rfl) (by kernel_rfl) (by kernel_rfl) (witness_row os enc)) ?_
  intro W base args ds gs before hval0 hW _ _ hz _ hsh _
  have hW0 := hW
  obtain ⟨_, _, _, hV0, _⟩ := hW0
  obtain ⟨rfl, _⟩ := trodVars_none hV0
  have hz' : (DataW.weightsEach Tryz.prog (Tryz.f3.params.toList ++ []) (ds ++ [])).all (· ≤ reachBytes) = true := hz
  rw [List.append_nil, List.append_nil] at hz'
  exact top_post hval0 hW hz' hsh

theorem eprog : Tryz.pinned.checked.prog = Tryz.prog := rfl
theorem eplain : (OpenSpec.ofChange Rows.topPoliciesSpec).bare.plain = Rows.topPoliciesSpec.plain := rfl
theorem evars : (OpenSpec.ofChange Rows.topPoliciesSpec).bare.vars = Rows.topPoliciesSpec.vars := rfl
theorem fact0b : (Rows.topPoliciesRow.wf (OpenSpec.ofChange (OpenSpec.ofChange Rows.topPoliciesSpec).bare)) = true := by kernel_rfl
theorem facts : joinedFacts Tryz.pinned.checked.prog 3 Tryz.f3 (OpenSpec.ofChange Rows.topPoliciesSpec).bare Rows.topPoliciesRow = true := by
  rw [eprog]
  unfold joinedFacts
  rw [eplain, evars]
  refine band ?_ fact31
  refine band ?_ fact30
  refine band ?_ fact29
  refine band ?_ (by kernel_rfl)
  refine band ?_ fact27
  refine band ?_ fact26
  refine band ?_ fact25
  refine band ?_ fact24
  refine band ?_ fact23
  refine band ?_ fact22
  refine band ?_ fact21
  refine band ?_ fact20
  refine band ?_ fact19
  refine band ?_ fact18
  refine band ?_ fact17
  refine band ?_ fact16
  refine band ?_ fact15
  refine band ?_ fact14
  refine band ?_ fact13
  refine band ?_ fact12
  refine band ?_ fact11
  refine band ?_ fact10
  refine band ?_ fact9
  refine band ?_ fact8
  refine band ?_ fact7
  refine band ?_ fact6
  refine band ?_ fact5
  refine band ?_ fact4
  refine band ?_ fact3
  refine band ?_ fact2
  refine band ?_ fact1
  exact fact0b

theorem top_holds : Rows.TopPoliciesSaid :=
  OpenClaim.holds_of_cond 3 Tryz.f3 rfl rfl rfl rfl rfl rfl rfl ⟨rfl, rfl, rfl, rfl, rfl⟩ rfl rfl rfl rfl rfl (by kernel_rfl) Tryz.func3 facts
    (of_decide_eq_true (by kernel_rfl)) (by unfold Func.isWrapper; rw [if_neg (of_decide_eq_false (by kernel_rfl))]; exact ⟨rfl, rfl⟩)
    (fun os started H enc _ F0 => by rw [OpenClaim.pre_eq_preRow]; exact top_lifted os started H enc F0)
end Go.Proofs.YtfgpklidnkdahaaGreatDoor
