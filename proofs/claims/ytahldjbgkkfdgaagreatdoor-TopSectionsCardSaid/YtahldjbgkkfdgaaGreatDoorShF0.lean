/-
  The closed facts of the row, one by one.
-/
import Derived.Test.YtahldjbgkkfdgaaGreatDoorRows
import Derived.JoinedOf
import Derived.KernelRfl
namespace Go.Proofs.YtahldjbgkkfdgaaGreatDoor
open Go

theorem band {a b : Bool} (h : a = true) (k : b = true) : (a && b) = true := by rw [h, k]; rfl
theorem fact0 : (Rows.topSectionsRow.wf (OpenSpec.ofChange Rows.topSectionsSpec)) = true := by kernel_rfl
theorem fact1 : (laidOutB Tryz.prog) = true := by kernel_rfl
theorem fact2 : (mapsRowed Tryz.prog) = true := by kernel_rfl
theorem fact3 : (Tryz.f3.params.all (Tryz.prog.readableRec ·)) = true := by kernel_rfl
theorem fact4 : (namedTie Tryz.prog Rows.topSectionsRow.named Rows.topSectionsSpec.vars) = true := by kernel_rfl
theorem fact5 : (Rows.topSectionsRow.stops == []) = true := by kernel_rfl
theorem fact6 : (Tryz.prog.stops == []) = true := by kernel_rfl
theorem fact7 : (Rows.topSectionsRow.knobs == []) = true := by kernel_rfl
theorem fact8 : (Tryz.prog.stopKnobs == []) = true := by kernel_rfl
theorem fact9 : (Rows.topSectionsRow.inPlace == Tryz.prog.inPlace 3) = true := by kernel_rfl
theorem fact10 : (Rows.topSectionsRow.unfollowed == Tryz.prog.unfollowed 3) = true := by kernel_rfl
theorem fact11 : (Rows.topSectionsRow.recurses == Tryz.prog.recurses 3) = true := by kernel_rfl
theorem fact12 : (Rows.topSectionsRow.named == Tryz.prog.varsNamed 3) = true := by kernel_rfl
theorem fact13 : (Rows.topSectionsRow.maps == (Tryz.f3.params.toList ++ Rows.topSectionsSpec.plain.varTypes Tryz.prog).any (Tryz.prog.mapsRec ·)) = true := by kernel_rfl
theorem fact14 : (Rows.topSectionsRow.ifaces == (Tryz.f3.params.toList ++ Rows.topSectionsSpec.plain.varTypes Tryz.prog).any (Tryz.prog.ifacesRec ·)) = true := by kernel_rfl
theorem fact15 : (Rows.topSectionsRow.mapsOut == Tryz.prog.mapsAmong Tryz.f3.resultTypes.toList) = true := by kernel_rfl
theorem fact16 : (Rows.topSectionsRow.loops == (Tryz.f3.params.toList ++ Rows.topSectionsSpec.plain.varTypes Tryz.prog).any (Tryz.prog.loopsFrom ·)) = true := by kernel_rfl
theorem fact17 : (Rows.topSectionsRow.wideKeys == (Tryz.f3.params.toList ++ Rows.topSectionsSpec.plain.varTypes Tryz.prog ++ Tryz.f3.resultTypes.toList).any (Tryz.prog.wideKeysFrom ·)) = true := by kernel_rfl
theorem fact18 : (Rows.topSectionsSpec.vars.all (Tryz.prog.varReadable ·)) = true := by kernel_rfl
theorem fact19 : (Tryz.f3.resultTypes.all (fun t => Tryz.prog.readableRec t && decide (t < Tryz.prog.types.size))) = true := by kernel_rfl
theorem fact20 : (Rows.topSectionsRow.ifacesOut == Tryz.f3.resultTypes.toList.any (Tryz.prog.ifacesRec ·)) = true := by kernel_rfl
theorem fact21 : (Rows.topSectionsRow.loopsOut == Tryz.f3.resultTypes.toList.any (Tryz.prog.loopsFrom ·)) = true := by kernel_rfl
theorem fact22 : (Rows.topSectionsRow.plainKeys == Tryz.prog.plainKeys) = true := by kernel_rfl
theorem fact23 : (Rows.topSectionsRow.shortTexts.isNone) = true := by kernel_rfl
theorem fact24 : (Tryz.prog.stopsHeard) = true := by kernel_rfl
theorem fact25 : (Tryz.prog.mayEnter) = true := by kernel_rfl
theorem fact26 : (Rows.topSectionsRow.lifted == Tryz.prog.liftsFinal) = true := by kernel_rfl
theorem fact27 : (Tryz.prog.make == some Rows.topSectionsRow.make) = true := by kernel_rfl
theorem fact28 : (Rows.topSectionsRow.kinds == (if Rows.topSectionsRow.domain.isEmpty then [] else Tryz.f3.params.toList.map fun t => match Tryz.prog.underlying t with | some (.int k) => some k | _ => none)) = true := by kernel_rfl
theorem fact29 : (Rows.topSectionsRow.pinned == Rows.topSectionsRow.pinnedBy) = true := by kernel_rfl
theorem fact30 : (Rows.topSectionsRow.veiled == (Tryz.f3.params.toList ++ Rows.topSectionsSpec.plain.varTypes Tryz.prog ++ Tryz.f3.resultTypes.toList).any (Tryz.prog.veiledRec ·)) = true := by kernel_rfl
theorem fact31 : (Rows.topSectionsRow.veiledFits Tryz.prog Tryz.f3.params.toList (Tryz.f3.params.toList ++ Rows.topSectionsSpec.plain.varTypes Tryz.prog ++ Tryz.f3.resultTypes.toList)) = true := by kernel_rfl
end Go.Proofs.YtahldjbgkkfdgaaGreatDoor
