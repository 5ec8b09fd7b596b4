/-
  The law of the coloured link in plain terms; a closed rendering of page Q, the view opaque.
-/
import Derived.Test.YtnhogklhegmjhaaGreatDoorShD2
set_option linter.all false
section
namespace Go.Sh
set_option maxRecDepth 10000
set_option linter.all false
def prefT : List (List Nat) := [[], [84, 97, 108, 107, 58], [85, 115, 101, 114, 58], [84, 101, 109, 112, 108, 97, 116, 101, 58], [67, 97, 116, 101, 103, 111, 114, 121, 58], [80, 114, 111, 106, 101, 99, 116, 58]]
def fmtT (t : Tt) : List Nat := prefT.getD t.1 [] ++ t.2
def textT (t : Tt) : List Nat := [91, 91, 58] ++ fmtT t ++ [124, 120, 93, 93]
def pathT (t : Tt) : List Nat := [47, 119, 105, 107, 105, 47] ++ (fmtT t).map fun c => match Nat.beq c 32 with
  | true => 95
  | false => c
def missT (ok : Bool) : List Nat := match ok with
  | true => []
  | false => [99, 108, 97, 115, 115, 61, 34, 109, 105, 115, 115, 105, 110, 103, 34, 32]
def htmlT (t : Tt) (ok : Bool) : List Nat := [60, 112, 62, 60, 97, 32] ++ missT ok ++ [104, 114, 101, 102, 61, 34] ++ pathT t ++ [34, 62, 120, 60, 47, 97, 62, 60, 47, 112, 62, 10]
def limQ : SV := .agg [.int .i64 ((2000 : Nat) : Int), .int .i64 ((16000 : Nat) : Int), .int .i64 ((8 : Nat) : Int)]
noncomputable def runR (t : Tt) (ok : Bool) : Option (SV × Heap) := callF (tabSaid tabB [47, 10] (saidL (textT t) t ok)) 100 20 8 [vQ, tC tQ, limQ] h0
def htmlIs (html : List Nat) (r : Option (SV × Heap)) : Bool := match r with
  | some (.tup [.agg [.str s, a, b, c, .bool false], .int .i64 (.ofNat 0)], _) => isSlice a && isSlice b && isSlice c && eqS s html
  | _ => false
noncomputable def goodR (t : Tt) : Bool := htmlIs (htmlT t true) (runR t true) && htmlIs (htmlT t false) (runR t false)
theorem k_path : titL.all (fun t => saidIs (runF 11 [tC t]) (.str (pathT t))) = true := by kernel_rfl
end Go.Sh
end
