/-
  Closed facts: what functions answer at a few arguments without addresses, reckoned by the kernel.
-/
import Derived.Test.YtnhogklhegmjhaaGreatDoorShC0
import Derived.Test.YtnhogklhegmjhaaGreatDoorShA7
import Derived.KernelRfl
set_option linter.all false
section
namespace Go.Sh
set_option maxRecDepth 10000
set_option linter.all false
def saidIs (r : Option (SV × Heap)) (v : SV) : Bool := match flatR r with
  | some u => beqS u v
  | none => false
noncomputable def runF (f : FuncId) (args : List SV) : Option (SV × Heap) := callF tabB 100 20 f args h0
theorem nat_fact {f : FuncId} {args : List SV} {v : SV} (ht : tabT f = some (.native (natFlat callB h0 f))) (ha : args.all SV.flatA = true) (h : saidIs (runF f args) v = true) {lf n : Nat} (hn : 1 ≤ n) (H : Heap) : callS tabT lf n f args H = some (v, H) := by
  obtain ⟨n, rfl⟩ : ∃ m, n = m + 1 := ⟨n - 1, by omega⟩
  have hr : flatR (callB f args h0) = some v := by
    unfold saidIs runF at h
    rw [callF_eq] at h
    unfold callB
    split at h
    · rename_i u hu
      rw [hu, beqS_eq h]
    · cases h
  simp only [callS, ht]
  exact natFlat_eq ha hr H
theorem tab42n : tabT 42 = some (.native (natFlat callB h0 42)) := by kernel_rfl
theorem tab45n : tabT 45 = some (.native (natFlat callB h0 45)) := by kernel_rfl
theorem tab48n : tabT 48 = some (.native (natFlat callB h0 48)) := by kernel_rfl
theorem tab56n : tabT 56 = some (.native (natFlat callB h0 56)) := by kernel_rfl
theorem tab7n : tabT 7 = some (.native (natFlat callB h0 7)) := by kernel_rfl
theorem tab153n : tabT 153 = some (.native (natFlat callB h0 153)) := by kernel_rfl
theorem tab230n : tabT 230 = some (.native (natFlat callB h0 230)) := by kernel_rfl
theorem tab131n : tabT 131 = some (.native (natFlat callB h0 131)) := by kernel_rfl
theorem tab182n : tabT 182 = some (.native (natFlat callB h0 182)) := by kernel_rfl
theorem tab234n : tabT 234 = some (.native (natFlat callB h0 234)) := by kernel_rfl
theorem tab29n : tabT 29 = some (.native (natFlat callB h0 29)) := by kernel_rfl
theorem tab11n : tabT 11 = some (.native (natFlat callB h0 11)) := by kernel_rfl
theorem tab9n : tabT 9 = some (.native (natFlat callB h0 9)) := by kernel_rfl
/-! ### The lists -/
def sAll : List Nat := [97, 108, 108]
def sUsers : List Nat := [117, 115, 101, 114, 115]
def sStaff : List Nat := [115, 116, 97, 102, 102]
def sMods : List Nat := [109, 111, 100, 115]
def sGold : List Nat := [103, 111, 108, 100]
def grpL : List (List Nat) := [sStaff, sMods, sGold]
def knownL : List (List Nat) := [sAll, sUsers, sStaff, sMods, sGold]
def memL : List (List Nat) := [[97, 110, 110], [98, 111, 98], sStaff, sMods, [122, 111, 101], 64 :: sStaff, 64 :: sMods, 64 :: sGold, 64 :: sUsers]
def secL : List (List Nat) := [[], [115], [116], [97, 32, 98]]
abbrev Tt := Nat × List Nat
def tC (t : Tt) : SV := .agg [.int .i64 (t.1 : Int), .str t.2]
def namesT : List (List Nat) := [[65], [66], [65, 47, 66], [67], [84], [85, 47, 120], [65, 47, 66, 47, 99], [76, 111, 110, 103, 32, 110, 97, 109, 101], [49], [88]]
def tQ : Tt := (0, [81])
def titL : List Tt := [0, 1, 2, 3, 4, 5].flatMap fun s => namesT.map fun n => (s, n)
def pagL : List Tt := [(0, [65]), (0, [66]), (0, [65, 47, 66]), (0, [67]), (0, [68]), (3, [84]), (3, [65]), (3, [66]), (3, [85, 47, 120]), (3, [88])]
def cmpT (a b : Tt) : Int := if a = b then 0 else if a.1 < b.1 ∨ (a.1 = b.1 ∧ ltS a.2 b.2 = true) then -1 else 1
def keyC (k : Nat) (t : Tt) : SV := .agg [.int .i64 (k : Int), .int .i64 (t.1 : Int), .str t.2, .int .i64 ((0 : Nat) : Int)]
/-! ### The facts -/
theorem said_all {α : Type} {l : List α} {f : α → Bool} (h : l.all f = true) {a : α} (ha : a ∈ l) : f a = true := List.all_eq_true.1 h a ha
theorem k_isname : ([[97, 110, 110], [98, 111, 98], [], [122, 111, 101]] : List (List Nat)).all (fun s => saidIs (runF 42 [.str s]) (.bool !s.isEmpty)) = true := by kernel_rfl
theorem k_valid : (titL ++ pagL ++ [tQ]).all (fun t => saidIs (runF 48 [tC t]) (.bool true)) = true := by kernel_rfl
theorem k_cmp45 : pagL.all (fun a => pagL.all fun b => saidIs (runF 45 [tC a, tC b]) (.int .i64 (cmpT a b))) = true := by kernel_rfl
theorem k_cmp56 : (tQ :: pagL).all (fun a => (tQ :: pagL).all fun b => saidIs (runF 56 [tC a, tC b]) (.int .i64 (cmpT a b))) = true := by kernel_rfl
theorem k_before : pagL.all (fun a => saidIs (runF 7 [tC a, tC tQ]) (.bool (decide (cmpT a tQ = -1)))) = true := by kernel_rfl
theorem k_name153 : (knownL ++ [[97, 110, 110], [98, 111, 98], [122, 111, 101]]).all (fun s => saidIs (runF 153 [.str s]) (.bool true)) = true := by kernel_rfl
theorem k_built : knownL.all (fun s => saidIs (runF 230 [.str s]) (.bool (decide (s = sAll ∨ s = sUsers)))) = true := by kernel_rfl
def cutP (s : List Nat) : SV := match s with
  | 64 :: r => .tup [.str r, .bool true]
  | s => .tup [.str s, .bool false]
theorem k_cut : memL.all (fun s => saidIs (runF 131 [.str s, .str [64]]) (cutP s)) = true := by kernel_rfl
theorem k_trim : secL.all (fun s => saidIs (runF 182 [.str s, .str [32, 9]]) (.str s)) = true := by kernel_rfl
theorem k_any : secL.all (fun s => saidIs (runF 234 [.str s, .str [10, 124]]) (.bool false)) = true := by kernel_rfl
theorem k_key : saidIs (runF 29 [keyC 1 tQ]) (.bool true) = true := by kernel_rfl
theorem k_keys : titL.all (fun t => saidIs (runF 29 [keyC 2 t]) (.bool true)) = true := by kernel_rfl
theorem k_wide : saidIs (runF 9 []) (.agg [.int .i64 2000, .int .i64 16000, .int .i64 8]) = true := by kernel_rfl
end Go.Sh
end
