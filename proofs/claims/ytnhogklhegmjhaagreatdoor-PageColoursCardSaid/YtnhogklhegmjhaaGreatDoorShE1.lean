/-
  The tables are true of the program.
-/
import Derived.Test.YtnhogklhegmjhaaGreatDoorShE0
import Derived.Test.YtnhogklhegmjhaaGreatDoorShB4
set_option linter.all false
section
namespace Go.Sh
open Go.Proofs
set_option maxRecDepth 10000
def EntryOK (p : Nat × SFun) : Prop := match p.2 with
  | .code c => compN p.1 = some c
  | .native g => NatOK Tryz.prog p.1 g
  | .dnative g => enterable Tryz.prog p.1 = true ∧ ∀ args, g args = true → ∀ φ B H w (args' : Array Value), VRL φ args args'.toList → HG ground φ B H w → CallsD Tryz.prog p.1 args' .returning w (DPost φ B H w H)
theorem entry_code {f : Nat} {c : SFunc} {l : List (Nat × SFun)} (h : compN f = some c) (hl : ∀ p ∈ l, EntryOK p) : ∀ p ∈ (f, SFun.code c) :: l, EntryOK p := List.forall_mem_cons.2 ⟨h, hl⟩
theorem entry_nil : ∀ p ∈ ([] : List (Nat × SFun)), EntryOK p := fun _ h => (by cases h)
theorem comp_of {f : FuncId} {sf : SFunc} (h : compN f = some sf) : ∃ fn, Tryz.prog.funcs[f]? = some fn ∧ compF Tryz.prog fn = some sf ∧ (fn.name == "runtime.NumGoroutine") = false := by
  unfold compN at h
  split at h
  · rename_i fn hfn
    split at h
    · cases h
    · rename_i hn
      exact ⟨fn, hfn, h, hn⟩
  · cases h
theorem treeF_cons (m : Nat) (b : SFun) (l : List (Nat × SFun)) : treeF ((m, b) :: l) = (treeF l).put m b := by
  show setP (pth m) (treeF l) b = _
  unfold pth
  rw [setP_pthF _ _ _ _ (Nat.lt_succ_self _)]
  rfl
theorem treeF_get : ∀ (l : List (Nat × SFun)) (n : Nat) (a : SFun), (treeF l).get n = some a → (n, a) ∈ l
  | [], n, a, h => by
    have e : treeF [] = .leaf := rfl
    rw [e] at h
    cases n <;> simp [Tr.get] at h
  | (m, b) :: l, n, a, h => by
    rw [treeF_cons, Tr.get_put] at h
    split at h
    · rename_i e
      cases h
      subst e
      exact List.mem_cons_self ..
    · exact List.mem_cons_of_mem _ (treeF_get l n a h)
theorem tabF_get {l : List (Nat × SFun)} {f : FuncId} {x : SFun} (h : tabF (treeF l) f = some x) : (f, x) ∈ l := by
  rw [tabF_eq] at h
  exact treeF_get _ _ _ h
theorem tab_of {l : List (Nat × SFun)} (hl : ∀ p ∈ l, EntryOK p) : TabOK ground Tryz.prog (tabF (treeF l)) where
  code := fun f sf h => comp_of (hl _ (tabF_get h))
  native := fun f g h => hl _ (tabF_get h)
  dnative := fun f g h => hl _ (tabF_get h)
theorem mixed_ok : Tryz.prog.follows .mixedOrders = true := by kernel_rfl
theorem entriesB : ∀ p ∈ tabBL, EntryOK p := by
  unfold tabBL
  refine List.forall_mem_cons.2 ⟨nat31, ?_⟩
  refine List.forall_mem_cons.2 ⟨nat120, ?_⟩
  refine List.forall_mem_cons.2 ⟨nat176, ?_⟩
  refine List.forall_mem_cons.2 ⟨nat250, ?_⟩
  refine List.forall_mem_cons.2 ⟨d99, ?_⟩
  refine entry_code k7 ?_
  refine entry_code k8 ?_
  refine entry_code k9 ?_
  refine entry_code k11 ?_
  refine entry_code k12 ?_
  refine entry_code k21 ?_
  refine entry_code k22 ?_
  refine entry_code k23 ?_
  refine entry_code k24 ?_
  refine entry_code k25 ?_
  refine entry_code k26 ?_
  refine entry_code k27 ?_
  refine entry_code k29 ?_
  refine entry_code k35 ?_
  refine entry_code k36 ?_
  refine entry_code k37 ?_
  refine entry_code k38 ?_
  refine entry_code k40 ?_
  refine entry_code k42 ?_
  refine entry_code k45 ?_
  refine entry_code k48 ?_
  refine entry_code k49 ?_
  refine entry_code k50 ?_
  refine entry_code k52 ?_
  refine entry_code k53 ?_
  refine entry_code k54 ?_
  refine entry_code k55 ?_
  refine entry_code k56 ?_
  refine entry_code k57 ?_
  refine entry_code k58 ?_
  refine entry_code k59 ?_
  refine entry_code k60 ?_
  refine entry_code k61 ?_
  refine entry_code k62 ?_
  refine entry_code k63 ?_
  refine entry_code k64 ?_
  refine entry_code k65 ?_
  refine entry_code k66 ?_
  refine entry_code k67 ?_
  refine entry_code k69 ?_
  refine entry_code k70 ?_
  refine entry_code k71 ?_
  refine entry_code k73 ?_
  refine entry_code k75 ?_
  refine entry_code k84 ?_
  refine entry_code k85 ?_
  refine entry_code k86 ?_
  refine entry_code k93 ?_
  refine entry_code k94 ?_
  refine entry_code k95 ?_
  refine entry_code k96 ?_
  refine entry_code k98 ?_
  refine entry_code k100 ?_
  refine entry_code k102 ?_
  refine entry_code k103 ?_
  refine entry_code k104 ?_
  refine entry_code k106 ?_
  refine entry_code k108 ?_
  refine entry_code k109 ?_
  refine entry_code k114 ?_
  refine entry_code k117 ?_
  refine entry_code k118 ?_
  refine entry_code k119 ?_
  refine entry_code k125 ?_
  refine entry_code k126 ?_
  refine entry_code k127 ?_
  refine entry_code k128 ?_
  refine entry_code k129 ?_
  refine entry_code k131 ?_
  refine entry_code k132 ?_
  refine entry_code k133 ?_
  refine entry_code k134 ?_
  refine entry_code k135 ?_
  refine entry_code k136 ?_
  refine entry_code k137 ?_
  refine entry_code k138 ?_
  refine entry_code k153 ?_
  refine entry_code k154 ?_
  refine entry_code k155 ?_
  refine entry_code k156 ?_
  refine entry_code k157 ?_
  refine entry_code k158 ?_
  refine entry_code k159 ?_
  refine entry_code k161 ?_
  refine entry_code k163 ?_
  refine entry_code k165 ?_
  refine entry_code k168 ?_
  refine entry_code k171 ?_
  refine entry_code k172 ?_
  refine entry_code k175 ?_
  refine entry_code k177 ?_
  refine entry_code k178 ?_
  refine entry_code k180 ?_
  refine entry_code k181 ?_
  refine entry_code k182 ?_
  refine entry_code k183 ?_
  refine entry_code k185 ?_
  refine entry_code k188 ?_
  refine entry_code k197 ?_
  refine entry_code k198 ?_
  refine entry_code k203 ?_
  refine entry_code k204 ?_
  refine entry_code k206 ?_
  refine entry_code k209 ?_
  refine entry_code k212 ?_
  refine entry_code k213 ?_
  refine entry_code k214 ?_
  refine entry_code k215 ?_
  refine entry_code k217 ?_
  refine entry_code k218 ?_
  refine entry_code k226 ?_
  refine entry_code k230 ?_
  refine entry_code k234 ?_
  refine entry_code k235 ?_
  refine entry_code k236 ?_
  refine entry_code k238 ?_
  refine entry_code k239 ?_
  refine entry_code k251 ?_
  refine entry_code k252 ?_
  refine entry_code k254 ?_
  refine entry_code k255 ?_
  refine entry_code k266 ?_
  refine entry_code k267 ?_
  refine entry_code k268 ?_
  refine entry_code k270 ?_
  refine entry_code k272 ?_
  refine entry_code k273 ?_
  refine entry_code k274 ?_
  refine entry_code k275 ?_
  refine entry_code k282 ?_
  refine entry_code k283 ?_
  refine entry_code k307 ?_
  refine entry_code k308 ?_
  refine entry_code k309 ?_
  refine entry_code k310 ?_
  refine entry_code k311 ?_
  refine entry_code k312 ?_
  refine entry_code k315 ?_
  refine entry_code k345 ?_
  refine entry_code k346 ?_
  refine entry_code k347 ?_
  refine entry_code k380 ?_
  refine entry_code k381 ?_
  refine entry_code k383 ?_
  refine entry_code k545 ?_
  refine entry_code k10 ?_
  refine entry_code k28 ?_
  refine entry_code k34 ?_
  refine entry_code k47 ?_
  refine entry_code k89 ?_
  refine entry_code k90 ?_
  refine entry_code k91 ?_
  refine entry_code k92 ?_
  refine entry_code k43 ?_
  exact entry_nil
theorem tabB_ok : TabOK ground Tryz.prog tabB := tab_of entriesB
theorem callB_ok : CallOK ground Tryz.prog callB := shadow_ok mixed_ok tabB_ok 100 20
theorem flat_ok {f : FuncId} (he : enterable Tryz.prog f = true) : NatOK Tryz.prog f (natFlat callB h0 f) :=
  ⟨he, fun _ _ _ _ hv φ B w args' ha hh => natFlat_ok ground_up callB_ok hv φ B w args' ha hh⟩
theorem entriesT : ∀ p ∈ tabTL, EntryOK p := by
  unfold tabTL
  refine List.forall_mem_cons.2 ⟨nat120, ?_⟩
  refine List.forall_mem_cons.2 ⟨flat_ok (by kernel_rfl), ?_⟩
  refine List.forall_mem_cons.2 ⟨flat_ok (by kernel_rfl), ?_⟩
  refine List.forall_mem_cons.2 ⟨flat_ok (by kernel_rfl), ?_⟩
  refine List.forall_mem_cons.2 ⟨flat_ok (by kernel_rfl), ?_⟩
  refine List.forall_mem_cons.2 ⟨flat_ok (by kernel_rfl), ?_⟩
  refine List.forall_mem_cons.2 ⟨flat_ok (by kernel_rfl), ?_⟩
  refine List.forall_mem_cons.2 ⟨flat_ok (by kernel_rfl), ?_⟩
  refine List.forall_mem_cons.2 ⟨flat_ok (by kernel_rfl), ?_⟩
  refine List.forall_mem_cons.2 ⟨flat_ok (by kernel_rfl), ?_⟩
  refine List.forall_mem_cons.2 ⟨flat_ok (by kernel_rfl), ?_⟩
  refine List.forall_mem_cons.2 ⟨flat_ok (by kernel_rfl), ?_⟩
  refine List.forall_mem_cons.2 ⟨flat_ok (by kernel_rfl), ?_⟩
  refine List.forall_mem_cons.2 ⟨flat_ok (by kernel_rfl), ?_⟩
  refine List.forall_mem_cons.2 ⟨flat_ok (by kernel_rfl), ?_⟩
  refine entry_code k3 ?_
  refine entry_code k4 ?_
  refine entry_code k5 ?_
  refine entry_code k6 ?_
  refine entry_code k10 ?_
  refine entry_code k13 ?_
  refine entry_code k14 ?_
  refine entry_code k15 ?_
  refine entry_code k16 ?_
  refine entry_code k17 ?_
  refine entry_code k18 ?_
  refine entry_code k19 ?_
  refine entry_code k20 ?_
  refine entry_code k28 ?_
  refine entry_code k34 ?_
  refine entry_code k41 ?_
  refine entry_code k43 ?_
  refine entry_code k44 ?_
  refine entry_code k46 ?_
  refine entry_code k47 ?_
  refine entry_code k87 ?_
  refine entry_code k88 ?_
  refine entry_code k89 ?_
  refine entry_code k90 ?_
  refine entry_code k91 ?_
  refine entry_code k92 ?_
  refine entry_code k149 ?_
  refine entry_code k150 ?_
  refine entry_code k151 ?_
  refine entry_code k152 ?_
  refine entry_code k231 ?_
  refine entry_code k232 ?_
  refine entry_code k233 ?_
  refine entry_code k280 ?_
  refine entry_code k281 ?_
  exact entry_nil
theorem tabT_ok : TabOK ground Tryz.prog tabT := tab_of entriesT
end Go.Sh
end
