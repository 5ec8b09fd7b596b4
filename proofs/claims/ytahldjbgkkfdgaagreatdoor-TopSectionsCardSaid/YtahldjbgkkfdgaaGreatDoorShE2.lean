/-
  The table is true of the program.
-/
import Derived.Test.YtahldjbgkkfdgaaGreatDoorShE1
import Derived.Test.YtahldjbgkkfdgaaGreatDoorShB4
set_option linter.all false
section
namespace Go.Sh
open Go.Proofs
set_option maxRecDepth 10000

theorem Tr.get_ofL {α : Type} : ∀ (l : List (Nat × α)) (n : Nat) (a : α), (Tr.ofL l).get n = some a → (n, a) ∈ l
  | [], n, a, h => by
    rw [Tr.ofL] at h
    cases n <;> simp [Tr.get] at h
  | (m, b) :: l, n, a, h => by
    rw [Tr.ofL, Tr.get_put] at h
    split at h
    · rename_i e
      cases h
      subst e
      exact List.mem_cons_self ..
    · exact List.mem_cons_of_mem _ (Tr.get_ofL l n a h)

/-- What an entry of the table must be. -/
def EntryOK (p : Nat × SFun) : Prop := match p.2 with
  | .code c => compN p.1 = some c
  | .native g => enterable Tryz.prog p.1 = true ∧ ∀ args H v, g args H = some v → ∀ φ B w (args' : Array Value), VRL φ args args'.toList → HG ground φ B H w → Calls Tryz.prog p.1 args' w (CPost φ B H w v H)
  | .dnative g => enterable Tryz.prog p.1 = true ∧ ∀ args, g args = true → ∀ φ B H w (args' : Array Value), VRL φ args args'.toList → HG ground φ B H w → CallsD Tryz.prog p.1 args' .returning w (DPost φ B H w H)

theorem entry_code {f : Nat} {c : SFunc} {l : List (Nat × SFun)} (h : compN f = some c) (hl : ∀ p ∈ l, EntryOK p) : ∀ p ∈ (f, SFun.code c) :: l, EntryOK p := List.forall_mem_cons.2 ⟨h, hl⟩
theorem entry_nil : ∀ p ∈ ([] : List (Nat × SFun)), EntryOK p := fun _ h => (by cases h)

theorem entries : ∀ p ∈ tabL, EntryOK p := by
  unfold tabL
  refine List.forall_mem_cons.2 ⟨nat384, List.forall_mem_cons.2 ⟨nat202, List.forall_mem_cons.2 ⟨nat267, List.forall_mem_cons.2 ⟨d132, ?_⟩⟩⟩⟩
  refine entry_code k3 ?_
  refine entry_code k4 ?_
  refine entry_code k5 ?_
  refine entry_code k6 ?_
  refine entry_code k7 ?_
  refine entry_code k8 ?_
  refine entry_code k9 ?_
  refine entry_code k10 ?_
  refine entry_code k11 ?_
  refine entry_code k12 ?_
  refine entry_code k13 ?_
  refine entry_code k14 ?_
  refine entry_code k15 ?_
  refine entry_code k16 ?_
  refine entry_code k17 ?_
  refine entry_code k18 ?_
  refine entry_code k19 ?_
  refine entry_code k20 ?_
  refine entry_code k21 ?_
  refine entry_code k22 ?_
  refine entry_code k23 ?_
  refine entry_code k24 ?_
  refine entry_code k25 ?_
  refine entry_code k26 ?_
  refine entry_code k27 ?_
  refine entry_code k28 ?_
  refine entry_code k29 ?_
  refine entry_code k30 ?_
  refine entry_code k31 ?_
  refine entry_code k32 ?_
  refine entry_code k33 ?_
  refine entry_code k34 ?_
  refine entry_code k35 ?_
  refine entry_code k36 ?_
  refine entry_code k37 ?_
  refine entry_code k38 ?_
  refine entry_code k39 ?_
  refine entry_code k40 ?_
  refine entry_code k41 ?_
  refine entry_code k42 ?_
  refine entry_code k43 ?_
  refine entry_code k44 ?_
  refine entry_code k45 ?_
  refine entry_code k46 ?_
  refine entry_code k48 ?_
  refine entry_code k49 ?_
  refine entry_code k50 ?_
  refine entry_code k52 ?_
  refine entry_code k53 ?_
  refine entry_code k55 ?_
  refine entry_code k56 ?_
  refine entry_code k58 ?_
  refine entry_code k61 ?_
  refine entry_code k62 ?_
  refine entry_code k63 ?_
  refine entry_code k64 ?_
  refine entry_code k66 ?_
  refine entry_code k69 ?_
  refine entry_code k70 ?_
  refine entry_code k72 ?_
  refine entry_code k73 ?_
  refine entry_code k74 ?_
  refine entry_code k75 ?_
  refine entry_code k77 ?_
  refine entry_code k78 ?_
  refine entry_code k79 ?_
  refine entry_code k80 ?_
  refine entry_code k81 ?_
  refine entry_code k82 ?_
  refine entry_code k83 ?_
  refine entry_code k84 ?_
  refine entry_code k85 ?_
  refine entry_code k86 ?_
  refine entry_code k87 ?_
  refine entry_code k91 ?_
  refine entry_code k93 ?_
  refine entry_code k95 ?_
  refine entry_code k96 ?_
  refine entry_code k98 ?_
  refine entry_code k99 ?_
  refine entry_code k100 ?_
  refine entry_code k101 ?_
  refine entry_code k102 ?_
  refine entry_code k104 ?_
  refine entry_code k105 ?_
  refine entry_code k108 ?_
  refine entry_code k109 ?_
  refine entry_code k111 ?_
  refine entry_code k113 ?_
  refine entry_code k117 ?_
  refine entry_code k118 ?_
  refine entry_code k119 ?_
  refine entry_code k120 ?_
  refine entry_code k121 ?_
  refine entry_code k122 ?_
  refine entry_code k125 ?_
  refine entry_code k127 ?_
  refine entry_code k133 ?_
  refine entry_code k135 ?_
  refine entry_code k136 ?_
  refine entry_code k137 ?_
  refine entry_code k139 ?_
  refine entry_code k141 ?_
  refine entry_code k142 ?_
  refine entry_code k147 ?_
  refine entry_code k150 ?_
  refine entry_code k151 ?_
  refine entry_code k152 ?_
  refine entry_code k158 ?_
  refine entry_code k159 ?_
  refine entry_code k160 ?_
  refine entry_code k161 ?_
  refine entry_code k163 ?_
  refine entry_code k164 ?_
  refine entry_code k166 ?_
  refine entry_code k167 ?_
  refine entry_code k168 ?_
  refine entry_code k170 ?_
  refine entry_code k172 ?_
  refine entry_code k173 ?_
  refine entry_code k175 ?_
  refine entry_code k186 ?_
  refine entry_code k187 ?_
  refine entry_code k188 ?_
  refine entry_code k189 ?_
  refine entry_code k191 ?_
  refine entry_code k198 ?_
  refine entry_code k201 ?_
  refine entry_code k203 ?_
  refine entry_code k204 ?_
  refine entry_code k206 ?_
  refine entry_code k207 ?_
  refine entry_code k209 ?_
  refine entry_code k212 ?_
  refine entry_code k221 ?_
  refine entry_code k225 ?_
  refine entry_code k228 ?_
  refine entry_code k229 ?_
  refine entry_code k231 ?_
  refine entry_code k234 ?_
  refine entry_code k236 ?_
  refine entry_code k237 ?_
  refine entry_code k238 ?_
  refine entry_code k239 ?_
  refine entry_code k247 ?_
  refine entry_code k256 ?_
  refine entry_code k257 ?_
  refine entry_code k262 ?_
  refine entry_code k264 ?_
  refine entry_code k268 ?_
  refine entry_code k269 ?_
  refine entry_code k280 ?_
  refine entry_code k281 ?_
  refine entry_code k282 ?_
  refine entry_code k284 ?_
  refine entry_code k285 ?_
  refine entry_code k286 ?_
  refine entry_code k287 ?_
  refine entry_code k288 ?_
  refine entry_code k297 ?_
  refine entry_code k311 ?_
  refine entry_code k312 ?_
  refine entry_code k313 ?_
  refine entry_code k314 ?_
  refine entry_code k315 ?_
  refine entry_code k318 ?_
  refine entry_code k319 ?_
  refine entry_code k320 ?_
  refine entry_code k321 ?_
  refine entry_code k322 ?_
  refine entry_code k346 ?_
  refine entry_code k347 ?_
  refine entry_code k348 ?_
  refine entry_code k351 ?_
  refine entry_code k352 ?_
  refine entry_code k353 ?_
  refine entry_code k378 ?_
  refine entry_code k379 ?_
  refine entry_code k381 ?_
  refine entry_code k385 ?_
  refine entry_code k536 ?_
  exact entry_nil

theorem comp_of {f : FuncId} {sf : SFunc} (h : compN f = some sf) : ∃ fn, Tryz.prog.funcs[f]? = some fn ∧ compF Tryz.prog fn = some sf ∧ (fn.name == "runtime.NumGoroutine") = false := by
  unfold compN at h
  split at h
  · rename_i fn hfn
    split at h
    · cases h
    · rename_i hn
      exact ⟨fn, hfn, h, hn⟩
  · cases h

theorem tab_ok : TabOK ground Tryz.prog tabT where
  code := fun f sf h => comp_of (entries _ (Tr.get_ofL _ _ _ h))
  native := fun f g h => entries _ (Tr.get_ofL _ _ _ h)
  dnative := fun f g h => entries _ (Tr.get_ofL _ _ _ h)
end Go.Sh
end
