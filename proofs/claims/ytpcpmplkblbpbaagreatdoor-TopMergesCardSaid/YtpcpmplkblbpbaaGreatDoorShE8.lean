/-
  The table is true of the program.
-/
import Derived.Test.YtpcpmplkblbpbaaGreatDoorShE7
import Derived.Test.YtpcpmplkblbpbaaGreatDoorShE6
import Derived.Test.YtpcpmplkblbpbaaGreatDoorShB4
set_option linter.all false
section
namespace Go.Sh
open Go.Proofs
set_option maxRecDepth 10000
theorem Tr.get_ofL {α : Type} : ∀ (l : List (Nat × α)) (n : Nat) (a : α), (Tr.ofL l).get n = some a → (n, a) ∈ l
  | [], n, a, h => by
    rw [Tr.ofL] at h
    cases n <;> simp [Tr.get] at h
  | (m, b) :: l, n, a, h => by
    rw [Tr.ofL, Tr.get_put] at h
    split at h
    · rename_i e
      cases h
      subst e
      exact List.mem_cons_self ..
    · exact List.mem_cons_of_mem _ (Tr.get_ofL l n a h)
theorem nat38 : enterable Tryz.prog 38 = true ∧ ∀ args H v H', natInsert args H = some (v, H') → ∀ φ B w (args' : Array Value), VRL φ args args'.toList → HG ground φ B H w → Calls Tryz.prog 38 args' w (CPost φ B H w v H') :=
  ⟨by kernel_rfl, fun _ _ _ _ hv _ _ _ _ ha hh => natInsert_ok hv ha hh⟩
def EntryOK (p : Nat × SFun) : Prop := match p.2 with
  | .code c => compN p.1 = some c
  | .native g => enterable Tryz.prog p.1 = true ∧ ∀ args H v H', g args H = some (v, H') → ∀ φ B w (args' : Array Value), VRL φ args args'.toList → HG ground φ B H w → Calls Tryz.prog p.1 args' w (CPost φ B H w v H')
  | .dnative g => enterable Tryz.prog p.1 = true ∧ ∀ args, g args = true → ∀ φ B H w (args' : Array Value), VRL φ args args'.toList → HG ground φ B H w → CallsD Tryz.prog p.1 args' .returning w (DPost φ B H w H)
theorem entry_code {f : Nat} {c : SFunc} {l : List (Nat × SFun)} (h : compN f = some c) (hl : ∀ p ∈ l, EntryOK p) : ∀ p ∈ (f, SFun.code c) :: l, EntryOK p := List.forall_mem_cons.2 ⟨h, hl⟩
theorem entry_nil : ∀ p ∈ ([] : List (Nat × SFun)), EntryOK p := fun _ h => (by cases h)
theorem entries : ∀ p ∈ tabL, EntryOK p := by
  unfold tabL
  refine List.forall_mem_cons.2 ⟨nat38, List.forall_mem_cons.2 ⟨nat406, List.forall_mem_cons.2 ⟨nat104, List.forall_mem_cons.2 ⟨nat175, List.forall_mem_cons.2 ⟨d124, ?_⟩⟩⟩⟩⟩
  refine entry_code k3 ?_
  refine entry_code k4 ?_
  refine entry_code k5 ?_
  refine entry_code k6 ?_
  refine entry_code k7 ?_
  refine entry_code k8 ?_
  refine entry_code k9 ?_
  refine entry_code k10 ?_
  refine entry_code k11 ?_
  refine entry_code k12 ?_
  refine entry_code k13 ?_
  refine entry_code k14 ?_
  refine entry_code k15 ?_
  refine entry_code k16 ?_
  refine entry_code k17 ?_
  refine entry_code k18 ?_
  refine entry_code k19 ?_
  refine entry_code k20 ?_
  refine entry_code k21 ?_
  refine entry_code k22 ?_
  refine entry_code k23 ?_
  refine entry_code k24 ?_
  refine entry_code k25 ?_
  refine entry_code k26 ?_
  refine entry_code k27 ?_
  refine entry_code k28 ?_
  refine entry_code k29 ?_
  refine entry_code k30 ?_
  refine entry_code k31 ?_
  refine entry_code k32 ?_
  refine entry_code k33 ?_
  refine entry_code k34 ?_
  refine entry_code k35 ?_
  refine entry_code k36 ?_
  refine entry_code k37 ?_
  refine entry_code k39 ?_
  refine entry_code k40 ?_
  refine entry_code k41 ?_
  refine entry_code k42 ?_
  refine entry_code k43 ?_
  refine entry_code k44 ?_
  refine entry_code k45 ?_
  refine entry_code k46 ?_
  refine entry_code k47 ?_
  refine entry_code k48 ?_
  refine entry_code k49 ?_
  refine entry_code k50 ?_
  refine entry_code k51 ?_
  refine entry_code k52 ?_
  refine entry_code k53 ?_
  refine entry_code k54 ?_
  refine entry_code k56 ?_
  refine entry_code k57 ?_
  refine entry_code k58 ?_
  refine entry_code k60 ?_
  refine entry_code k61 ?_
  refine entry_code k62 ?_
  refine entry_code k63 ?_
  refine entry_code k65 ?_
  refine entry_code k68 ?_
  refine entry_code k69 ?_
  refine entry_code k70 ?_
  refine entry_code k72 ?_
  refine entry_code k73 ?_
  refine entry_code k74 ?_
  refine entry_code k75 ?_
  refine entry_code k77 ?_
  refine entry_code k78 ?_
  refine entry_code k79 ?_
  refine entry_code k80 ?_
  refine entry_code k81 ?_
  refine entry_code k82 ?_
  refine entry_code k83 ?_
  refine entry_code k84 ?_
  refine entry_code k85 ?_
  refine entry_code k86 ?_
  refine entry_code k87 ?_
  refine entry_code k91 ?_
  refine entry_code k93 ?_
  refine entry_code k95 ?_
  refine entry_code k96 ?_
  refine entry_code k97 ?_
  refine entry_code k98 ?_
  refine entry_code k99 ?_
  refine entry_code k100 ?_
  refine entry_code k101 ?_
  refine entry_code k103 ?_
  refine entry_code k105 ?_
  refine entry_code k106 ?_
  refine entry_code k107 ?_
  refine entry_code k108 ?_
  refine entry_code k109 ?_
  refine entry_code k110 ?_
  refine entry_code k113 ?_
  refine entry_code k118 ?_
  refine entry_code k120 ?_
  refine entry_code k121 ?_
  refine entry_code k123 ?_
  refine entry_code k125 ?_
  refine entry_code k127 ?_
  refine entry_code k128 ?_
  refine entry_code k130 ?_
  refine entry_code k132 ?_
  refine entry_code k133 ?_
  refine entry_code k138 ?_
  refine entry_code k141 ?_
  refine entry_code k142 ?_
  refine entry_code k143 ?_
  refine entry_code k149 ?_
  refine entry_code k150 ?_
  refine entry_code k151 ?_
  refine entry_code k152 ?_
  refine entry_code k154 ?_
  refine entry_code k155 ?_
  refine entry_code k157 ?_
  refine entry_code k158 ?_
  refine entry_code k159 ?_
  refine entry_code k161 ?_
  refine entry_code k162 ?_
  refine entry_code k164 ?_
  refine entry_code k165 ?_
  refine entry_code k166 ?_
  refine entry_code k168 ?_
  refine entry_code k169 ?_
  refine entry_code k171 ?_
  refine entry_code k180 ?_
  refine entry_code k181 ?_
  refine entry_code k182 ?_
  refine entry_code k190 ?_
  refine entry_code k191 ?_
  refine entry_code k192 ?_
  refine entry_code k193 ?_
  refine entry_code k194 ?_
  refine entry_code k195 ?_
  refine entry_code k197 ?_
  refine entry_code k198 ?_
  refine entry_code k201 ?_
  refine entry_code k202 ?_
  refine entry_code k204 ?_
  refine entry_code k206 ?_
  refine entry_code k208 ?_
  refine entry_code k209 ?_
  refine entry_code k211 ?_
  refine entry_code k212 ?_
  refine entry_code k214 ?_
  refine entry_code k217 ?_
  refine entry_code k226 ?_
  refine entry_code k233 ?_
  refine entry_code k234 ?_
  refine entry_code k236 ?_
  refine entry_code k239 ?_
  refine entry_code k241 ?_
  refine entry_code k242 ?_
  refine entry_code k243 ?_
  refine entry_code k244 ?_
  refine entry_code k252 ?_
  refine entry_code k254 ?_
  refine entry_code k255 ?_
  refine entry_code k266 ?_
  refine entry_code k267 ?_
  refine entry_code k271 ?_
  refine entry_code k272 ?_
  refine entry_code k274 ?_
  refine entry_code k277 ?_
  refine entry_code k279 ?_
  refine entry_code k280 ?_
  refine entry_code k281 ?_
  refine entry_code k292 ?_
  refine entry_code k293 ?_
  refine entry_code k294 ?_
  refine entry_code k296 ?_
  refine entry_code k297 ?_
  refine entry_code k298 ?_
  refine entry_code k299 ?_
  refine entry_code k300 ?_
  refine entry_code k308 ?_
  refine entry_code k312 ?_
  refine entry_code k318 ?_
  refine entry_code k331 ?_
  refine entry_code k332 ?_
  refine entry_code k333 ?_
  refine entry_code k334 ?_
  refine entry_code k335 ?_
  refine entry_code k338 ?_
  refine entry_code k339 ?_
  refine entry_code k340 ?_
  refine entry_code k341 ?_
  refine entry_code k342 ?_
  refine entry_code k343 ?_
  refine entry_code k344 ?_
  refine entry_code k367 ?_
  refine entry_code k368 ?_
  refine entry_code k369 ?_
  refine entry_code k372 ?_
  refine entry_code k373 ?_
  refine entry_code k374 ?_
  refine entry_code k375 ?_
  refine entry_code k400 ?_
  refine entry_code k401 ?_
  refine entry_code k403 ?_
  refine entry_code k407 ?_
  refine entry_code k408 ?_
  refine entry_code k559 ?_
  exact entry_nil
theorem comp_of {f : FuncId} {sf : SFunc} (h : compN f = some sf) : ∃ fn, Tryz.prog.funcs[f]? = some fn ∧ compF Tryz.prog fn = some sf ∧ (fn.name == "runtime.NumGoroutine") = false := by
  unfold compN at h
  split at h
  · rename_i fn hfn
    split at h
    · cases h
    · rename_i hn
      exact ⟨fn, hfn, h, hn⟩
  · cases h
theorem tab_ok : TabOK ground Tryz.prog tabT where
  code := fun f sf h => comp_of (entries _ (Tr.get_ofL _ _ _ h))
  native := fun f g h => entries _ (Tr.get_ofL _ _ _ h)
  dnative := fun f g h => entries _ (Tr.get_ofL _ _ _ h)
end Go.Sh
end
