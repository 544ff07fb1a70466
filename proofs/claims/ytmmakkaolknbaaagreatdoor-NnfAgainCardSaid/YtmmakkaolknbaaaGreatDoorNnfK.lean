/- Contract of nnf's table of rules. -/
import Derived.Test.YtmmakkaolknbaaaGreatDoorNnfJ
import Derived.Laws.EntriesVeiled
namespace Go.Proofs.YtmmakkaolknbaaaGreatDoor
set_option linter.unusedVariables false
set_option linter.unusedSimpArgs false
open Go.RowKit Go.Shelf

abbrev fnV (g : Nat) : Value := .func (.func g) #[] #[]
abbrev rulesV : Value := .agg #[.nilFunc, .nilFunc, .nilFunc, .nilFunc, fnV 199, fnV 201, fnV 203, fnV 204, fnV 206, fnV 208, fnV 211, fnV 213, fnV 214, fnV 216, fnV 217, fnV 219]

set_option maxRecDepth 100000 in
set_option maxHeartbeats 4000000 in
theorem rules_c (w : World) : Calls Tryz.prog 141 #[] w fun e w' => e = .returned rulesV ∧ Below w.heap.size w w' := by
  go_enter Tryz.func141, Tryz.ntmps141
  go_wp2_with fail
  refine bodyPost_ret (v := rulesV) (by simp [results, Tryz.results141, go_sem]) rfl ?_
  exact ⟨rfl, (by repeat (first | (with_reducible exact Below.refl _ _) | (with_reducible assumption) | refine below_alloc ?_ _ | refine Below.drew ?_ | refine below_drewN ?_ _))⟩
end Go.Proofs.YtmmakkaolknbaaaGreatDoor
