/- The law NnfAgain: the row and the tied card. -/
import Derived.Test.YtmmakkaolknbaaaGreatDoorRowK
import Derived.Test.YtmmakkaolknbaaaGreatDoorCards
import Derived.Test.YtmmakkaolknbaaaGreatDoorTie
import Derived.SevenTiedAt
namespace Go.Proofs.YtmmakkaolknbaaaGreatDoor
set_option linter.unusedVariables false
set_option linter.unusedSimpArgs false
open Go.ChangeShapes Go.WideShapes Go.ChangeAt Go.RowKit

set_option maxRecDepth 100000 in
theorem again_lifted (os : Os) (started : os.Started) (H : Type) (enc : TypeId × Value → H) :
    ReturnsInHanded {} Tryz.checked os 3 .any (fun w args => (Rows.nnfAgainSpec.pre enc Tryz.prog Tryz.f3 [] false w args ∧ laidMetH Tryz.prog laidA w) ∧ sizedMet enc Tryz.prog Tryz.f3 (OpenSpec.ofChange Rows.nnfAgainSpec) false w args)
      (Rows.nnfAgainSpec.post enc Tryz.prog Tryz.f3 false true false false) := by
  refine returnsInHanded_of_change_and (C := Tryz.checked) (X := fun w _ => laidMetH Tryz.prog laidA w) (fun _ _ _ hh h => h.of_heap hh) own started (by kernel_rfl) Tryz.func3
    (ChangeSpec.witness_shaped (enc := enc) (C := Tryz.checked) (os := os) (X := fun w _ => laidMetH Tryz.prog laidA w) false (World.laidAll Tryz.prog os laidA) #[.agg #[.int .u8 0, .string ⟨#[]⟩, .slice none 0 0]] 8 (World.laidAll_os _ _ _)
      (World.shaped_of_ZipB (by kernel_rfl) (by kernel_rfl)) (by kernel_rfl) (by kernel_rfl) (by kernel_rfl) (laid_met os _)) ?_
  intro W base args ds gs before hval0 hW _ hsz0 hL _
  have hval : ∀ (j : Nat) t v, Tryz.f3.params[j]? = some t → args[j]? = some v → Value.okWide Tryz.prog W .any base t v := hval0
  have hW' := hW
  obtain ⟨p, q, hA0, hV, rfl, hfz, hnd⟩ := hW
  have hA : DataW.TrodAll enc Tryz.prog W 0 (fun _ => true) true Tryz.f3.params.toList args.toList ds p := hA0
  rw [Tryz.params3] at hA hval
  obtain ⟨v0, d0, rfl, rfl, h0⟩ := trodAll_one hA
  obtain ⟨rfl, rfl⟩ := trodVars_none hV
  have hsz : (DataW.weightsEach Tryz.prog (Tryz.f3.params.toList ++ []) ([d0] ++ [])).all (· ≤ reachBytes) = true := hsz0
  rw [Tryz.params3] at hsz
  obtain ⟨op, nm, a, n, c, f, rfl, hT, hN⟩ := arg_fm (hval 0 25 v0 rfl rfl) h0 (fun n hn => by
    have := List.all_eq_true.1 hsz n (by simpa [DataW.weightsEach] using hn)
    simpa using this)
  have hLd : Laid W := laid_of hL
  have h1 : Calls Tryz.prog 3 #[fv op nm a n c] W fun e w' => e = .returned (.bool true) ∧ Below W.heap.size W w' := by
    by_cases hr : f.rightE futureB = 0
    · exact again_ok f op nm a n c W hLd hT hN hr
    · exact again_no f op nm a n c W hLd hT hN hr
  clear hA0 hval0 hsz0 hsz
  refine h1.mono fun e W' ⟨he, bel⟩ => ?_
  subst he
  have hlt : ∀ x ∈ p, x.block < W.heap.size := by obtain ⟨m, hm⟩ := h0; exact DataW.trod_lt m _ _ _ hm
  have hre := trodAll_cons_mk (Below.trod laidOut (by kernel_rfl) (of_decide_eq_true (by kernel_rfl)) h0 bel hlt) trodAll_mk0
  exact ⟨_, rfl, _, _, _, [], _, [], hW', trodAll_mk1 (shut_bool Tryz.underlying4 _), hre, rfl, bel.frame _, fun h => by cases h⟩

set_option maxHeartbeats 0 in
set_option maxRecDepth 100000 in
/-- The row's closed facts, each by itself (together they take too much of the checker's memory). -/
theorem again_closed : joinedFacts Tryz.pinned.checked.prog 3 Tryz.f3 Rows.nnfAgainSpec Rows.nnfAgainRow = true := by
  unfold joinedFacts
  repeat' (with_reducible (refine Bool.and_eq_true_iff.2 ⟨?_, ?_⟩))
  all_goals (as_aux_lemma => kernel_rfl)
theorem again_inst : (Tryz.f3).isInstance Tryz.pinned.checked.prog Rows.nnfAgainRow.origin Rows.nnfAgainRow.targs := of_decide_eq_true (by as_aux_lemma => kernel_rfl)
theorem again_wrap : (Tryz.f3).isWrapper Tryz.pinned.checked.prog Rows.nnfAgainRow.wrapper Rows.nnfAgainRow.mainSum := by
  unfold Func.isWrapper; first | (rw [if_pos (by decide +kernel)]; kernel_rfl) | (rw [if_neg (by decide +kernel)]; exact ⟨rfl, rfl⟩)
theorem again_named : Tryz.pinned.checked.prog.funcNamed Rows.nnfAgainRow.func = some 3 := by kernel_rfl

theorem nnfAgain_holds : Rows.NnfAgainSaid :=
  OpenClaim.holds_of_wide 3 Tryz.f3 rfl rfl rfl rfl rfl rfl rfl ⟨rfl, rfl, rfl, rfl, rfl⟩ rfl rfl rfl rfl rfl again_named Tryz.func3 again_closed
    again_inst again_wrap (fun os started H enc _ => again_lifted os started H enc)

theorem nnfAgain_card : Rows.NnfAgainCardSaid :=
  Claim7.holds_tied_plain_at .later [] [.data, .data, .data, .data] true (true, "bd1f571c201b668ce98fc82147c505f3bd87c2d6cbc4e40966c6cf5f9c6310d3") true
    nnfAgain_holds (fun _ h => by cases h) (by as_aux_lemma => kernel_rfl) (fun _ h => by cases h) nnfAgain_row_tie rfl ⟨rfl, rfl⟩ (by as_aux_lemma => kernel_rfl) rfl
    (fun f fn hf hfn => by
      obtain rfl : f = 3 := Option.some.inj ((show Tryz.prog.funcNamed "augur/augurlaw07.NnfAgain" = some 3 by kernel_rfl).symm.trans hf) |>.symm
      obtain rfl : fn = Tryz.f3 := (Option.some.inj (Tryz.func3.symm.trans hfn)).symm
      exact ⟨by kernel_rfl, fun j t ht => by
        rw [Tryz.params3] at ht
        have hm : t ∈ [25] := by simpa using Array.mem_of_getElem? ht
        have hall : ([25].all fun u => !Tryz.prog.wantsStandIn u) = true := by kernel_rfl
        exact (show Tryz.prog.wantsStandIn t = false by simpa using List.all_eq_true.1 hall t hm)⟩)
    (by as_aux_lemma => kernel_rfl)
#print axioms nnfAgain_card
end Go.Proofs.YtmmakkaolknbaaaGreatDoor
