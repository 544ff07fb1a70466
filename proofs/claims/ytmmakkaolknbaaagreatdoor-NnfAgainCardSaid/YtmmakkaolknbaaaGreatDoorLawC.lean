/- Contracts: among of texts; a name's tree. -/
import Derived.Test.YtmmakkaolknbaaaGreatDoorNames
namespace Go.Proofs.YtmmakkaolknbaaaGreatDoor
set_option linter.unusedVariables false
set_option linter.unusedSimpArgs false
open Go.RowKit Go.Shelf

theorem str_eq {s t : ByteArray} : (s.toList == t.toList) = true ↔ s = t := by
  rw [beq_iff_eq]
  exact ⟨fun h => nm_ext (by simpa [ByteArray.toList_eq] using h), fun h => by rw [h]⟩
open Classical in
noncomputable def subB (l m : List ByteArray) : Bool := decide (∀ s ∈ l, s ∈ m)
open Classical in
theorem subB_iff {l m : List ByteArray} : subB l m = true ↔ ∀ s ∈ l, s ∈ m := by unfold subB; exact decide_eq_true_iff
set_option maxRecDepth 100000 in
set_option maxHeartbeats 2000000 in
theorem among_s (l m : List ByteArray) (a : Option Addr) (n c : Nat) (a' : Option Addr) (n' c' : Nat) (w : World) (hl : IsStr w a n l) (hm : IsStr w a' n' m) :
    Calls Tryz.prog 22 #[.slice a n c, .slice a' n' c'] w fun e w' => e = .returned (.bool (subB l m)) ∧ Below w.heap.size w w' := by
  have hn1 := hl.2.1
  have hn2 := hm.2.1
  have HL := Aside.mk hl
  have HM := Aside.mk hm
  have HE : Aside (subB l m = true ↔ ∀ s ∈ l, s ∈ m) := ⟨subB_iff⟩
  generalize subB l m = R at HE ⊢
  clear hl hm
  go_enter Tryz.func22, Tryz.ntmps22
  go_wp2_with fail
  go_loopg [5] n (fun gg s5 wr => ∃ k : Nat, k ≤ n ∧ n - k ≤ gg ∧ s5 = .int .i64 k ∧ Aside (∀ i, i < k → ∀ s, l[i]? = some s → s ∈ m) ∧ Aside (Below w.heap.size w wr))
  case atStart => exact ⟨0, Nat.zero_le _, by omega, rfl, ⟨fun i hi => absurd hi (by omega)⟩, ⟨Below.refl _ _⟩⟩
  case round =>
    obtain ⟨k, hk, hg, rfl, HI, HB⟩ := hrel
    by_cases hlt : k < n
    · have hlti : (k : Int) < (n : Int) := by omega
      obtain ⟨b, o, s, rfl, hbl, hs, q0⟩ := (HL.out.keep HB.out).at_ k hlt
      have HS := Aside.mk (And.intro hs q0)
      clear hs q0
      go_wp2_with fail
      obtain ⟨wo, rfl⟩ : ∃ wo : World, wo = wr := ⟨_, rfl⟩
      go_loopg [6, 7] n' (fun gg s6 s7 wi => ∃ (j : Nat) (fd : Bool), j ≤ n' ∧ n' - j ≤ gg ∧ s7 = .int .i64 j ∧ s6 = .bool fd ∧ Aside (fd = true → s ∈ m) ∧ Aside (fd = false → ∀ i, i < j → m[i]? ≠ some s) ∧ Aside (Below w.heap.size w wi) ∧ Aside (Below wo.heap.size wo wi))
      case atStart => exact ⟨0, false, Nat.zero_le _, by omega, rfl, rfl, ⟨by simp⟩, ⟨fun _ i hi => absurd hi (by omega)⟩, HB, ⟨Below.refl _ _⟩⟩
      case round =>
        obtain ⟨j, fd, hj, hgj, rfl, rfl, H1, H2, HB2, HBo⟩ := hrel
        by_cases hlj : j < n'
        · have hltj : (j : Int) < (n' : Int) := by omega
          cases fd with
          | false =>
            obtain ⟨b', o', t, rfl, hbl', ht, r0⟩ := (HM.out.keep HB2.out).at_ j hlj
            have q0 := cell_below HBo.out HS.out.2
            have HT := Aside.mk ht
            clear ht
            go_wp2_with fail
            go_quiet (fail)
            go_wp2_with fail
            go_roundg (n' - (j + 1))
            case measure => omega
            case rel =>
              refine ⟨j + 1, _, by omega, by omega, by go_num, rfl, ⟨fun e => ?_⟩, ⟨fun e i hi => ?_⟩, ⟨below_drewN HB2.out nq⟩, ⟨below_drewN HBo.out nq⟩⟩
              · have := str_eq.1 e
                rw [this]
                exact List.mem_of_getElem? HT.out
              · rcases (show i < j ∨ i = j by omega) with h | rfl
                · exact H2.out trivial i h
                · rw [HT.out]
                  intro h
                  injection h with h
                  rw [str_eq.2 h.symm] at e
                  cases e
          | true =>
            go_wp2_with fail
            go_roundg (n - (k + 1))
            case measure => omega
            case rel =>
              refine ⟨k + 1, by omega, by omega, by go_num, ⟨fun i hi t ht => ?_⟩, HB2⟩
              rcases (show i < k ∨ i = k by omega) with h | rfl
              · exact HI.out i h t ht
              · have : s = t := Option.some.inj (HS.out.1.symm.trans ht)
                rw [← this]
                exact H1.out trivial
        · have hltj : ¬ (j : Int) < (n' : Int) := by omega
          cases fd with
          | false =>
            go_wp2_with fail
            go_ret
            refine ⟨ret_b ?_, HB2.out⟩
            cases hR : R with
            | false => rfl
            | true =>
              exfalso
              obtain ⟨i, hi, hii⟩ := List.getElem_of_mem (HE.out.1 hR s (List.mem_of_getElem? HS.out.1))
              have hnm := HM.out.1
              exact H2.out trivial i (by omega) (by rw [List.getElem?_eq_getElem hi, hii])
          | true =>
            go_wp2_with fail
            go_roundg (n - (k + 1))
            case measure => omega
            case rel =>
              refine ⟨k + 1, by omega, by omega, by go_num, ⟨fun i hi t ht => ?_⟩, HB2⟩
              rcases (show i < k ∨ i = k by omega) with h | rfl
              · exact HI.out i h t ht
              · have : s = t := Option.some.inj (HS.out.1.symm.trans ht)
                rw [← this]
                exact H1.out trivial
    · have hlti : ¬ (k : Int) < (n : Int) := by omega
      go_wp2_with fail
      go_ret
      refine ⟨ret_b ?_, HB.out⟩
      symm
      refine HE.out.2 fun s hs => ?_
      obtain ⟨i, hi, rfl⟩ := List.getElem_of_mem hs
      have hnl := HL.out.1
      exact HI.out i (by omega) _ (List.getElem?_eq_getElem hi)
end Go.Proofs.YtmmakkaolknbaaaGreatDoor
