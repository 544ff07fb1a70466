/- Contracts: a kid's path (of the first two). -/
import Derived.Test.YtmmakkaolknbaaaGreatDoorCopy
namespace Go.Proofs.YtmmakkaolknbaaaGreatDoor
set_option linter.unusedVariables false
set_option linter.unusedSimpArgs false
open Go.RowKit Go.Shelf

def StrP (N : Nat) (e : Ending) : Prop := ∃ s : ByteArray, e = .returned (.string s) ∧ s.size ≤ N
set_option maxHeartbeats 1000000 in
theorem small_01 (i : Nat) (hi : i < 2) (w : World) : Calls Tryz.prog 291 #[.int .i64 i] w fun e w' => StrP 1 e ∧ w = w' := by
  rcases (show i = 0 ∨ i = 1 by omega) with rfl | rfl
  all_goals
    go_enter Tryz.func291, Tryz.ntmps291
    go_wp2_with fail
    go_ret
    exact ⟨⟨_, rfl, by decide⟩, rfl⟩
set_option maxHeartbeats 1000000 in
theorem fmt_01 (i : Nat) (hi : i < 2) (w : World) : Calls Tryz.prog 253 #[.int .i64 i, .int .i64 10] w fun e w' => StrP 1 e ∧ w = w' := by
  have HC := Aside.mk (fun W => small_01 i hi W)
  have h1 : (0 : Int) ≤ (i : Int) := by omega
  have h2 : (i : Int) < 100 := by omega
  clear hi
  go_enter Tryz.func253, Tryz.ntmps253
  go_wp2_with fail
  refine (HC.out _).mono ?_
  rintro e w2 ⟨⟨s, rfl, hs⟩, rfl⟩
  go_wp2_with fail
  go_ret
  exact ⟨⟨s, rfl, hs⟩, rfl⟩
theorem itoa1_01 (i : Nat) (hi : i < 2) (w : World) : Calls Tryz.prog 194 #[.int .i64 i] w fun e w' => StrP 1 e ∧ w = w' := by
  have HC := Aside.mk (fun W => fmt_01 i hi W)
  have h2 : (i : Int) < 100 := by omega
  clear hi
  go_enter Tryz.func194, Tryz.ntmps194
  go_wp2_with fail
  refine (HC.out _).mono ?_
  rintro e w2 ⟨⟨s, rfl, hs⟩, rfl⟩
  go_wp2_with fail
  go_ret
  exact ⟨⟨s, rfl, hs⟩, rfl⟩
theorem itoa_01 (i : Nat) (hi : i < 2) (w : World) : Calls Tryz.prog 126 #[.int .i64 i] w fun e w' => StrP 1 e ∧ w = w' := by
  have HC := Aside.mk (fun W => itoa1_01 i hi W)
  clear hi
  go_enter Tryz.func126, Tryz.ntmps126
  go_wp2_with fail
  refine (HC.out _).mono ?_
  rintro e w2 ⟨⟨s, rfl, hs⟩, rfl⟩
  go_wp2_with fail
  go_ret
  exact ⟨⟨s, rfl, hs⟩, rfl⟩
set_option maxHeartbeats 1000000 in
theorem below_c (p : ByteArray) (hp : p.size ≤ 1000000) (i : Nat) (hi : i < 2) (w : World) : Calls Tryz.prog 195 #[.string p, .int .i64 i] w fun e w' => StrP (p.size + 2) e ∧ w = w' := by
  have HC := Aside.mk (fun W => itoa_01 i hi W)
  clear hi
  by_cases he : p.toList.isEmpty = true
  · go_enter Tryz.func195, Tryz.ntmps195
    go_wp2_with fail
    refine (HC.out _).mono ?_
    rintro e w2 ⟨⟨s, rfl, hs⟩, rfl⟩
    go_wp2_with fail
    go_ret
    exact ⟨⟨s, rfl, by omega⟩, rfl⟩
  · have he' : p.toList.isEmpty = false := by simpa using he
    clear he
    go_enter Tryz.func195, Tryz.ntmps195
    go_wp2_with fail
    refine (HC.out _).mono ?_
    rintro e w2 ⟨⟨s, rfl, hs⟩, rfl⟩
    go_wp2_with fail
    go_ret
    exact ⟨⟨_, rfl, by
      have h1 : (p ++ (⟨#[46]⟩ : ByteArray) ++ s).size = p.size + 1 + s.size := by simp [ByteArray.size_append]; rfl
      omega⟩, rfl⟩
end Go.Proofs.YtmmakkaolknbaaaGreatDoor
