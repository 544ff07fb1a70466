/- Contracts of the tree package's plain calls: Size, Depth. -/
import Derived.Test.YtmmakkaolknbaaaGreatDoorMem
import Derived.Test.YtmmakkaolknbaaaGreatDoorProg
import Derived.WalkKit
import Derived.OwnWalk
import Derived.Outline
import Derived.Deep.LoopGhost
namespace Go.Proofs.YtmmakkaolknbaaaGreatDoor
set_option linter.unusedVariables false
set_option linter.unusedSimpArgs false
open Go.RowKit


set_option maxHeartbeats 400000 in
/-- tree.Size. -/
theorem size_c (f : Fm) : ∀ (op : Int) (nm : ByteArray) (a : Option Addr) (n c : Nat) (w : World), IsT w op nm a n c f → f.size ≤ 4611686018427387904 →
    Calls Tryz.prog 20 #[fv op nm a n c] w fun e w' => e = .returned (.int .i64 (f.size : Int)) ∧ Below w.heap.size w w' := by
  induction f using Fm.ind_ with | h o_ n_ ks ih
  intro op nm a n c w h hsz
  obtain ⟨h0, h1, h2, ks_, e, hS⟩ := h.parts
  obtain ⟨rfl, rfl, rfl⟩ : op = o_ ∧ nm = n_ ∧ ks = ks_ := by cases e; exact ⟨rfl, rfl, rfl⟩
  clear e h
  have hsL : Fm.sizeL ks + 1 ≤ 4611686018427387904 := by simp only [Fm.size] at hsz; omega
  have HF : Aside ((1 : Int) + (Fm.sizeL ks : Int) = ((Fm.mk op nm ks).size : Int)) := ⟨by simp only [Fm.size]; omega⟩
  generalize hS2 : ((Fm.mk op nm ks).size : Int) = S at HF ⊢
  clear hS2 hsz
  have hn1 : n ≤ 9223372036854775807 := Nat.le_trans hS.2.1 hS.2.2.1
  have HN := Aside.mk hS.1
  have HS := Aside.mk hS
  have IH := Aside.mk ih
  clear hS ih
  go_enter Tryz.func20, Tryz.ntmps20
  go_wp2_with fail
  go_loopg [3, 9] n (fun gg s3 s9 wr => ∃ k : Nat, k ≤ n ∧ n - k ≤ gg ∧ s3 = .int .i64 (1 + (Fm.sizeL (ks.take k) : Int)) ∧ s9 = .int .i64 k ∧ Aside (Below w.heap.size w wr))
  case atStart => exact ⟨0, Nat.zero_le _, by omega, by simp [Fm.sizeL], rfl, ⟨(by repeat (first | (with_reducible exact Below.refl _ _) | (with_reducible assumption) | refine below_alloc ?_ _ | refine Below.drew ?_ | refine below_drewN ?_ _))⟩⟩
  case round =>
    obtain ⟨k, hk, hg, rfl, rfl, HB⟩ := hrel
    have hT := Fm.sizeL_take_le ks k
    by_cases hlt : k < n
    · have hlti : (k : Int) < (n : Int) := by omega
      obtain ⟨b, o, rfl, hbl, x, op1, nm1, a1, n1, c1, X, q0, q1, q2, hT1⟩ := (HS.out.keep HB.out).at_ k hlt
      have hT2 := Fm.sizeL_take_le ks (k + 1)
      have hte : Fm.sizeL (ks.take (k + 1)) = Fm.sizeL (ks.take k) + x.size := by rw [X.take, Fm.sizeL_append]; simp [Fm.sizeL]
      have hT3 : Fm.sizeL (ks.take k) + x.size ≤ Fm.sizeL ks := by omega
      have HT := Aside.mk hte
      clear hte
      have HC := Aside.mk (fun W hW => IH.out x X.mem op1 nm1 a1 n1 c1 W (IsTX.keep (w := wr) hW hT1) (by omega))
      clear hT1
      go_wp2_with fail
      refine (HC.out _ ?_).mono ?_
      · exact (by repeat (first | (with_reducible exact Below.refl _ _) | (with_reducible assumption) | refine below_alloc ?_ _ | refine Below.drew ?_ | refine below_drewN ?_ _))
      rintro e w2 ⟨rfl, hb2⟩
      have HB2 : Aside (Below w.heap.size w w2) := ⟨below_to HB.out (below_to (by repeat (first | (with_reducible exact Below.refl _ _) | (with_reducible assumption) | refine below_alloc ?_ _ | refine Below.drew ?_ | refine below_drewN ?_ _)) hb2)⟩
      clear hb2 HC
      go_wp2_with fail
      go_roundg (n - (k + 1))
      case measure => omega
      case rel => exact ⟨k + 1, by omega, by omega, by rw [HT.out]; go_num, by go_num, HB2⟩
    · have hlti : ¬ (k : Int) < (n : Int) := by omega
      go_wp2_with fail
      go_ret
      exact ⟨ret_i (by rw [List.take_of_length_le (by have := HN.out; omega)]; exact HF.out), HB.out⟩

set_option maxHeartbeats 400000 in
/-- tree.Depth. -/
theorem depth_c (f : Fm) : ∀ (op : Int) (nm : ByteArray) (a : Option Addr) (n c : Nat) (w : World), IsT w op nm a n c f → f.depth ≤ 4611686018427387904 →
    Calls Tryz.prog 21 #[fv op nm a n c] w fun e w' => e = .returned (.int .i64 (f.depth : Int)) ∧ Below w.heap.size w w' := by
  induction f using Fm.ind_ with | h o_ n_ ks ih
  intro op nm a n c w h hsz
  obtain ⟨h0, h1, h2, ks_, e, hS⟩ := h.parts
  obtain ⟨rfl, rfl, rfl⟩ : op = o_ ∧ nm = n_ ∧ ks = ks_ := by cases e; exact ⟨rfl, rfl, rfl⟩
  clear e h
  have hsL : Fm.depthL ks + 1 ≤ 4611686018427387904 := by simp only [Fm.depth] at hsz; omega
  have HF : Aside ((Fm.depthL ks : Int) + 1 = ((Fm.mk op nm ks).depth : Int)) := ⟨by simp only [Fm.depth]; omega⟩
  generalize hS2 : ((Fm.mk op nm ks).depth : Int) = S at HF ⊢
  clear hS2 hsz
  have hn1 : n ≤ 9223372036854775807 := Nat.le_trans hS.2.1 hS.2.2.1
  have HN := Aside.mk hS.1
  have HS := Aside.mk hS
  have IH := Aside.mk ih
  clear hS ih
  go_enter Tryz.func21, Tryz.ntmps21
  go_wp2_with fail
  go_loopg [3, 9] n (fun gg s3 s9 wr => ∃ k : Nat, k ≤ n ∧ n - k ≤ gg ∧ s3 = .int .i64 (Fm.depthL (ks.take k) : Int) ∧ s9 = .int .i64 k ∧ Aside (Below w.heap.size w wr))
  case atStart => exact ⟨0, Nat.zero_le _, by omega, by simp [Fm.depthL], rfl, ⟨(by repeat (first | (with_reducible exact Below.refl _ _) | (with_reducible assumption) | refine below_alloc ?_ _ | refine Below.drew ?_ | refine below_drewN ?_ _))⟩⟩
  case round =>
    obtain ⟨k, hk, hg, rfl, rfl, HB⟩ := hrel
    have hT := Fm.depthL_take_le ks k
    by_cases hlt : k < n
    · have hlti : (k : Int) < (n : Int) := by omega
      obtain ⟨b, o, rfl, hbl, x, op1, nm1, a1, n1, c1, X, q0, q1, q2, hT1⟩ := (HS.out.keep HB.out).at_ k hlt
      have hT2 := Fm.depthL_take_le ks (k + 1)
      have HT : Aside ((Fm.depthL (ks.take k) < x.depth → Fm.depthL (ks.take (k + 1)) = x.depth) ∧ (¬ Fm.depthL (ks.take k) < x.depth → Fm.depthL (ks.take (k + 1)) = Fm.depthL (ks.take k))) := ⟨by
        rw [X.take, Fm.depthL_append]
        simp only [Fm.depthL]
        constructor <;> intro h <;> omega⟩
      have hxd := Fm.depth_mem X.mem
      have HC := Aside.mk (fun W hW => IH.out x X.mem op1 nm1 a1 n1 c1 W (IsTX.keep (w := wr) hW hT1) (by omega))
      clear hT1
      go_wp2_with fail
      refine (HC.out _ ?_).mono ?_
      · exact (by repeat (first | (with_reducible exact Below.refl _ _) | (with_reducible assumption) | refine below_alloc ?_ _ | refine Below.drew ?_ | refine below_drewN ?_ _))
      rintro e w2 ⟨rfl, hb2⟩
      have HB2 : Aside (Below w.heap.size w w2) := ⟨below_to HB.out (below_to (by repeat (first | (with_reducible exact Below.refl _ _) | (with_reducible assumption) | refine below_alloc ?_ _ | refine Below.drew ?_ | refine below_drewN ?_ _)) hb2)⟩
      clear hb2 HC
      go_wp2_with fail
      all_goals
        go_roundg (n - (k + 1))
        case measure => omega
        case rel => exact ⟨k + 1, by omega, by omega, by first | rw [HT.out.1 (by assumption)] | rw [HT.out.2 (by assumption)], by go_num, HB2⟩
    · have hlti : ¬ (k : Int) < (n : Int) := by omega
      go_wp2_with fail
      go_ret
      exact ⟨ret_i (by rw [List.take_of_length_le (by have := HN.out; omega)]; exact HF.out), HB.out⟩
end Go.Proofs.YtmmakkaolknbaaaGreatDoor
