/- Contracts: cmp.Compare, strings.Compare, cmp.Or, tree.Cmp. -/
import Derived.Test.YtmmakkaolknbaaaGreatDoorMem
import Derived.Test.YtmmakkaolknbaaaGreatDoorMono
import Derived.Test.YtmmakkaolknbaaaGreatDoorProg
import Derived.WalkKit
import Derived.OwnWalk
import Derived.Outline
import Derived.Deep.LoopGhost
import Derived.Lib.Bytealg
import Derived.StillTailTactics
namespace Go.Proofs.YtmmakkaolknbaaaGreatDoor
set_option linter.unusedVariables false
set_option linter.unusedSimpArgs false
open Go.RowKit Go.Lib

theorem nan_op (x : Int) (w : World) : Calls Tryz.prog 143 #[.int .u8 x] w fun e w' => e = .returned (.bool false) ∧ w' = w := by
  go_enter Tryz.func143, Tryz.ntmps143
  go_wp2_with fail
  go_ret
  exact ⟨by simp, rfl⟩
theorem nan_int (x : Int) (w : World) : Calls Tryz.prog 145 #[.int .i64 x] w fun e w' => e = .returned (.bool false) ∧ w' = w := by
  go_enter Tryz.func145, Tryz.ntmps145
  go_wp2_with fail
  go_ret
  exact ⟨by simp, rfl⟩
theorem compare_op (x y : Int) (w : World) : Calls Tryz.prog 77 #[.int .u8 x, .int .u8 y] w fun e w' => e = .returned (.int .i64 (compareInt x y)) ∧ w' = w := by
  go_enter Tryz.func77, Tryz.ntmps77
  go_wp2_with (go_at_call 143; refine (nan_op _ _).mono ?_; rintro e w' ⟨rfl, rfl⟩)
  all_goals
    go_ret
    exact ⟨ret_i (by unfold compareInt; (repeat' split) <;> omega), rfl⟩
theorem compare_int (x y : Int) (w : World) : Calls Tryz.prog 79 #[.int .i64 x, .int .i64 y] w fun e w' => e = .returned (.int .i64 (compareInt x y)) ∧ w' = w := by
  go_enter Tryz.func79, Tryz.ntmps79
  go_wp2_with (go_at_call 145; refine (nan_int _ _).mono ?_; rintro e w' ⟨rfl, rfl⟩)
  all_goals
    go_ret
    exact ⟨ret_i (by unfold compareInt; (repeat' split) <;> omega), rfl⟩
set_option maxRecDepth 100000 in
theorem compare_bytes (a b : ByteArray) (w : World) : Calls Tryz.prog 144 #[.string a, .string b] w fun e w' => e = .returned (.int .i64 (Lib.compareBytes a.data.toList b.data.toList)) ∧ w' = w := by
  go_enter Tryz.func144, Tryz.ntmps144
  go_wp2
  rw [run_callFunc_extern Tryz.func221 (by kernel_rfl) (by kernel_rfl) (by kernel_rfl) (e := Extern.BytealgCompare.compare) (by kernel_rfl), Lib.run_compareString]
  simp only [Result.andThen]
  rw [Oper.upon_value]
  go_wp2
  go_ret
  exact ⟨rfl, rfl⟩
theorem compare_str (a b : ByteArray) (w : World) : Calls Tryz.prog 78 #[.string a, .string b] w fun e w' => e = .returned (.int .i64 (Lib.compareBytes a.data.toList b.data.toList)) ∧ w' = w := by
  go_enter Tryz.func78, Tryz.ntmps78
  go_wp2_with (go_at_call 144; refine (compare_bytes _ _ _).mono ?_; rintro e w' ⟨rfl, rfl⟩)
  go_ret
  exact ⟨rfl, rfl⟩

/-- The first that is not 0 of three. -/
def or3 (x y z : Int) : Int := if x = 0 then (if y = 0 then z else y) else x

set_option maxHeartbeats 400000 in
theorem cmp_or (x y z : Int) (b : Nat) (w : World) (h0 : w.cell? ⟨b, 0, none⟩ = some (.int .i64 x)) (h1 : w.cell? ⟨b, 1, none⟩ = some (.int .i64 y)) (h2 : w.cell? ⟨b, 2, none⟩ = some (.int .i64 z)) :
    Calls Tryz.prog 76 #[.slice (some ⟨b, 0, none⟩) 3 3] w fun e w' => e = .returned (.int .i64 (or3 x y z)) ∧ w' = w := by
  go_enter Tryz.func76, Tryz.ntmps76
  go_wp2
  refine wp_loop_rounds 4 ?_
  rw [rounds_succ]
  go_wp2
  · have hx : (x != 0) = true := by assumption
    go_ret
    exact ⟨ret_i (by simp at hx; simp [or3, hx]), rfl⟩
  · have hx : (x != 0) = false := by assumption
    rw [rounds_succ]
    go_wp2
    · have hy : (y != 0) = true := by assumption
      go_ret
      exact ⟨ret_i (by simp at hx hy; simp [or3, hx, hy]), rfl⟩
    · have hy : (y != 0) = false := by assumption
      rw [rounds_succ]
      go_wp2
      · go_ret
        exact ⟨ret_i (by simp at hx hy; simp [or3, hx, hy]), rfl⟩
      · have hz : (z != 0) = false := by assumption
        rw [rounds_succ]
        go_wp2
        go_ret
        exact ⟨ret_i (by simp at hx hy hz; simp [or3, hx, hy, hz]), rfl⟩

/-- The order of trees. -/
def cmpHead (f g : Fm) : Int := or3 (compareInt f.op g.op) (compareBytes f.nm.data.toList g.nm.data.toList) (compareInt f.ks.length g.ks.length)
mutual
def Fm.cmp : Fm → Fm → Int
  | .mk o n ks, .mk o' n' ks' => or3 (or3 (compareInt o o') (compareBytes n.data.toList n'.data.toList) (compareInt ks.length ks'.length)) (Fm.cmpL ks ks') 0
def Fm.cmpL : List Fm → List Fm → Int
  | [], [] => 0
  | [], _ :: _ => -1
  | _ :: _, [] => 1
  | k :: ks, k' :: ks' => or3 (Fm.cmp k k') (Fm.cmpL ks ks') 0
end
theorem or3_z (x y : Int) : or3 x y 0 = if x = 0 then y else x := by
  unfold or3
  split
  · split
    · omega
    · rfl
  · rfl
/-- What tree.Cmp owes of one tree at the left. -/
def CmpC (f : Fm) : Prop := ∀ (op : Int) (nm : ByteArray) (a : Option Addr) (n c : Nat) (op' : Int) (nm' : ByteArray) (a' : Option Addr) (n' c' : Nat) (g : Fm) (w : World), IsT w op nm a n c f → IsT w op' nm' a' n' c' g →
    Calls Tryz.prog 19 #[fv op nm a n c, fv op' nm' a' n' c'] w fun e w' => e = .returned (.int .i64 (f.cmp g)) ∧ Below w.heap.size w w'

theorem cmpL_step (k k' : Fm) (ks ks' : List Fm) : Fm.cmpL (k :: ks) (k' :: ks') = if k.cmp k' = 0 then Fm.cmpL ks ks' else k.cmp k' := by
  simp only [Fm.cmpL, or3_z]

set_option maxHeartbeats 1000000 in
/-- slices.CompareFunc of two lists of trees. -/
theorem comparefunc_c (ks ks' : List Fm) (ih : ∀ k ∈ ks, CmpC k) (a : Option Addr) (n c : Nat) (a' : Option Addr) (n' c' : Nat) (w : World) (hS : IsS w a n c ks) (hS' : IsS w a' n' c' ks') :
    Calls Tryz.prog 80 #[.slice a n c, .slice a' n' c', .func (.func 19) #[] #[]] w fun e w' => e = .returned (.int .i64 (Fm.cmpL ks ks')) ∧ Below w.heap.size w w' := by
  have hn1 : n ≤ 9223372036854775807 := Nat.le_trans hS.2.1 hS.2.2.1
  have hn2 : n' ≤ 9223372036854775807 := Nat.le_trans hS'.2.1 hS'.2.2.1
  have HN := Aside.mk hS.1
  have HN' := Aside.mk hS'.1
  have HS := Aside.mk hS
  have HS' := Aside.mk hS'
  have IH := Aside.mk ih
  clear hS hS' ih
  generalize hR : Fm.cmpL ks ks' = R
  have HR := Aside.mk hR
  clear hR
  go_enter Tryz.func80, Tryz.ntmps80
  go_wp2_with fail
  go_loopg [13] n (fun gg s13 wr => ∃ k : Nat, k ≤ n ∧ k ≤ n' ∧ n - k ≤ gg ∧ s13 = .int .i64 k ∧ Aside (Fm.cmpL (ks.drop k) (ks'.drop k) = R) ∧ Aside (Below w.heap.size w wr))
  case atStart => exact ⟨0, Nat.zero_le _, Nat.zero_le _, by omega, rfl, ⟨by simpa using HR.out⟩, ⟨Below.refl _ w⟩⟩
  case round =>
    obtain ⟨k, hk, hk', hg, rfl, HK, HB⟩ := hrel
    by_cases hlt : k < n
    · have hlti : (k : Int) < (n : Int) := by omega
      obtain ⟨b, o, rfl, hbl, x, op1, nm1, a1, n1, c1, X, q0, q1, q2, hT1⟩ := (HS.out.keep HB.out).at_ k hlt
      by_cases hlt' : k < n'
      · have hlti' : (k : Int) < (n' : Int) := by omega
        obtain ⟨b', o', rfl, hbl', y, op2, nm2, a2, n2, c2, Y, r0, r1, r2, hT2⟩ := (HS'.out.keep HB.out).at_ k hlt'
        have HC := Aside.mk (fun W hW => IH.out _ X.mem op1 nm1 a1 n1 c1 op2 nm2 a2 n2 c2 _ W (IsTX.keep hW hT1) (IsTX.keep hW hT2))
        clear hT1 hT2
        go_wp2_with fail
        refine (HC.out _ ?_).mono ?_
        · exact below_alloc (below_alloc (Below.refl _ _) _) _
        rintro e w2 ⟨rfl, hb2⟩
        have HB2 := Aside.mk (below_to HB.out (below_to (below_alloc (below_alloc (Below.refl _ _) _) _) hb2))
        clear hb2 HC
        have hcs : Fm.cmpL (ks.drop k) (ks'.drop k) = if x.cmp y = 0 then Fm.cmpL (ks.drop (k + 1)) (ks'.drop (k + 1)) else x.cmp y := by
          rw [← cmpL_step, X.drop, Y.drop]
        generalize x.cmp y = r at hcs ⊢
        have HCS := Aside.mk hcs
        clear hcs
        by_cases hr : r = 0
        · subst hr
          go_wp2_with fail
          go_roundg (n - (k + 1))
          case measure => omega
          case rel => exact ⟨k + 1, by omega, by omega, by omega, by go_num, ⟨by have h0 := HCS.out; simp only [if_true] at h0; rw [← h0]; exact HK.out⟩, HB2⟩
        · have hr' : (r != 0) = true := by simpa using hr
          go_wp2_with fail
          go_ret
          exact ⟨ret_i (by have := HCS.out; rw [if_neg hr] at this; rw [← this]; exact HK.out), HB2.out⟩
      · have hlti' : ¬ (k : Int) < (n' : Int) := by omega
        go_wp2_with fail
        go_ret
        refine ⟨ret_i ?_, below_alloc HB.out _⟩
        have h1 := HK.out
        have h3 := HN'.out
        rw [List.drop_of_length_le (l := ks') (by omega), X.drop] at h1
        simpa [Fm.cmpL] using h1
    · have hlti : ¬ (k : Int) < (n : Int) := by omega
      have hkn : k = n := by omega
      by_cases hlt' : n < n'
      · have hlti' : (n : Int) < (n' : Int) := by omega
        go_wp2_with fail
        go_ret
        refine ⟨ret_i ?_, HB.out⟩
        have h1 := HK.out
        have h2 := HN.out
        have h3 := HN'.out
        rw [List.drop_of_length_le (l := ks) (by omega), (ith_of (show k < ks'.length by omega)).drop] at h1
        simpa [Fm.cmpL] using h1
      · have hlti' : ¬ (n : Int) < (n' : Int) := by omega
        go_wp2_with fail
        go_ret
        refine ⟨ret_i ?_, HB.out⟩
        have h1 := HK.out
        have h2 := HN.out
        have h3 := HN'.out
        rw [List.drop_of_length_le (l := ks) (by omega), List.drop_of_length_le (l := ks') (by omega)] at h1
        simpa [Fm.cmpL] using h1

set_option maxRecDepth 100000 in
set_option maxHeartbeats 1000000 in
/-- tree.Cmp. -/
theorem cmp_c (f : Fm) : CmpC f := by
  induction f using Fm.ind_ with | h o_ n_ ks ih
  intro op nm a n c op' nm' a' n' c' g w h h'
  obtain ⟨h0, h1, h2, ks_, e, hS⟩ := h.parts
  obtain ⟨rfl, rfl, rfl⟩ : op = o_ ∧ nm = n_ ∧ ks = ks_ := by cases e; exact ⟨rfl, rfl, rfl⟩
  obtain ⟨h0', h1', h2', ks', rfl, hS'⟩ := h'.parts
  clear e h h'
  have hcf := fun W hW => comparefunc_c ks ks' ih a n c a' n' c' W (IsSX.keep hW hS) (IsSX.keep (w := w) hW hS')
  have HCF := Aside.mk hcf
  have hn : n = ks.length := hS.1
  have hn' : n' = ks'.length := hS'.1
  have HN := Aside.mk (And.intro hn hn')
  clear hcf hS hS' ih hn hn'
  have HD : Aside ((Fm.mk op nm ks).cmp (Fm.mk op' nm' ks') = if or3 (compareInt op op') (compareBytes nm.data.toList nm'.data.toList) (compareInt n n') = 0 then Fm.cmpL ks ks' else or3 (compareInt op op') (compareBytes nm.data.toList nm'.data.toList) (compareInt n n')) := ⟨by
    rw [HN.out.1, HN.out.2]
    simp only [Fm.cmp, or3_z]⟩
  generalize (Fm.mk op nm ks).cmp (Fm.mk op' nm' ks') = R at HD ⊢
  go_enter Tryz.func19, Tryz.ntmps19
  go_wp2_with fail
  refine still_tail 17 (by kernel_rfl) (by kernel_rfl) ?_
  simp only [List.take_succ_cons, List.take_zero, List.drop_succ_cons, List.drop_zero]
  iterate 4 still_step
  still_call (compare_op _ _ _)
  iterate 4 still_step
  still_call (compare_str _ _ _)
  iterate 6 still_step
  still_call (compare_int _ _ _)
  refine wpStill_nil ?_
  go_wp2_with fail
  refine (cmp_or (compareInt op op') (compareBytes nm.data.toList nm'.data.toList) (compareInt n n') _ _ (by go_simp) (by go_simp) (by go_simp)).mono ?_
  rintro e w2 ⟨rfl, rfl⟩
  generalize or3 (compareInt op op') (compareBytes nm.data.toList nm'.data.toList) (compareInt n n') = r at HD ⊢
  by_cases hr : r = 0
  · subst hr
    go_wp2_with fail
    refine (HCF.out _ ?_).mono ?_
    · exact (by repeat (first | (with_reducible exact Below.refl _ _) | (with_reducible assumption) | refine below_alloc ?_ _ | refine Below.drew ?_ | refine below_drewN ?_ _))
    rintro e w3 ⟨rfl, hb3⟩
    have HB : Aside (Below w.heap.size w w3) := ⟨below_to (by repeat (first | (with_reducible exact Below.refl _ _) | (with_reducible assumption) | refine below_alloc ?_ _ | refine Below.drew ?_ | refine below_drewN ?_ _)) hb3⟩
    clear hb3
    go_wp2_with fail
    go_ret
    exact ⟨ret_i (by simpa using HD.out.symm), HB.out⟩
  · have hr' : (r != 0) = true := by simpa using hr
    go_wp2_with fail
    go_ret
    exact ⟨ret_i (by rw [HD.out, if_neg hr]), (by repeat (first | (with_reducible exact Below.refl _ _) | (with_reducible assumption) | refine below_alloc ?_ _ | refine Below.drew ?_ | refine below_drewN ?_ _))⟩
end Go.Proofs.YtmmakkaolknbaaaGreatDoor
