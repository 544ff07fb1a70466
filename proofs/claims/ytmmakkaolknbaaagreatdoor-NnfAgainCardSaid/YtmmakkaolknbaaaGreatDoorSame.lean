/- Contracts: nnf's small tests: same, opposite, among. -/
import Derived.Test.YtmmakkaolknbaaaGreatDoorCmp
import Derived.Shelf.Abstract
import Derived.Deep.QuietTactic
import Derived.BigQuiet
namespace Go.Proofs.YtmmakkaolknbaaaGreatDoor
set_option linter.unusedVariables false
set_option linter.unusedSimpArgs false
open Go.RowKit Go.Shelf

def Fm.same (f g : Fm) : Bool := decide (f.cmp g = 0)
set_option maxHeartbeats 1000000 in
theorem same_c (f g : Fm) (op : Int) (nm : ByteArray) (a : Option Addr) (n c : Nat) (op' : Int) (nm' : ByteArray) (a' : Option Addr) (n' c' : Nat) (w : World) (h : IsT w op nm a n c f) (h' : IsT w op' nm' a' n' c' g) :
    Calls Tryz.prog 255 #[fv op nm a n c, fv op' nm' a' n' c'] w fun e w' => e = .returned (.bool (f.same g)) ∧ Below w.heap.size w w' := by
  have HC := Aside.mk (fun W (hW : Below w.heap.size w W) => cmp_c f op nm a n c op' nm' a' n' c' g W (h.keep hW) (h'.keep hW))
  have HE : Aside (f.same g = decide (f.cmp g = 0)) := ⟨rfl⟩
  generalize f.same g = R at HE ⊢
  generalize f.cmp g = r at HC HE
  clear h h'
  go_enter Tryz.func255, Tryz.ntmps255
  go_wp2_with fail
  refine (HC.out _ ?_).mono ?_
  · exact (by repeat (first | (with_reducible exact Below.refl _ _) | (with_reducible assumption) | refine below_alloc ?_ _ | refine Below.drew ?_ | refine below_drewN ?_ _))
  rintro e w2 ⟨rfl, hb2⟩
  have HB2 : Aside (Below w.heap.size w w2) := ⟨below_to (by repeat (first | (with_reducible exact Below.refl _ _) | (with_reducible assumption) | refine below_alloc ?_ _ | refine Below.drew ?_ | refine below_drewN ?_ _)) hb2⟩
  clear hb2
  go_wp2_with fail
  go_ret
  exact ⟨ret_b (by rw [HE.out]; rfl), HB2.out⟩

/-- The first kid, the second; a leaf where there is none. -/
def Fm.k0 (f : Fm) : Fm := f.ks.headD (.mk 0 ⟨#[]⟩ [])
def Fm.k1 (f : Fm) : Fm := (f.ks.drop 1).headD (.mk 0 ⟨#[]⟩ [])
def Fm.opposite (f g : Fm) : Bool := (decide (f.op = 4) && f.k0.same g) || (decide (g.op = 4) && g.k0.same f)
def Fm.among (f : Fm) (op : Int) (x : Fm) : Bool := decide (f.op = op) && (f.k0.same x || f.k1.same x)

theorem ith0 {ks : List Fm} {x : Fm} (h : Ith ks 0 x) (o : Int) (n : ByteArray) : (Fm.mk o n ks).k0 = x := by
  cases ks with
  | nil => exact absurd h.lt (by simp)
  | cons y ks => have := h.get; simp at this; simp [Fm.k0, this]
theorem ith1 {ks : List Fm} {x : Fm} (h : Ith ks 1 x) (o : Int) (n : ByteArray) : (Fm.mk o n ks).k1 = x := by
  have h1 := h.get
  match ks, h1 with
  | y :: z :: ks, h1 => simp at h1; simp [Fm.k1, h1]
  | [y], h1 => simp at h1
  | [], h1 => simp at h1

set_option maxRecDepth 100000 in
set_option maxHeartbeats 2000000 in
theorem opposite_c (f g : Fm) (op : Int) (nm : ByteArray) (a : Option Addr) (n c : Nat) (op' : Int) (nm' : ByteArray) (a' : Option Addr) (n' c' : Nat) (w : World) (h : IsT w op nm a n c f) (h' : IsT w op' nm' a' n' c' g)
    (hk : op = 4 → 0 < n) (hk' : op' = 4 → 0 < n') :
    Calls Tryz.prog 256 #[fv op nm a n c, fv op' nm' a' n' c'] w fun e w' => e = .returned (.bool (f.opposite g)) ∧ Below w.heap.size w w' := by
  obtain ⟨h0, h1, h2, ks, rfl, hS⟩ := h.parts
  obtain ⟨h0', h1', h2', ks', rfl, hS'⟩ := h'.parts
  have hext := ext_cell
  by_cases c1 : op = 4
  · have hn := hk c1
    obtain ⟨b, o, rfl, hbl, x, op1, nm1, a1, n1, d1, X, q0, q1, q2, hT1⟩ := hS.at_ 0 hn
    have HC := Aside.mk (fun W (hW : Below w.heap.size w W) => same_c x _ op1 nm1 a1 n1 d1 op' nm' a' n' c' W (hT1.keep hW) (h'.keep hW))
    have HE : Aside ((Fm.mk op nm ks).opposite (.mk op' nm' ks') = (x.same (.mk op' nm' ks') || (decide (op' = 4) && (Fm.mk op' nm' ks').k0.same (.mk op nm ks)))) := ⟨by
      show ((decide (op = 4) && (Fm.mk op nm ks).k0.same (.mk op' nm' ks')) || (decide (op' = 4) && (Fm.mk op' nm' ks').k0.same (.mk op nm ks))) = _
      rw [ith0 X, decide_eq_true c1, Bool.true_and]⟩
    simp only [Nat.zero_mul, Nat.add_zero] at q0 q1 q2
    have c1' : (op == 4) = true := by simp [c1]
    have hnl : (0 : Int) < (n : Int) := by omega
    have hbl2 : b < w.heap.size + 1 + 1 := by omega
    cases hr1 : x.same (.mk op' nm' ks') with
    | true =>
      rw [hr1] at HC HE
      have HE2 : Aside ((Fm.mk op nm ks).opposite (.mk op' nm' ks') = true) := ⟨by rw [HE.out]; simp⟩
      generalize (Fm.mk op nm ks).opposite (.mk op' nm' ks') = R at HE2 ⊢
      clear hS hS' h h' hk hk' c1 hr1 HE hT1 X
      go_enter Tryz.func256, Tryz.ntmps256
      go_wp2_with fail
      refine region_ext (by kernel_rfl) (by kernel_rfl) ?_
      repeat (go_big_quiet_step ((go_at_call 255; exact ext_call (HC.out _ (below_to (by repeat (first | (with_reducible exact Below.refl _ _) | (with_reducible assumption) | refine below_alloc ?_ _ | refine Below.drew ?_ | refine below_drewN ?_ _)) (ext_below _ _))))))
      refine wpQuiet_nil ?_
      rintro _ ⟨y, rfl⟩
      have HB : Aside (Below w.heap.size w (ext _ y)) := ⟨below_to (by repeat (first | (with_reducible exact Below.refl _ _) | (with_reducible assumption) | refine below_alloc ?_ _ | refine Below.drew ?_ | refine below_drewN ?_ _)) (ext_below _ y)⟩
      go_wp2_with fail
      go_ret
      exact ⟨ret_b HE2.out.symm, HB.out⟩
    | false =>
      rw [hr1] at HC HE
      by_cases c2 : op' = 4
      · have hn' := hk' c2
        obtain ⟨b', o', rfl, hbl', x', op2, nm2, a2, n2, d2, X', r0, r1, r2, hT2⟩ := hS'.at_ 0 hn'
        have HC2 := Aside.mk (fun W (hW : Below w.heap.size w W) => same_c x' _ op2 nm2 a2 n2 d2 op nm _ n c W (hT2.keep hW) (h.keep hW))
        have HE2 : Aside ((Fm.mk op nm ks).opposite (.mk op' nm' ks') = x'.same (.mk op nm ks)) := ⟨by rw [HE.out, ith0 X']; simp [c2]⟩
        generalize (Fm.mk op nm ks).opposite (.mk op' nm' ks') = R at HE2 ⊢
        generalize x'.same (.mk op nm ks) = R2 at HE2 HC2
        simp only [Nat.zero_mul, Nat.add_zero] at r0 r1 r2
        have c2' : (op' == 4) = true := by simp [c2]
        have hnl' : (0 : Int) < (n' : Int) := by omega
        have hbl2' : b' < w.heap.size + 1 + 1 := by omega
        clear hS hS' h h' hk hk' c1 c2 hr1 HE hT1 hT2 X X'
        go_enter Tryz.func256, Tryz.ntmps256
        go_wp2_with fail
        refine region_ext (by kernel_rfl) (by kernel_rfl) ?_
        repeat (go_big_quiet_step ((first | exact ext_call (HC.out _ (below_to (by repeat (first | (with_reducible exact Below.refl _ _) | (with_reducible assumption) | refine below_alloc ?_ _ | refine Below.drew ?_ | refine below_drewN ?_ _)) (ext_below _ _))) | exact ext_call (HC2.out _ (below_to (by repeat (first | (with_reducible exact Below.refl _ _) | (with_reducible assumption) | refine below_alloc ?_ _ | refine Below.drew ?_ | refine below_drewN ?_ _)) (ext_below _ _))))))
        refine wpQuiet_nil ?_
        rintro _ ⟨y, rfl⟩
        have HB : Aside (Below w.heap.size w (ext _ y)) := ⟨below_to (by repeat (first | (with_reducible exact Below.refl _ _) | (with_reducible assumption) | refine below_alloc ?_ _ | refine Below.drew ?_ | refine below_drewN ?_ _)) (ext_below _ y)⟩
        go_wp2_with fail
        go_ret
        exact ⟨ret_b (by rw [HE2.out]), HB.out⟩
      · have HE2 : Aside ((Fm.mk op nm ks).opposite (.mk op' nm' ks') = false) := ⟨by rw [HE.out]; simp [c2]⟩
        generalize (Fm.mk op nm ks).opposite (.mk op' nm' ks') = R at HE2 ⊢
        have c2' : (op' == 4) = false := by simp [c2]
        clear hS hS' h h' hk hk' c1 c2 hr1 HE hT1 X
        go_enter Tryz.func256, Tryz.ntmps256
        go_wp2_with fail
        refine region_ext (by kernel_rfl) (by kernel_rfl) ?_
        repeat (go_big_quiet_step ((exact ext_call (HC.out _ (below_to (by repeat (first | (with_reducible exact Below.refl _ _) | (with_reducible assumption) | refine below_alloc ?_ _ | refine Below.drew ?_ | refine below_drewN ?_ _)) (ext_below _ _))))))
        refine wpQuiet_nil ?_
        rintro _ ⟨y, rfl⟩
        have HB : Aside (Below w.heap.size w (ext _ y)) := ⟨below_to (by repeat (first | (with_reducible exact Below.refl _ _) | (with_reducible assumption) | refine below_alloc ?_ _ | refine Below.drew ?_ | refine below_drewN ?_ _)) (ext_below _ y)⟩
        go_wp2_with fail
        go_ret
        exact ⟨ret_b (by rw [HE2.out]), HB.out⟩
  · have c1' : (op == 4) = false := by simp [c1]
    have HE : Aside ((Fm.mk op nm ks).opposite (.mk op' nm' ks') = (decide (op' = 4) && (Fm.mk op' nm' ks').k0.same (.mk op nm ks))) := ⟨by
      show ((decide (op = 4) && (Fm.mk op nm ks).k0.same (.mk op' nm' ks')) || (decide (op' = 4) && (Fm.mk op' nm' ks').k0.same (.mk op nm ks))) = _
      rw [decide_eq_false c1, Bool.false_and, Bool.false_or]⟩
    by_cases c2 : op' = 4
    · have hn' := hk' c2
      obtain ⟨b', o', rfl, hbl', x', op2, nm2, a2, n2, d2, X', r0, r1, r2, hT2⟩ := hS'.at_ 0 hn'
      have HC2 := Aside.mk (fun W (hW : Below w.heap.size w W) => same_c x' _ op2 nm2 a2 n2 d2 op nm _ n c W (hT2.keep hW) (h.keep hW))
      have HE2 : Aside ((Fm.mk op nm ks).opposite (.mk op' nm' ks') = x'.same (.mk op nm ks)) := ⟨by rw [HE.out, ith0 X']; simp [c2]⟩
      generalize (Fm.mk op nm ks).opposite (.mk op' nm' ks') = R at HE2 ⊢
      generalize x'.same (.mk op nm ks) = R2 at HE2 HC2
      simp only [Nat.zero_mul, Nat.add_zero] at r0 r1 r2
      have c2' : (op' == 4) = true := by simp [c2]
      have hnl' : (0 : Int) < (n' : Int) := by omega
      have hbl2' : b' < w.heap.size + 1 + 1 := by omega
      clear hS hS' h h' hk hk' c1 c2 HE hT2 X'
      go_enter Tryz.func256, Tryz.ntmps256
      go_wp2_with fail
      refine region_ext (by kernel_rfl) (by kernel_rfl) ?_
      repeat (go_big_quiet_step ((exact ext_call (HC2.out _ (below_to (by repeat (first | (with_reducible exact Below.refl _ _) | (with_reducible assumption) | refine below_alloc ?_ _ | refine Below.drew ?_ | refine below_drewN ?_ _)) (ext_below _ _))))))
      refine wpQuiet_nil ?_
      rintro _ ⟨y, rfl⟩
      have HB : Aside (Below w.heap.size w (ext _ y)) := ⟨below_to (by repeat (first | (with_reducible exact Below.refl _ _) | (with_reducible assumption) | refine below_alloc ?_ _ | refine Below.drew ?_ | refine below_drewN ?_ _)) (ext_below _ y)⟩
      go_wp2_with fail
      go_ret
      exact ⟨ret_b (by rw [HE2.out]), HB.out⟩
    · have HE2 : Aside ((Fm.mk op nm ks).opposite (.mk op' nm' ks') = false) := ⟨by rw [HE.out]; simp [c2]⟩
      generalize (Fm.mk op nm ks).opposite (.mk op' nm' ks') = R at HE2 ⊢
      have c2' : (op' == 4) = false := by simp [c2]
      clear hS hS' h h' hk hk' c1 c2 HE
      go_enter Tryz.func256, Tryz.ntmps256
      go_wp2_with fail
      refine region_ext (by kernel_rfl) (by kernel_rfl) ?_
      repeat (go_big_quiet_step (fail))
      refine wpQuiet_nil ?_
      rintro _ ⟨y, rfl⟩
      have HB : Aside (Below w.heap.size w (ext _ y)) := ⟨below_to (by repeat (first | (with_reducible exact Below.refl _ _) | (with_reducible assumption) | refine below_alloc ?_ _ | refine Below.drew ?_ | refine below_drewN ?_ _)) (ext_below _ y)⟩
      go_wp2_with fail
      go_ret
      exact ⟨ret_b (by rw [HE2.out]), HB.out⟩

set_option maxRecDepth 100000 in
set_option maxHeartbeats 2000000 in
theorem among_c (f g : Fm) (q : Int) (op : Int) (nm : ByteArray) (a : Option Addr) (n c : Nat) (op' : Int) (nm' : ByteArray) (a' : Option Addr) (n' c' : Nat) (w : World) (h : IsT w op nm a n c f) (h' : IsT w op' nm' a' n' c' g)
    (hk : op = q → 1 < n) :
    Calls Tryz.prog 257 #[fv op nm a n c, .int .u8 q, fv op' nm' a' n' c'] w fun e w' => e = .returned (.bool (f.among q g)) ∧ Below w.heap.size w w' := by
  obtain ⟨h0, h1, h2, ks, rfl, hS⟩ := h.parts
  have hext := ext_cell
  by_cases c1 : op = q
  · have hn := hk c1
    obtain ⟨b, o, rfl, hbl, x, op1, nm1, a1, n1, d1, X, q0, q1, q2, hT1⟩ := hS.at_ 0 (by omega)
    obtain ⟨b', o', e', hbl', y, op2, nm2, a2, n2, d2, Y, r0, r1, r2, hT2⟩ := hS.at_ 1 hn
    obtain ⟨rfl, rfl⟩ : b' = b ∧ o' = o := by cases e'; exact ⟨rfl, rfl⟩
    clear e'
    have HC := Aside.mk (fun W (hW : Below w.heap.size w W) => same_c x g op1 nm1 a1 n1 d1 op' nm' a' n' c' W (hT1.keep hW) (h'.keep hW))
    have HC2 := Aside.mk (fun W (hW : Below w.heap.size w W) => same_c y g op2 nm2 a2 n2 d2 op' nm' a' n' c' W (hT2.keep hW) (h'.keep hW))
    have HE : Aside ((Fm.mk op nm ks).among q g = (x.same g || y.same g)) := ⟨by
      show (decide (op = q) && ((Fm.mk op nm ks).k0.same g || (Fm.mk op nm ks).k1.same g)) = _
      rw [ith0 X, ith1 Y, decide_eq_true c1, Bool.true_and]⟩
    generalize (Fm.mk op nm ks).among q g = R at HE ⊢
    simp only [Nat.zero_mul, Nat.add_zero, Nat.one_mul] at q0 q1 q2 r0 r1 r2
    have c1' : (op == q) = true := by simp [c1]
    have hnl : (1 : Int) < (n : Int) := by omega
    have hnl0 : (0 : Int) < (n : Int) := by omega
    have hbl2 : b' < w.heap.size + 1 + 1 := by omega
    cases hr1 : x.same g with
    | true =>
      rw [hr1] at HC HE
      have HE2 : Aside (R = true) := ⟨by rw [HE.out]; simp⟩
      clear hS h h' hk c1 hr1 HE hT1 hT2 X Y
      go_enter Tryz.func257, Tryz.ntmps257
      go_wp2_with fail
      refine region_ext (by kernel_rfl) (by kernel_rfl) ?_
      repeat (go_big_quiet_step ((exact ext_call (HC.out _ (below_to (by repeat (first | (with_reducible exact Below.refl _ _) | (with_reducible assumption) | refine below_alloc ?_ _ | refine Below.drew ?_ | refine below_drewN ?_ _)) (ext_below _ _))))))
      refine wpQuiet_nil ?_
      rintro _ ⟨y, rfl⟩
      have HB : Aside (Below w.heap.size w (ext _ y)) := ⟨below_to (by repeat (first | (with_reducible exact Below.refl _ _) | (with_reducible assumption) | refine below_alloc ?_ _ | refine Below.drew ?_ | refine below_drewN ?_ _)) (ext_below _ y)⟩
      go_wp2_with fail
      go_ret
      exact ⟨ret_b (by rw [HE2.out]), HB.out⟩
    | false =>
      rw [hr1] at HC HE
      have HE2 : Aside (R = y.same g) := ⟨by rw [HE.out]; simp⟩
      generalize y.same g = R2 at HE2 HC2
      clear hS h h' hk c1 hr1 HE hT1 hT2 X Y
      go_enter Tryz.func257, Tryz.ntmps257
      go_wp2_with fail
      refine region_ext (by kernel_rfl) (by kernel_rfl) ?_
      repeat (go_big_quiet_step ((first | exact ext_call (HC.out _ (below_to (by repeat (first | (with_reducible exact Below.refl _ _) | (with_reducible assumption) | refine below_alloc ?_ _ | refine Below.drew ?_ | refine below_drewN ?_ _)) (ext_below _ _))) | exact ext_call (HC2.out _ (below_to (by repeat (first | (with_reducible exact Below.refl _ _) | (with_reducible assumption) | refine below_alloc ?_ _ | refine Below.drew ?_ | refine below_drewN ?_ _)) (ext_below _ _))))))
      refine wpQuiet_nil ?_
      rintro _ ⟨y, rfl⟩
      have HB : Aside (Below w.heap.size w (ext _ y)) := ⟨below_to (by repeat (first | (with_reducible exact Below.refl _ _) | (with_reducible assumption) | refine below_alloc ?_ _ | refine Below.drew ?_ | refine below_drewN ?_ _)) (ext_below _ y)⟩
      go_wp2_with fail
      go_ret
      exact ⟨ret_b (by rw [HE2.out]), HB.out⟩
  · have c1' : (op == q) = false := by simp [c1]
    have HE2 : Aside ((Fm.mk op nm ks).among q g = false) := ⟨by simp [Fm.among, c1]⟩
    generalize (Fm.mk op nm ks).among q g = R at HE2 ⊢
    clear hS h h' hk c1
    go_enter Tryz.func257, Tryz.ntmps257
    go_wp2_with fail
    refine region_ext (by kernel_rfl) (by kernel_rfl) ?_
    repeat (go_big_quiet_step (fail))
    refine wpQuiet_nil ?_
    rintro _ ⟨y, rfl⟩
    have HB : Aside (Below w.heap.size w (ext _ y)) := ⟨below_to (by repeat (first | (with_reducible exact Below.refl _ _) | (with_reducible assumption) | refine below_alloc ?_ _ | refine Below.drew ?_ | refine below_drewN ?_ _)) (ext_below _ y)⟩
    go_wp2_with fail
    go_ret
    exact ⟨ret_b (by rw [HE2.out]), HB.out⟩
end Go.Proofs.YtmmakkaolknbaaaGreatDoor
