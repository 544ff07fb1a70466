/- Contracts: tree.big, right, Right. -/
import Derived.Test.YtmmakkaolknbaaaGreatDoorForm
namespace Go.Proofs.YtmmakkaolknbaaaGreatDoor
set_option linter.unusedVariables false
set_option linter.unusedSimpArgs false
open Go.RowKit Go.Shelf

def Fm.big (f : Fm) : Bool := decide (1000 < f.size) || decide (100 < f.depth)
set_option maxHeartbeats 1000000 in
theorem big_c (f : Fm) (op : Int) (nm : ByteArray) (a : Option Addr) (n c : Nat) (w : World) (h : IsT w op nm a n c f) (hs : f.size ≤ 4611686018427387904) :
    Calls Tryz.prog 142 #[fv op nm a n c] w fun e w' => e = .returned (.bool f.big) ∧ Below w.heap.size w w' := by
  have hd := f.depth_le_size
  have HS := Aside.mk (fun W hW => size_c f op nm a n c W (h.keep (w := w) hW) hs)
  have HD := Aside.mk (fun W hW => depth_c f op nm a n c W (h.keep (w := w) hW) (by omega))
  clear h
  by_cases h1 : 1000 < f.size
  · have h1' : (1000 : Int) < (f.size : Int) := by omega
    have HE : Aside (f.big = true) := ⟨by simp [Fm.big, h1]⟩
    generalize f.big = R at HE ⊢
    go_enter Tryz.func142, Tryz.ntmps142
    go_wp2_with fail
    refine (HS.out _ ?_).mono ?_
    · exact (by repeat (first | (with_reducible exact Below.refl _ _) | (with_reducible assumption) | refine below_alloc ?_ _ | refine Below.drew ?_ | refine below_drewN ?_ _))
    rintro e w2 ⟨rfl, hb2⟩
    have HB2 : Aside (Below w.heap.size w w2) := ⟨below_to (by repeat (first | (with_reducible exact Below.refl _ _) | (with_reducible assumption) | refine below_alloc ?_ _ | refine Below.drew ?_ | refine below_drewN ?_ _)) hb2⟩
    clear hb2
    go_wp2_with fail
    go_ret
    exact ⟨ret_b HE.out.symm, HB2.out⟩
  · have h1' : ¬ (1000 : Int) < (f.size : Int) := by omega
    have HE : Aside (f.big = decide (100 < f.depth)) := ⟨by simp [Fm.big, h1]⟩
    generalize f.big = R at HE ⊢
    go_enter Tryz.func142, Tryz.ntmps142
    go_wp2_with fail
    refine (HS.out _ ?_).mono ?_
    · exact (by repeat (first | (with_reducible exact Below.refl _ _) | (with_reducible assumption) | refine below_alloc ?_ _ | refine Below.drew ?_ | refine below_drewN ?_ _))
    rintro e w2 ⟨rfl, hb2⟩
    have HB2 : Aside (Below w.heap.size w w2) := ⟨below_to (by repeat (first | (with_reducible exact Below.refl _ _) | (with_reducible assumption) | refine below_alloc ?_ _ | refine Below.drew ?_ | refine below_drewN ?_ _)) hb2⟩
    have hc0 : w2.cell? ⟨w.heap.size, 0, none⟩ = some (.int .u8 op) := cell_below hb2 (by go_simp)
    have hc1 : w2.cell? ⟨w.heap.size, 1, none⟩ = some (.string nm) := cell_below hb2 (by go_simp)
    have hc2 : w2.cell? ⟨w.heap.size, 2, none⟩ = some (.slice a n c) := cell_below hb2 (by go_simp)
    clear hb2
    go_wp2_with fail
    refine (HD.out _ HB2.out).mono ?_
    rintro e w3 ⟨rfl, hb3⟩
    have HB3 : Aside (Below w.heap.size w w3) := ⟨below_to HB2.out hb3⟩
    clear hb3
    go_wp2_with fail
    go_ret
    exact ⟨ret_b (by rw [HE.out, decide_eq_false (show ¬ (1000 : Int) < (f.size : Int) by omega), Bool.false_or]; exact decide_eq_decide.2 ⟨fun h => by omega, fun h => by omega⟩), HB3.out⟩

def Fm.rightE (p : Int → Bool) (f : Fm) : Int := if f.formed p = true then (if f.big = true then 31 else 0) else 30
theorem rightE_ok {p : Int → Bool} {f : Fm} (h : f.rightE p = 0) : f.formed p = true ∧ f.size ≤ 1000 ∧ f.depth ≤ 100 := by
  unfold Fm.rightE at h
  split at h
  · rename_i h1
    split at h
    · omega
    · rename_i h2
      simp [Fm.big] at h2
      exact ⟨h1, by omega, by omega⟩
  · omega

set_option maxHeartbeats 1000000 in
theorem right_c (g : Nat) (p : Int → Bool) (eg : ∀ args w, (callFunc g args).run Tryz.prog w = .ok (.enter g args) w) (hg : TakesC g p) (f : Fm) (op : Int) (nm : ByteArray) (a : Option Addr) (n c : Nat) (w : World) (hL : Laid w) (h : IsT w op nm a n c f) (hs : f.size ≤ 4611686018427387904) :
    Calls Tryz.prog 74 #[fv op nm a n c, .func (.func g) #[] #[]] w fun e w' => e = .returned (.int .i64 (f.rightE p)) ∧ Below w.heap.size w w' := by
  have HF := Aside.mk (fun W (hW : Below w.heap.size w W) => formed_c g p eg hg f op nm a n c W (hL.keep hW) (h.keep hW))
  have HG := Aside.mk (fun W (hW : Below w.heap.size w W) => big_c f op nm a n c W (h.keep hW) hs)
  have HE : Aside (f.rightE p = if f.formed p = true then (if f.big = true then 31 else 0) else 30) := ⟨rfl⟩
  clear h hL hs hg
  generalize f.rightE p = R at HE ⊢
  cases hf : f.formed p with
  | false =>
    rw [hf] at HF HE
    clear hf
    go_enter Tryz.func74, Tryz.ntmps74
    go_wp2_with fail
    refine (HF.out _ ?_).mono ?_
    · exact (by repeat (first | (with_reducible exact Below.refl _ _) | (with_reducible assumption) | refine below_alloc ?_ _ | refine Below.drew ?_ | refine below_drewN ?_ _))
    rintro e w2 ⟨rfl, hb2⟩
    have HB2 : Aside (Below w.heap.size w w2) := ⟨below_to (by repeat (first | (with_reducible exact Below.refl _ _) | (with_reducible assumption) | refine below_alloc ?_ _ | refine Below.drew ?_ | refine below_drewN ?_ _)) hb2⟩
    clear hb2
    go_wp2_with fail
    go_ret
    exact ⟨ret_i (by simpa using HE.out.symm), HB2.out⟩
  | true =>
    rw [hf] at HF HE
    clear hf
    go_enter Tryz.func74, Tryz.ntmps74
    go_wp2_with fail
    refine (HF.out _ ?_).mono ?_
    · exact (by repeat (first | (with_reducible exact Below.refl _ _) | (with_reducible assumption) | refine below_alloc ?_ _ | refine Below.drew ?_ | refine below_drewN ?_ _))
    rintro e w2 ⟨rfl, hb2⟩
    have HB2 : Aside (Below w.heap.size w w2) := ⟨below_to (by repeat (first | (with_reducible exact Below.refl _ _) | (with_reducible assumption) | refine below_alloc ?_ _ | refine Below.drew ?_ | refine below_drewN ?_ _)) hb2⟩
    have hc0 : w2.cell? ⟨w.heap.size, 0, none⟩ = some (.int .u8 op) := cell_below hb2 (by go_simp)
    have hc1 : w2.cell? ⟨w.heap.size, 1, none⟩ = some (.string nm) := cell_below hb2 (by go_simp)
    have hc2 : w2.cell? ⟨w.heap.size, 2, none⟩ = some (.slice a n c) := cell_below hb2 (by go_simp)
    clear hb2
    go_wp2_with fail
    refine (HG.out _ HB2.out).mono ?_
    rintro e w3 ⟨rfl, hb3⟩
    have HB3 : Aside (Below w.heap.size w w3) := ⟨below_to HB2.out hb3⟩
    clear hb3
    cases hb : f.big with
    | false =>
      rw [hb] at HE
      clear hb
      go_wp2_with fail
      go_ret
      exact ⟨ret_i (by simpa using HE.out.symm), HB3.out⟩
    | true =>
      rw [hb] at HE
      clear hb
      go_wp2_with fail
      go_ret
      exact ⟨ret_i (by simpa using HE.out.symm), HB3.out⟩

def futureB (op : Int) : Bool := decide (op < 16)
theorem Right_c (f : Fm) (op : Int) (nm : ByteArray) (a : Option Addr) (n c : Nat) (w : World) (hL : Laid w) (h : IsT w op nm a n c f) (hs : f.size ≤ 4611686018427387904) :
    Calls Tryz.prog 18 #[fv op nm a n c] w fun e w' => e = .returned (.int .i64 (f.rightE futureB)) ∧ Below w.heap.size w w' := by
  have HC := Aside.mk (fun W (hW : Below w.heap.size w W) => right_c 75 futureB (enters_of Tryz.func75 (by kernel_rfl) rfl) future_c f op nm a n c W (hL.keep hW) (h.keep hW) hs)
  clear h hL hs
  go_enter Tryz.func18, Tryz.ntmps18
  go_wp2_with fail
  refine (HC.out _ ?_).mono ?_
  · exact (by repeat (first | (with_reducible exact Below.refl _ _) | (with_reducible assumption) | refine below_alloc ?_ _ | refine Below.drew ?_ | refine below_drewN ?_ _))
  rintro e w2 ⟨rfl, hb2⟩
  have HB2 : Aside (Below w.heap.size w w2) := ⟨below_to (by repeat (first | (with_reducible exact Below.refl _ _) | (with_reducible assumption) | refine below_alloc ?_ _ | refine Below.drew ?_ | refine below_drewN ?_ _)) hb2⟩
  clear hb2
  go_wp2_with fail
  go_ret
  exact ⟨rfl, HB2.out⟩
end Go.Proofs.YtmmakkaolknbaaaGreatDoor
