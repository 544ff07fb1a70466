/- What the entries of nnf's tables do; pos and neg, given form: printed by gen_formI.py. -/
import Derived.Test.YtmmakkaolknbaaaGreatDoorFormC
import Derived.Test.YtmmakkaolknbaaaGreatDoorFormD
import Derived.Test.YtmmakkaolknbaaaGreatDoorFormE
import Derived.Test.YtmmakkaolknbaaaGreatDoorFormH
import Derived.Test.YtmmakkaolknbaaaGreatDoorPlC
namespace Go.Proofs.YtmmakkaolknbaaaGreatDoor
set_option linter.unusedVariables false
set_option linter.unusedSimpArgs false
open Go.RowKit Go.Shelf

def FormC (d : Bool) (f : Fm) : Prop := ∀ (X : Nat → Prop) (op : Int) (nm : ByteArray) (a : Option Addr) (n c : Nat) (w : World), IsTX X w op nm a n c f → Calls Tryz.prog 147 #[fv op nm a n c, .bool d] w (RetX X (f.nf d) w)

set_option maxHeartbeats 1000000 in
theorem pos_of {f : Fm} (hf : FormC false f) : PosC f := by
  intro X op nm a n c w h
  have HC := Aside.mk (fun W (hW : Below w.heap.size w W) => hf (fun b => X b ∧ b < w.heap.size) op nm a n c W (h.old.keep hW))
  clear h hf
  generalize f.nf false = F at HC ⊢
  go_enter Tryz.func261, Tryz.ntmps261
  go_wp2_with fail
  refine (HC.out _ (by repeat (first | (with_reducible exact Below.refl _ _) | (with_reducible assumption) | refine below_alloc ?_ _ | refine Below.drew ?_ | refine below_drewN ?_ _))).mono ?_
  rintro e w2 ⟨o2, n2, a2, l2, d2, rfl, hT2, hb2⟩
  have r0 : w2.cell? ⟨w.heap.size + 1, 0, none⟩ = some (.int .u8 0) := cell_below hb2 (by go_simp)
  have r1 : w2.cell? ⟨w.heap.size + 1, 1, none⟩ = some (.string nil8) := cell_below hb2 (by go_simp)
  have r2 : w2.cell? ⟨w.heap.size + 1, 2, none⟩ = some (.slice none 0 0) := cell_below hb2 (by go_simp)
  have f0 : w2.frozen? ⟨w.heap.size + 1, 0, none⟩ = false := (hb2.frozen (by simp)).trans (by go_simp)
  have f1 : w2.frozen? ⟨w.heap.size + 1, 1, none⟩ = false := (hb2.frozen (by simp)).trans (by go_simp)
  have f2 : w2.frozen? ⟨w.heap.size + 1, 2, none⟩ = false := (hb2.frozen (by simp)).trans (by go_simp)
  have HT : Aside (IsTX (fun b => (X b ∧ b < w.heap.size) ∨ (w.heap.size + 1 + 1) ≤ b) w2 o2 n2 a2 l2 d2 F) := ⟨hT2.mono fun b hb _ => hb.elim .inl (fun hb => .inr (by simpa using hb))⟩
  have HB : Aside (Below w.heap.size w w2) := ⟨below_to (by repeat (first | (with_reducible exact Below.refl _ _) | (with_reducible assumption) | refine below_alloc ?_ _ | refine Below.drew ?_ | refine below_drewN ?_ _)) hb2⟩
  have hsz : w.heap.size + 1 < w2.heap.size := by have := hb2.size; simp at this; omega
  clear hT2 hb2
  go_wp2_with fail
  refine bodyPost_ret (v := fv o2 n2 a2 l2 d2) (by simp [results, Tryz.results261, go_sem, r0, r1, r2]) rfl ?_
  exact RetX.at_ (w.heap.size + 1 + 1) HT.out HB.out (by omega) (by omega) _ _ _

set_option maxHeartbeats 1000000 in
theorem neg_of {f : Fm} (hf : FormC true f) : NegC f := by
  intro X op nm a n c w h
  have HC := Aside.mk (fun W (hW : Below w.heap.size w W) => hf (fun b => X b ∧ b < w.heap.size) op nm a n c W (h.old.keep hW))
  clear h hf
  generalize f.nf true = F at HC ⊢
  go_enter Tryz.func263, Tryz.ntmps263
  go_wp2_with fail
  refine (HC.out _ (by repeat (first | (with_reducible exact Below.refl _ _) | (with_reducible assumption) | refine below_alloc ?_ _ | refine Below.drew ?_ | refine below_drewN ?_ _))).mono ?_
  rintro e w2 ⟨o2, n2, a2, l2, d2, rfl, hT2, hb2⟩
  have r0 : w2.cell? ⟨w.heap.size + 1, 0, none⟩ = some (.int .u8 0) := cell_below hb2 (by go_simp)
  have r1 : w2.cell? ⟨w.heap.size + 1, 1, none⟩ = some (.string nil8) := cell_below hb2 (by go_simp)
  have r2 : w2.cell? ⟨w.heap.size + 1, 2, none⟩ = some (.slice none 0 0) := cell_below hb2 (by go_simp)
  have f0 : w2.frozen? ⟨w.heap.size + 1, 0, none⟩ = false := (hb2.frozen (by simp)).trans (by go_simp)
  have f1 : w2.frozen? ⟨w.heap.size + 1, 1, none⟩ = false := (hb2.frozen (by simp)).trans (by go_simp)
  have f2 : w2.frozen? ⟨w.heap.size + 1, 2, none⟩ = false := (hb2.frozen (by simp)).trans (by go_simp)
  have HT : Aside (IsTX (fun b => (X b ∧ b < w.heap.size) ∨ (w.heap.size + 1 + 1) ≤ b) w2 o2 n2 a2 l2 d2 F) := ⟨hT2.mono fun b hb _ => hb.elim .inl (fun hb => .inr (by simpa using hb))⟩
  have HB : Aside (Below w.heap.size w w2) := ⟨below_to (by repeat (first | (with_reducible exact Below.refl _ _) | (with_reducible assumption) | refine below_alloc ?_ _ | refine Below.drew ?_ | refine below_drewN ?_ _)) hb2⟩
  have hsz : w.heap.size + 1 < w2.heap.size := by have := hb2.size; simp at this; omega
  clear hT2 hb2
  go_wp2_with fail
  refine bodyPost_ret (v := fv o2 n2 a2 l2 d2) (by simp [results, Tryz.results263, go_sem, r0, r1, r2]) rfl ?_
  exact RetX.at_ (w.heap.size + 1 + 1) HT.out HB.out (by omega) (by omega) _ _ _

/-- A plain function, a function of 'both', that makes F of kids ks. -/
def G1 (g : Nat) (ks : List Fm) (F : Fm) : Prop := (∀ args w, (callFunc g args).run Tryz.prog w = .ok (.enter g args) w) ∧ ∀ (X : Nat → Prop) (a : Option Addr) (n c : Nat) (W : World), IsSX X W a n c ks → Calls Tryz.prog g #[.slice a n c] W (RetX X F W)
def G2 (q : Int) (g1 g2 : Nat) (ks : List Fm) (F : Fm) : Prop := ∀ (X : Nat → Prop) (a : Option Addr) (n c : Nat) (W : World) (B : Nat), IsSX X W a n c ks → W.cell? ⟨B, 0, none⟩ = some (.int .u8 q) → W.cell? ⟨B + 1, 0, none⟩ = some (fnV g1) → W.cell? ⟨B + 1 + 1, 0, none⟩ = some (fnV g2) →
  Calls Tryz.prog 295 #[.slice a n c, .pointer (some ⟨B, 0, none⟩), .pointer (some ⟨B + 1, 0, none⟩), .pointer (some ⟨B + 1 + 1, 0, none⟩)] W (RetX X F W)
def MkV (ks : List Fm) (F : Fm) (v : Value) (W : World) : Prop := (∃ g, v = fnV g ∧ G1 g ks F) ∨ ∃ q g1 g2, Clo q g1 g2 v W ∧ G2 q g1 g2 ks F
theorem mkV_stable (ks : List Fm) (F : Fm) : Stable (MkV ks F) := by
  rintro v W W' (h | ⟨q, g1, g2, hC, hG⟩) hb
  · exact .inl h
  · exact .inr ⟨q, g1, g2, clo_stable q g1 g2 v W W' hC hb, hG⟩
theorem pos_ent : ∀ args w, (callFunc 261 args).run Tryz.prog w = .ok (.enter 261 args) w := enters_of Tryz.func261 (by kernel_rfl) rfl
theorem neg_ent : ∀ args w, (callFunc 263 args).run Tryz.prog w = .ok (.enter 263 args) w := enters_of Tryz.func263 (by kernel_rfl) rfl
theorem szMaker : (Tryz.prog.types[228]'(of_decide_eq_true (by kernel_rfl))).size = 1 := by kernel_rfl

/-- What the entries of normals owe. -/
def EntN (op : Int) (ks : List Fm) (F : Fm) : Prop :=
  if op = 4 then G1 270 ks F
  else if op = 5 then G2 5 261 261 ks F
  else if op = 6 then G2 6 261 261 ks F
  else if op = 7 then G2 6 263 261 ks F
  else if op = 8 then G1 271 ks F
  else if op = 9 then G1 272 ks F
  else if op = 10 then G1 273 ks F
  else if op = 11 then G1 274 ks F
  else if op = 12 then G2 12 261 261 ks F
  else if op = 13 then G2 13 261 261 ks F
  else if op = 14 then G1 275 ks F
  else if op = 15 then G1 276 ks F else True
theorem entN_of (op : Int) (nm : ByteArray) (ks : List Fm) (h0 : 4 ≤ op) (h1 : op ≤ 15) (hl : (ks.length : Int) = kidsOf op) (hP : ∀ k ∈ ks, PosC k) (hN : ∀ k ∈ ks, NegC k) : EntN op ks ((Fm.mk op nm ks).nf false) := by
  rcases (show op = 4 ∨ op = 5 ∨ op = 6 ∨ op = 7 ∨ op = 8 ∨ op = 9 ∨ op = 10 ∨ op = 11 ∨ op = 12 ∨ op = 13 ∨ op = 14 ∨ op = 15 by omega) with rfl | rfl | rfl | rfl | rfl | rfl | rfl | rfl | rfl | rfl | rfl | rfl
  · obtain ⟨f, rfl⟩ := len1 hl
    rw [nf4]
    exact (show G1 270 _ _ from ⟨enters_of Tryz.func270 (by kernel_rfl) rfl, fun X a n c W hS => normals1_c f (hN f (by simp)) a n c W hS⟩)
  · obtain ⟨f, g, rfl⟩ := len2 hl
    rw [nf5]
    exact (show G2 5 261 261 _ _ from fun X a n c W B hS k0 k1 k2 => clo_c 5 (by omega) (by omega) 261 261 pos_ent pos_ent f g _ _ (hP f (by simp)) (hP g (by simp)) a n c W hS B k0 k1 k2)
  · obtain ⟨f, g, rfl⟩ := len2 hl
    rw [nf6]
    exact (show G2 6 261 261 _ _ from fun X a n c W B hS k0 k1 k2 => clo_c 6 (by omega) (by omega) 261 261 pos_ent pos_ent f g _ _ (hP f (by simp)) (hP g (by simp)) a n c W hS B k0 k1 k2)
  · obtain ⟨f, g, rfl⟩ := len2 hl
    rw [nf7]
    exact (show G2 6 263 261 _ _ from fun X a n c W B hS k0 k1 k2 => clo_c 6 (by omega) (by omega) 263 261 neg_ent pos_ent f g _ _ (hN f (by simp)) (hP g (by simp)) a n c W hS B k0 k1 k2)
  · obtain ⟨f, g, rfl⟩ := len2 hl
    rw [nf8]
    exact (show G1 271 _ _ from ⟨enters_of Tryz.func271 (by kernel_rfl) rfl, fun X a n c W hS => normals2_c f g (hN f (by simp)) (hN g (by simp)) (hP f (by simp)) (hP g (by simp)) a n c W hS⟩)
  · obtain ⟨f, rfl⟩ := len1 hl
    rw [nf9]
    exact (show G1 272 _ _ from ⟨enters_of Tryz.func272 (by kernel_rfl) rfl, fun X a n c W hS => normals3_c f (hP f (by simp)) a n c W hS⟩)
  · obtain ⟨f, rfl⟩ := len1 hl
    rw [nf10]
    exact (show G1 273 _ _ from ⟨enters_of Tryz.func273 (by kernel_rfl) rfl, fun X a n c W hS => normals4_c f (hP f (by simp)) a n c W hS⟩)
  · obtain ⟨f, rfl⟩ := len1 hl
    rw [nf11]
    exact (show G1 274 _ _ from ⟨enters_of Tryz.func274 (by kernel_rfl) rfl, fun X a n c W hS => normals5_c f (hP f (by simp)) a n c W hS⟩)
  · obtain ⟨f, g, rfl⟩ := len2 hl
    rw [nf12]
    exact (show G2 12 261 261 _ _ from fun X a n c W B hS k0 k1 k2 => clo_c 12 (by omega) (by omega) 261 261 pos_ent pos_ent f g _ _ (hP f (by simp)) (hP g (by simp)) a n c W hS B k0 k1 k2)
  · obtain ⟨f, g, rfl⟩ := len2 hl
    rw [nf13]
    exact (show G2 13 261 261 _ _ from fun X a n c W B hS k0 k1 k2 => clo_c 13 (by omega) (by omega) 261 261 pos_ent pos_ent f g _ _ (hP f (by simp)) (hP g (by simp)) a n c W hS B k0 k1 k2)
  · obtain ⟨f, g, rfl⟩ := len2 hl
    rw [nf14]
    exact (show G1 275 _ _ from ⟨enters_of Tryz.func275 (by kernel_rfl) rfl, fun X a n c W hS => normals6_c f g (hP f (by simp)) (hP g (by simp)) a n c W hS⟩)
  · obtain ⟨f, g, rfl⟩ := len2 hl
    rw [nf15]
    exact (show G1 276 _ _ from ⟨enters_of Tryz.func276 (by kernel_rfl) rfl, fun X a n c W hS => normals7_c f g (hP f (by simp)) (hP g (by simp)) a n c W hS⟩)

/-- What the entries of duals owe. -/
def EntD (op : Int) (ks : List Fm) (F : Fm) : Prop :=
  if op = 4 then G1 260 ks F
  else if op = 5 then G2 6 263 263 ks F
  else if op = 6 then G2 5 263 263 ks F
  else if op = 7 then G2 5 261 263 ks F
  else if op = 8 then G1 264 ks F
  else if op = 9 then G1 265 ks F
  else if op = 10 then G1 266 ks F
  else if op = 11 then G1 267 ks F
  else if op = 12 then G2 13 263 263 ks F
  else if op = 13 then G2 12 263 263 ks F
  else if op = 14 then G1 268 ks F
  else if op = 15 then G1 269 ks F else True
theorem entD_of (op : Int) (nm : ByteArray) (ks : List Fm) (h0 : 4 ≤ op) (h1 : op ≤ 15) (hl : (ks.length : Int) = kidsOf op) (hP : ∀ k ∈ ks, PosC k) (hN : ∀ k ∈ ks, NegC k) : EntD op ks ((Fm.mk op nm ks).nf true) := by
  rcases (show op = 4 ∨ op = 5 ∨ op = 6 ∨ op = 7 ∨ op = 8 ∨ op = 9 ∨ op = 10 ∨ op = 11 ∨ op = 12 ∨ op = 13 ∨ op = 14 ∨ op = 15 by omega) with rfl | rfl | rfl | rfl | rfl | rfl | rfl | rfl | rfl | rfl | rfl | rfl
  · obtain ⟨f, rfl⟩ := len1 hl
    rw [nf4]
    exact (show G1 260 _ _ from ⟨enters_of Tryz.func260 (by kernel_rfl) rfl, fun X a n c W hS => duals1_c f (hP f (by simp)) a n c W hS⟩)
  · obtain ⟨f, g, rfl⟩ := len2 hl
    rw [nf5]
    exact (show G2 6 263 263 _ _ from fun X a n c W B hS k0 k1 k2 => clo_c 6 (by omega) (by omega) 263 263 neg_ent neg_ent f g _ _ (hN f (by simp)) (hN g (by simp)) a n c W hS B k0 k1 k2)
  · obtain ⟨f, g, rfl⟩ := len2 hl
    rw [nf6]
    exact (show G2 5 263 263 _ _ from fun X a n c W B hS k0 k1 k2 => clo_c 5 (by omega) (by omega) 263 263 neg_ent neg_ent f g _ _ (hN f (by simp)) (hN g (by simp)) a n c W hS B k0 k1 k2)
  · obtain ⟨f, g, rfl⟩ := len2 hl
    rw [nf7]
    exact (show G2 5 261 263 _ _ from fun X a n c W B hS k0 k1 k2 => clo_c 5 (by omega) (by omega) 261 263 pos_ent neg_ent f g _ _ (hP f (by simp)) (hN g (by simp)) a n c W hS B k0 k1 k2)
  · obtain ⟨f, g, rfl⟩ := len2 hl
    rw [nf8]
    exact (show G1 264 _ _ from ⟨enters_of Tryz.func264 (by kernel_rfl) rfl, fun X a n c W hS => duals2_c f g (hN f (by simp)) (hN g (by simp)) (hP f (by simp)) (hP g (by simp)) a n c W hS⟩)
  · obtain ⟨f, rfl⟩ := len1 hl
    rw [nf9]
    exact (show G1 265 _ _ from ⟨enters_of Tryz.func265 (by kernel_rfl) rfl, fun X a n c W hS => duals3_c f (hN f (by simp)) a n c W hS⟩)
  · obtain ⟨f, rfl⟩ := len1 hl
    rw [nf10]
    exact (show G1 266 _ _ from ⟨enters_of Tryz.func266 (by kernel_rfl) rfl, fun X a n c W hS => duals4_c f (hN f (by simp)) a n c W hS⟩)
  · obtain ⟨f, rfl⟩ := len1 hl
    rw [nf11]
    exact (show G1 267 _ _ from ⟨enters_of Tryz.func267 (by kernel_rfl) rfl, fun X a n c W hS => duals5_c f (hN f (by simp)) a n c W hS⟩)
  · obtain ⟨f, g, rfl⟩ := len2 hl
    rw [nf12]
    exact (show G2 13 263 263 _ _ from fun X a n c W B hS k0 k1 k2 => clo_c 13 (by omega) (by omega) 263 263 neg_ent neg_ent f g _ _ (hN f (by simp)) (hN g (by simp)) a n c W hS B k0 k1 k2)
  · obtain ⟨f, g, rfl⟩ := len2 hl
    rw [nf13]
    exact (show G2 12 263 263 _ _ from fun X a n c W B hS k0 k1 k2 => clo_c 12 (by omega) (by omega) 263 263 neg_ent neg_ent f g _ _ (hN f (by simp)) (hN g (by simp)) a n c W hS B k0 k1 k2)
  · obtain ⟨f, g, rfl⟩ := len2 hl
    rw [nf14]
    exact (show G1 268 _ _ from ⟨enters_of Tryz.func268 (by kernel_rfl) rfl, fun X a n c W hS => duals6_c f g (hN f (by simp)) (hN g (by simp)) a n c W hS⟩)
  · obtain ⟨f, g, rfl⟩ := len2 hl
    rw [nf15]
    exact (show G1 269 _ _ from ⟨enters_of Tryz.func269 (by kernel_rfl) rfl, fun X a n c W hS => duals7_c f g (hN f (by simp)) (hN g (by simp)) a n c W hS⟩)

end Go.Proofs.YtmmakkaolknbaaaGreatDoor
