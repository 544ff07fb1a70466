/- Contracts of nnf's makers, printed by gen_form.py. -/
import Derived.Test.YtmmakkaolknbaaaGreatDoorFormN
namespace Go.Proofs.YtmmakkaolknbaaaGreatDoor
set_option linter.unusedVariables false
set_option linter.unusedSimpArgs false
open Go.RowKit Go.Shelf

set_option maxRecDepth 100000 in
set_option maxHeartbeats 4000000 in
theorem duals3_c {X : Nat → Prop} (f : Fm) (hnf : NegC f) (a : Option Addr) (n c : Nat) (w : World) (hS : IsSX X w a n c [f]) :
    Calls Tryz.prog 265 #[.slice a n c] w (RetX X (Fm.mk 9 nil8 [(f.nf true)]) w) := by
  obtain ⟨b, o, rfl, hbl, x, op1, nm1, a1, n1, d1, X1, q0, q1, q2, hT1⟩ := hS.at_ 0 (by have := hS.1; simp at this; omega)
  obtain rfl : x = f := by have := X1.get; simp at this; exact this.symm
  simp only [Nat.zero_mul, Nat.add_zero] at q0 q1 q2
  have hnl : (0 : Int) < (n : Int) := by have := hS.1; simp at this; omega
  have hn0 : 0 < n := by omega
  have Hnf := Aside.mk (fun W (hW : Below w.heap.size w W) => hnf (fun b => X b ∧ b < w.heap.size) op1 nm1 a1 n1 d1 W (hT1.old.keep hW))
  clear hS hT1 X1 hnf
  have hbl2 : b < w.heap.size + 1 := by omega
  go_enter Tryz.func265, Tryz.ntmps265
  go_wp2_with fail
  refine (Hnf.out _ (by repeat (first | (with_reducible exact Below.refl _ _) | (with_reducible assumption) | refine below_alloc ?_ _ | refine Below.drew ?_ | refine below_drewN ?_ _))).mono ?_
  rintro e v2 ⟨o3, n3, a3, l3, d3, rfl, hT, hb⟩
  have r0 : v2.cell? ⟨w.heap.size, 0, none⟩ = some (.int .u8 0) := cell_below hb (by go_simp)
  have r1 : v2.cell? ⟨w.heap.size, 1, none⟩ = some (.string nil8) := cell_below hb (by go_simp)
  have r2 : v2.cell? ⟨w.heap.size, 2, none⟩ = some (.slice none 0 0) := cell_below hb (by go_simp)
  have f0 : v2.frozen? ⟨w.heap.size, 0, none⟩ = false := (hb.frozen (by simp)).trans (by go_simp)
  have f1 : v2.frozen? ⟨w.heap.size, 1, none⟩ = false := (hb.frozen (by simp)).trans (by go_simp)
  have f2 : v2.frozen? ⟨w.heap.size, 2, none⟩ = false := (hb.frozen (by simp)).trans (by go_simp)
  have hz := hb.size
  have hsz : w.heap.size < v2.heap.size := by simp at hz; omega
  have HT := Aside.mk hT
  have HB' : Aside (Below w.heap.size w v2) := ⟨below_to (by repeat (first | (with_reducible exact Below.refl _ _) | (with_reducible assumption) | refine below_alloc ?_ _ | refine Below.drew ?_ | refine below_drewN ?_ _)) hb⟩
  clear hT hb hz
  go_wp2_with fail
  refine (of_c _ _ _ _ _).mono ?_
  rintro e w3 ⟨rfl, hb3⟩
  have r0' : w3.cell? ⟨w.heap.size, 0, none⟩ = some (.int .u8 0) := cell_below hb3 (by go_simp)
  have r1' : w3.cell? ⟨w.heap.size, 1, none⟩ = some (.string nil8) := cell_below hb3 (by go_simp)
  have r2' : w3.cell? ⟨w.heap.size, 2, none⟩ = some (.slice none 0 0) := cell_below hb3 (by go_simp)
  have f0' : w3.frozen? ⟨w.heap.size, 0, none⟩ = false := (hb3.frozen (by simp; omega)).trans (by go_simp)
  have f1' : w3.frozen? ⟨w.heap.size, 1, none⟩ = false := (hb3.frozen (by simp; omega)).trans (by go_simp)
  have f2' : w3.frozen? ⟨w.heap.size, 2, none⟩ = false := (hb3.frozen (by simp; omega)).trans (by go_simp)
  have hT3 : IsTX (fun b => (X b ∧ b < w.heap.size) ∨ w.heap.size + 1 ≤ b) w3 9 nil8 (some ⟨v2.heap.size, 0, none⟩) 1 1 (Fm.mk 9 nil8 [(x.nf true)]) := .of_parts (by omega) (by omega) (by decide) (isS1 (.inr (by omega)) (cell_below hb3 (by go_simp)) (cell_below hb3 (by go_simp)) (cell_below hb3 (by go_simp)) ((HT.out.mono fun b hb _ => hb.elim .inl fun h => .inr (by simpa using h)).keep (below_to (below_alloc (Below.refl _ _) _) hb3)))
  have HT3 := Aside.mk hT3
  have HB3 : Aside (Below w.heap.size w w3) := ⟨below_to (below_alloc HB'.out _) hb3⟩
  clear hb3 hT3
  go_wp2_with fail
  refine bodyPost_ret (v := fv 9 nil8 (some ⟨v2.heap.size, 0, none⟩) 1 1) (by simp [results, Tryz.results265, go_sem, r0', r1', r2']) rfl ?_
  exact RetX.at_ _ HT3.out HB3.out (by omega) (by omega) _ _ _

set_option maxRecDepth 100000 in
set_option maxHeartbeats 4000000 in
theorem duals4_c {X : Nat → Prop} (f : Fm) (hnf : NegC f) (a : Option Addr) (n c : Nat) (w : World) (hS : IsSX X w a n c [f]) :
    Calls Tryz.prog 266 #[.slice a n c] w (RetX X (Fm.mk 13 nil8 [(Fm.mk 2 nil8 []), (f.nf true)]) w) := by
  obtain ⟨b, o, rfl, hbl, x, op1, nm1, a1, n1, d1, X1, q0, q1, q2, hT1⟩ := hS.at_ 0 (by have := hS.1; simp at this; omega)
  obtain rfl : x = f := by have := X1.get; simp at this; exact this.symm
  simp only [Nat.zero_mul, Nat.add_zero] at q0 q1 q2
  have hnl : (0 : Int) < (n : Int) := by have := hS.1; simp at this; omega
  have hn0 : 0 < n := by omega
  have Hnf := Aside.mk (fun W (hW : Below w.heap.size w W) => hnf (fun b => X b ∧ b < w.heap.size) op1 nm1 a1 n1 d1 W (hT1.old.keep hW))
  clear hS hT1 X1 hnf
  have hbl2 : b < w.heap.size + 1 := by omega
  go_enter Tryz.func266, Tryz.ntmps266
  go_wp2_with fail
  refine wp_region_mono 7 (by kernel_rfl) (by kernel_rfl) [trV (fun b => (X b ∧ b < w.heap.size) ∨ w.heap.size + 1 ≤ b) (Fm.mk 2 nil8 []), fun v _ => v = .slice (some ⟨b, o, none⟩) n c, fun v _ => v = .pointer (some ⟨b, o, none⟩), fun v _ => v = fv op1 nm1 a1 n1 d1, trV (fun b => (X b ∧ b < w.heap.size) ∨ w.heap.size + 1 ≤ b) (x.nf true), slV (fun b => (X b ∧ b < w.heap.size) ∨ w.heap.size + 1 ≤ b) 2 [(Fm.mk 2 nil8 []), (x.nf true)], trV (fun b => (X b ∧ b < w.heap.size) ∨ w.heap.size + 1 ≤ b) (Fm.mk 13 nil8 [(Fm.mk 2 nil8 []), (x.nf true)])] ⟨trV_stable _ _, stable_eq _, stable_eq _, stable_eq _, trV_stable _ _, slV_stable _ _ _, trV_stable _ _, trivial⟩ ?_ ?_
  · simp only [List.take_succ_cons, List.take_zero]
    refine steps_cons ?_ (steps_cons ?_ (steps_cons ?_ (steps_cons ?_ (steps_cons ?_ (steps_cons ?_ (steps_cons ?_ steps_nil))))))
    all_goals intro vals W hW hv; try simp only [Act.put, List.setIfInBounds_toArray, List.set_cons_zero, List.set_cons_succ]
    · go_wp2_with fail
      refine (of_c _ _ _ _ _).mono ?_
      rintro e w' ⟨rfl, hb⟩
      go_wp2_with fail
      exact ⟨rfl, _, rfl, hb, 2, nil8, _, _, _, rfl, .leaf _ _ _ _ (by omega) (by omega) (by decide) (by omega)⟩
    · go_wp2_with fail
      exact ⟨rfl, _, rfl, (by repeat (first | (with_reducible exact Below.refl _ _) | (with_reducible assumption) | refine below_alloc ?_ _ | refine Below.drew ?_ | refine below_drewN ?_ _)), rfl⟩
    · have e : vals 1 = .slice (some ⟨b, o, none⟩) n c := hv ⟨1, .data⟩ (by simp) rfl
      simp only [e]
      go_wp2_with fail
      exact ⟨rfl, _, rfl, (by repeat (first | (with_reducible exact Below.refl _ _) | (with_reducible assumption) | refine below_alloc ?_ _ | refine Below.drew ?_ | refine below_drewN ?_ _)), rfl⟩
    · have e : vals 2 = .pointer (some ⟨b, o, none⟩) := hv ⟨2, .data⟩ (by simp) rfl
      have c0 : W.cell? ⟨b, o, none⟩ = _ := cell_below hW ((Below.refl w.heap.size w |>.alloc (Nat.le_refl _) _).cell (by omega) |>.trans q0)
      have c1 : W.cell? ⟨b, o + 1, none⟩ = _ := cell_below hW ((Below.refl w.heap.size w |>.alloc (Nat.le_refl _) _).cell (by omega) |>.trans q1)
      have c2 : W.cell? ⟨b, o + 2, none⟩ = _ := cell_below hW ((Below.refl w.heap.size w |>.alloc (Nat.le_refl _) _).cell (by omega) |>.trans q2)
      simp only [e]
      go_wp2_with fail
      exact ⟨rfl, _, rfl, (by repeat (first | (with_reducible exact Below.refl _ _) | (with_reducible assumption) | refine below_alloc ?_ _ | refine Below.drew ?_ | refine below_drewN ?_ _)), rfl⟩
    · have e : vals 3 = fv op1 nm1 a1 n1 d1 := hv ⟨3, .data⟩ (by simp) rfl
      simp only [e]
      go_wp2_with fail
      refine (Hnf.out W (below_to (by repeat (first | (with_reducible exact Below.refl _ _) | (with_reducible assumption) | refine below_alloc ?_ _ | refine Below.drew ?_ | refine below_drewN ?_ _)) hW)).mono ?_
      rintro e w' ⟨o3, n3, a3, l3, d3, rfl, hT, hb⟩
      have HT := Aside.mk hT
      clear hT
      go_wp2_with fail
      exact ⟨rfl, _, rfl, hb, o3, n3, a3, l3, d3, rfl, HT.out.mono fun b hb _ => hb.elim .inl fun h => .inr (by have := hW.size; simp at this; omega)⟩
    · obtain ⟨o0_, n0_, a0_, l0_, d0_, e0, h0⟩ : trV (fun b => (X b ∧ b < w.heap.size) ∨ w.heap.size + 1 ≤ b) (Fm.mk 2 nil8 []) (vals 0) W := hv ⟨0, .data⟩ (by simp) rfl
      have H0 := Aside.mk h0
      clear h0
      obtain ⟨o1_, n1_, a1_, l1_, d1_, e1, h1⟩ : trV (fun b => (X b ∧ b < w.heap.size) ∨ w.heap.size + 1 ≤ b) (x.nf true) (vals 4) W := hv ⟨4, .data⟩ (by simp) rfl
      have H1 := Aside.mk h1
      clear h1
      simp only [e0, e1]
      clear hv
      go_wp2_with fail
      exact ⟨rfl, _, rfl, below_alloc (Below.refl _ _) _, W.heap.size, rfl, isS2 (.inr (by have := hW.size; simpa using this)) (by go_simp) (by go_simp) (by go_simp) (by go_simp) (by go_simp) (by go_simp) (H0.out.keep (below_alloc (Below.refl _ _) _)) (H1.out.keep (below_alloc (Below.refl _ _) _))⟩
    · obtain ⟨b3, e, h3⟩ : slV (fun b => (X b ∧ b < w.heap.size) ∨ w.heap.size + 1 ≤ b) 2 [(Fm.mk 2 nil8 []), (x.nf true)] (vals 5) W := hv ⟨5, .data⟩ (by simp) rfl
      have H3 := Aside.mk h3
      clear h3
      simp only [e]
      clear hv
      go_wp2_with fail
      refine (of_c _ _ _ _ _).mono ?_
      rintro e w' ⟨rfl, hb⟩
      go_wp2_with fail
      exact ⟨rfl, _, rfl, hb, 13, nil8, _, _, _, rfl, .of_parts (by omega) (by omega) (by decide) (H3.out.keep hb)⟩
  · intro vals W hW hv
    obtain ⟨o3, n3, a3, l3, d3, e, h3⟩ : trV (fun b => (X b ∧ b < w.heap.size) ∨ w.heap.size + 1 ≤ b) (Fm.mk 13 nil8 [(Fm.mk 2 nil8 []), (x.nf true)]) (vals 6) W := hv 6 (by omega)
    have HT := Aside.mk h3
    have r0 : W.cell? ⟨w.heap.size, 0, none⟩ = some (.int .u8 0) := cell_below hW (by go_simp)
    have r1 : W.cell? ⟨w.heap.size, 1, none⟩ = some (.string nil8) := cell_below hW (by go_simp)
    have r2 : W.cell? ⟨w.heap.size, 2, none⟩ = some (.slice none 0 0) := cell_below hW (by go_simp)
    have f0 : W.frozen? ⟨w.heap.size, 0, none⟩ = false := (hW.frozen (by simp)).trans (by go_simp)
    have f1 : W.frozen? ⟨w.heap.size, 1, none⟩ = false := (hW.frozen (by simp)).trans (by go_simp)
    have f2 : W.frozen? ⟨w.heap.size, 2, none⟩ = false := (hW.frozen (by simp)).trans (by go_simp)
    have HB : Aside (Below w.heap.size w W) := ⟨below_to (by repeat (first | (with_reducible exact Below.refl _ _) | (with_reducible assumption) | refine below_alloc ?_ _ | refine Below.drew ?_ | refine below_drewN ?_ _)) hW⟩
    clear hv h3
    simp only [List.take_succ_cons, List.take_zero, List.drop_succ_cons, List.drop_zero, lexL, Act.put, List.setIfInBounds_toArray, List.set_cons_zero, List.set_cons_succ, e]
    go_wp2_with fail
    refine bodyPost_ret (v := fv o3 n3 a3 l3 d3) (by simp [results, Tryz.results266, go_sem, r0, r1, r2]) rfl ?_
    exact RetX.at_ _ HT.out HB.out (by omega) (by omega) _ _ _

set_option maxRecDepth 100000 in
set_option maxHeartbeats 4000000 in
theorem duals5_c {X : Nat → Prop} (f : Fm) (hnf : NegC f) (a : Option Addr) (n c : Nat) (w : World) (hS : IsSX X w a n c [f]) :
    Calls Tryz.prog 267 #[.slice a n c] w (RetX X (Fm.mk 12 nil8 [(Fm.mk 1 nil8 []), (f.nf true)]) w) := by
  obtain ⟨b, o, rfl, hbl, x, op1, nm1, a1, n1, d1, X1, q0, q1, q2, hT1⟩ := hS.at_ 0 (by have := hS.1; simp at this; omega)
  obtain rfl : x = f := by have := X1.get; simp at this; exact this.symm
  simp only [Nat.zero_mul, Nat.add_zero] at q0 q1 q2
  have hnl : (0 : Int) < (n : Int) := by have := hS.1; simp at this; omega
  have hn0 : 0 < n := by omega
  have Hnf := Aside.mk (fun W (hW : Below w.heap.size w W) => hnf (fun b => X b ∧ b < w.heap.size) op1 nm1 a1 n1 d1 W (hT1.old.keep hW))
  clear hS hT1 X1 hnf
  have hbl2 : b < w.heap.size + 1 := by omega
  go_enter Tryz.func267, Tryz.ntmps267
  go_wp2_with fail
  refine wp_region_mono 7 (by kernel_rfl) (by kernel_rfl) [trV (fun b => (X b ∧ b < w.heap.size) ∨ w.heap.size + 1 ≤ b) (Fm.mk 1 nil8 []), fun v _ => v = .slice (some ⟨b, o, none⟩) n c, fun v _ => v = .pointer (some ⟨b, o, none⟩), fun v _ => v = fv op1 nm1 a1 n1 d1, trV (fun b => (X b ∧ b < w.heap.size) ∨ w.heap.size + 1 ≤ b) (x.nf true), slV (fun b => (X b ∧ b < w.heap.size) ∨ w.heap.size + 1 ≤ b) 2 [(Fm.mk 1 nil8 []), (x.nf true)], trV (fun b => (X b ∧ b < w.heap.size) ∨ w.heap.size + 1 ≤ b) (Fm.mk 12 nil8 [(Fm.mk 1 nil8 []), (x.nf true)])] ⟨trV_stable _ _, stable_eq _, stable_eq _, stable_eq _, trV_stable _ _, slV_stable _ _ _, trV_stable _ _, trivial⟩ ?_ ?_
  · simp only [List.take_succ_cons, List.take_zero]
    refine steps_cons ?_ (steps_cons ?_ (steps_cons ?_ (steps_cons ?_ (steps_cons ?_ (steps_cons ?_ (steps_cons ?_ steps_nil))))))
    all_goals intro vals W hW hv; try simp only [Act.put, List.setIfInBounds_toArray, List.set_cons_zero, List.set_cons_succ]
    · go_wp2_with fail
      refine (of_c _ _ _ _ _).mono ?_
      rintro e w' ⟨rfl, hb⟩
      go_wp2_with fail
      exact ⟨rfl, _, rfl, hb, 1, nil8, _, _, _, rfl, .leaf _ _ _ _ (by omega) (by omega) (by decide) (by omega)⟩
    · go_wp2_with fail
      exact ⟨rfl, _, rfl, (by repeat (first | (with_reducible exact Below.refl _ _) | (with_reducible assumption) | refine below_alloc ?_ _ | refine Below.drew ?_ | refine below_drewN ?_ _)), rfl⟩
    · have e : vals 1 = .slice (some ⟨b, o, none⟩) n c := hv ⟨1, .data⟩ (by simp) rfl
      simp only [e]
      go_wp2_with fail
      exact ⟨rfl, _, rfl, (by repeat (first | (with_reducible exact Below.refl _ _) | (with_reducible assumption) | refine below_alloc ?_ _ | refine Below.drew ?_ | refine below_drewN ?_ _)), rfl⟩
    · have e : vals 2 = .pointer (some ⟨b, o, none⟩) := hv ⟨2, .data⟩ (by simp) rfl
      have c0 : W.cell? ⟨b, o, none⟩ = _ := cell_below hW ((Below.refl w.heap.size w |>.alloc (Nat.le_refl _) _).cell (by omega) |>.trans q0)
      have c1 : W.cell? ⟨b, o + 1, none⟩ = _ := cell_below hW ((Below.refl w.heap.size w |>.alloc (Nat.le_refl _) _).cell (by omega) |>.trans q1)
      have c2 : W.cell? ⟨b, o + 2, none⟩ = _ := cell_below hW ((Below.refl w.heap.size w |>.alloc (Nat.le_refl _) _).cell (by omega) |>.trans q2)
      simp only [e]
      go_wp2_with fail
      exact ⟨rfl, _, rfl, (by repeat (first | (with_reducible exact Below.refl _ _) | (with_reducible assumption) | refine below_alloc ?_ _ | refine Below.drew ?_ | refine below_drewN ?_ _)), rfl⟩
    · have e : vals 3 = fv op1 nm1 a1 n1 d1 := hv ⟨3, .data⟩ (by simp) rfl
      simp only [e]
      go_wp2_with fail
      refine (Hnf.out W (below_to (by repeat (first | (with_reducible exact Below.refl _ _) | (with_reducible assumption) | refine below_alloc ?_ _ | refine Below.drew ?_ | refine below_drewN ?_ _)) hW)).mono ?_
      rintro e w' ⟨o3, n3, a3, l3, d3, rfl, hT, hb⟩
      have HT := Aside.mk hT
      clear hT
      go_wp2_with fail
      exact ⟨rfl, _, rfl, hb, o3, n3, a3, l3, d3, rfl, HT.out.mono fun b hb _ => hb.elim .inl fun h => .inr (by have := hW.size; simp at this; omega)⟩
    · obtain ⟨o0_, n0_, a0_, l0_, d0_, e0, h0⟩ : trV (fun b => (X b ∧ b < w.heap.size) ∨ w.heap.size + 1 ≤ b) (Fm.mk 1 nil8 []) (vals 0) W := hv ⟨0, .data⟩ (by simp) rfl
      have H0 := Aside.mk h0
      clear h0
      obtain ⟨o1_, n1_, a1_, l1_, d1_, e1, h1⟩ : trV (fun b => (X b ∧ b < w.heap.size) ∨ w.heap.size + 1 ≤ b) (x.nf true) (vals 4) W := hv ⟨4, .data⟩ (by simp) rfl
      have H1 := Aside.mk h1
      clear h1
      simp only [e0, e1]
      clear hv
      go_wp2_with fail
      exact ⟨rfl, _, rfl, below_alloc (Below.refl _ _) _, W.heap.size, rfl, isS2 (.inr (by have := hW.size; simpa using this)) (by go_simp) (by go_simp) (by go_simp) (by go_simp) (by go_simp) (by go_simp) (H0.out.keep (below_alloc (Below.refl _ _) _)) (H1.out.keep (below_alloc (Below.refl _ _) _))⟩
    · obtain ⟨b3, e, h3⟩ : slV (fun b => (X b ∧ b < w.heap.size) ∨ w.heap.size + 1 ≤ b) 2 [(Fm.mk 1 nil8 []), (x.nf true)] (vals 5) W := hv ⟨5, .data⟩ (by simp) rfl
      have H3 := Aside.mk h3
      clear h3
      simp only [e]
      clear hv
      go_wp2_with fail
      refine (of_c _ _ _ _ _).mono ?_
      rintro e w' ⟨rfl, hb⟩
      go_wp2_with fail
      exact ⟨rfl, _, rfl, hb, 12, nil8, _, _, _, rfl, .of_parts (by omega) (by omega) (by decide) (H3.out.keep hb)⟩
  · intro vals W hW hv
    obtain ⟨o3, n3, a3, l3, d3, e, h3⟩ : trV (fun b => (X b ∧ b < w.heap.size) ∨ w.heap.size + 1 ≤ b) (Fm.mk 12 nil8 [(Fm.mk 1 nil8 []), (x.nf true)]) (vals 6) W := hv 6 (by omega)
    have HT := Aside.mk h3
    have r0 : W.cell? ⟨w.heap.size, 0, none⟩ = some (.int .u8 0) := cell_below hW (by go_simp)
    have r1 : W.cell? ⟨w.heap.size, 1, none⟩ = some (.string nil8) := cell_below hW (by go_simp)
    have r2 : W.cell? ⟨w.heap.size, 2, none⟩ = some (.slice none 0 0) := cell_below hW (by go_simp)
    have f0 : W.frozen? ⟨w.heap.size, 0, none⟩ = false := (hW.frozen (by simp)).trans (by go_simp)
    have f1 : W.frozen? ⟨w.heap.size, 1, none⟩ = false := (hW.frozen (by simp)).trans (by go_simp)
    have f2 : W.frozen? ⟨w.heap.size, 2, none⟩ = false := (hW.frozen (by simp)).trans (by go_simp)
    have HB : Aside (Below w.heap.size w W) := ⟨below_to (by repeat (first | (with_reducible exact Below.refl _ _) | (with_reducible assumption) | refine below_alloc ?_ _ | refine Below.drew ?_ | refine below_drewN ?_ _)) hW⟩
    clear hv h3
    simp only [List.take_succ_cons, List.take_zero, List.drop_succ_cons, List.drop_zero, lexL, Act.put, List.setIfInBounds_toArray, List.set_cons_zero, List.set_cons_succ, e]
    go_wp2_with fail
    refine bodyPost_ret (v := fv o3 n3 a3 l3 d3) (by simp [results, Tryz.results267, go_sem, r0, r1, r2]) rfl ?_
    exact RetX.at_ _ HT.out HB.out (by omega) (by omega) _ _ _

set_option maxRecDepth 100000 in
set_option maxHeartbeats 4000000 in
theorem normals1_c {X : Nat → Prop} (f : Fm) (hnf : NegC f) (a : Option Addr) (n c : Nat) (w : World) (hS : IsSX X w a n c [f]) :
    Calls Tryz.prog 270 #[.slice a n c] w (RetX X (f.nf true) w) := by
  obtain ⟨b, o, rfl, hbl, x, op1, nm1, a1, n1, d1, X1, q0, q1, q2, hT1⟩ := hS.at_ 0 (by have := hS.1; simp at this; omega)
  obtain rfl : x = f := by have := X1.get; simp at this; exact this.symm
  simp only [Nat.zero_mul, Nat.add_zero] at q0 q1 q2
  have hnl : (0 : Int) < (n : Int) := by have := hS.1; simp at this; omega
  have hn0 : 0 < n := by omega
  have Hnf := Aside.mk (fun W (hW : Below w.heap.size w W) => hnf (fun b => X b ∧ b < w.heap.size) op1 nm1 a1 n1 d1 W (hT1.old.keep hW))
  clear hS hT1 X1 hnf
  have hbl2 : b < w.heap.size + 1 := by omega
  go_enter Tryz.func270, Tryz.ntmps270
  go_wp2_with fail
  refine (Hnf.out _ (by repeat (first | (with_reducible exact Below.refl _ _) | (with_reducible assumption) | refine below_alloc ?_ _ | refine Below.drew ?_ | refine below_drewN ?_ _))).mono ?_
  rintro e v2 ⟨o3, n3, a3, l3, d3, rfl, hT, hb⟩
  have r0 : v2.cell? ⟨w.heap.size, 0, none⟩ = some (.int .u8 0) := cell_below hb (by go_simp)
  have r1 : v2.cell? ⟨w.heap.size, 1, none⟩ = some (.string nil8) := cell_below hb (by go_simp)
  have r2 : v2.cell? ⟨w.heap.size, 2, none⟩ = some (.slice none 0 0) := cell_below hb (by go_simp)
  have f0 : v2.frozen? ⟨w.heap.size, 0, none⟩ = false := (hb.frozen (by simp)).trans (by go_simp)
  have f1 : v2.frozen? ⟨w.heap.size, 1, none⟩ = false := (hb.frozen (by simp)).trans (by go_simp)
  have f2 : v2.frozen? ⟨w.heap.size, 2, none⟩ = false := (hb.frozen (by simp)).trans (by go_simp)
  have hz := hb.size
  have hsz : w.heap.size < v2.heap.size := by simp at hz; omega
  have HT := Aside.mk hT
  have HB' : Aside (Below w.heap.size w v2) := ⟨below_to (by repeat (first | (with_reducible exact Below.refl _ _) | (with_reducible assumption) | refine below_alloc ?_ _ | refine Below.drew ?_ | refine below_drewN ?_ _)) hb⟩
  clear hT hb hz
  go_wp2_with fail
  refine bodyPost_ret (v := fv o3 n3 a3 l3 d3) (by simp [results, Tryz.results270, go_sem, r0, r1, r2]) rfl ?_
  exact RetX.at_ _ HT.out HB'.out (by omega) (by simp) _ _ _

set_option maxRecDepth 100000 in
set_option maxHeartbeats 4000000 in
theorem normals3_c {X : Nat → Prop} (f : Fm) (hpf : PosC f) (a : Option Addr) (n c : Nat) (w : World) (hS : IsSX X w a n c [f]) :
    Calls Tryz.prog 272 #[.slice a n c] w (RetX X (Fm.mk 9 nil8 [(f.nf false)]) w) := by
  obtain ⟨b, o, rfl, hbl, x, op1, nm1, a1, n1, d1, X1, q0, q1, q2, hT1⟩ := hS.at_ 0 (by have := hS.1; simp at this; omega)
  obtain rfl : x = f := by have := X1.get; simp at this; exact this.symm
  simp only [Nat.zero_mul, Nat.add_zero] at q0 q1 q2
  have hnl : (0 : Int) < (n : Int) := by have := hS.1; simp at this; omega
  have hn0 : 0 < n := by omega
  have Hpf := Aside.mk (fun W (hW : Below w.heap.size w W) => hpf (fun b => X b ∧ b < w.heap.size) op1 nm1 a1 n1 d1 W (hT1.old.keep hW))
  clear hS hT1 X1 hpf
  have hbl2 : b < w.heap.size + 1 := by omega
  go_enter Tryz.func272, Tryz.ntmps272
  go_wp2_with fail
  refine (Hpf.out _ (by repeat (first | (with_reducible exact Below.refl _ _) | (with_reducible assumption) | refine below_alloc ?_ _ | refine Below.drew ?_ | refine below_drewN ?_ _))).mono ?_
  rintro e v2 ⟨o3, n3, a3, l3, d3, rfl, hT, hb⟩
  have r0 : v2.cell? ⟨w.heap.size, 0, none⟩ = some (.int .u8 0) := cell_below hb (by go_simp)
  have r1 : v2.cell? ⟨w.heap.size, 1, none⟩ = some (.string nil8) := cell_below hb (by go_simp)
  have r2 : v2.cell? ⟨w.heap.size, 2, none⟩ = some (.slice none 0 0) := cell_below hb (by go_simp)
  have f0 : v2.frozen? ⟨w.heap.size, 0, none⟩ = false := (hb.frozen (by simp)).trans (by go_simp)
  have f1 : v2.frozen? ⟨w.heap.size, 1, none⟩ = false := (hb.frozen (by simp)).trans (by go_simp)
  have f2 : v2.frozen? ⟨w.heap.size, 2, none⟩ = false := (hb.frozen (by simp)).trans (by go_simp)
  have hz := hb.size
  have hsz : w.heap.size < v2.heap.size := by simp at hz; omega
  have HT := Aside.mk hT
  have HB' : Aside (Below w.heap.size w v2) := ⟨below_to (by repeat (first | (with_reducible exact Below.refl _ _) | (with_reducible assumption) | refine below_alloc ?_ _ | refine Below.drew ?_ | refine below_drewN ?_ _)) hb⟩
  clear hT hb hz
  go_wp2_with fail
  refine (of_c _ _ _ _ _).mono ?_
  rintro e w3 ⟨rfl, hb3⟩
  have r0' : w3.cell? ⟨w.heap.size, 0, none⟩ = some (.int .u8 0) := cell_below hb3 (by go_simp)
  have r1' : w3.cell? ⟨w.heap.size, 1, none⟩ = some (.string nil8) := cell_below hb3 (by go_simp)
  have r2' : w3.cell? ⟨w.heap.size, 2, none⟩ = some (.slice none 0 0) := cell_below hb3 (by go_simp)
  have f0' : w3.frozen? ⟨w.heap.size, 0, none⟩ = false := (hb3.frozen (by simp; omega)).trans (by go_simp)
  have f1' : w3.frozen? ⟨w.heap.size, 1, none⟩ = false := (hb3.frozen (by simp; omega)).trans (by go_simp)
  have f2' : w3.frozen? ⟨w.heap.size, 2, none⟩ = false := (hb3.frozen (by simp; omega)).trans (by go_simp)
  have hT3 : IsTX (fun b => (X b ∧ b < w.heap.size) ∨ w.heap.size + 1 ≤ b) w3 9 nil8 (some ⟨v2.heap.size, 0, none⟩) 1 1 (Fm.mk 9 nil8 [(x.nf false)]) := .of_parts (by omega) (by omega) (by decide) (isS1 (.inr (by omega)) (cell_below hb3 (by go_simp)) (cell_below hb3 (by go_simp)) (cell_below hb3 (by go_simp)) ((HT.out.mono fun b hb _ => hb.elim .inl fun h => .inr (by simpa using h)).keep (below_to (below_alloc (Below.refl _ _) _) hb3)))
  have HT3 := Aside.mk hT3
  have HB3 : Aside (Below w.heap.size w w3) := ⟨below_to (below_alloc HB'.out _) hb3⟩
  clear hb3 hT3
  go_wp2_with fail
  refine bodyPost_ret (v := fv 9 nil8 (some ⟨v2.heap.size, 0, none⟩) 1 1) (by simp [results, Tryz.results272, go_sem, r0', r1', r2']) rfl ?_
  exact RetX.at_ _ HT3.out HB3.out (by omega) (by omega) _ _ _

set_option maxRecDepth 100000 in
set_option maxHeartbeats 4000000 in
theorem normals4_c {X : Nat → Prop} (f : Fm) (hpf : PosC f) (a : Option Addr) (n c : Nat) (w : World) (hS : IsSX X w a n c [f]) :
    Calls Tryz.prog 273 #[.slice a n c] w (RetX X (Fm.mk 12 nil8 [(Fm.mk 1 nil8 []), (f.nf false)]) w) := by
  obtain ⟨b, o, rfl, hbl, x, op1, nm1, a1, n1, d1, X1, q0, q1, q2, hT1⟩ := hS.at_ 0 (by have := hS.1; simp at this; omega)
  obtain rfl : x = f := by have := X1.get; simp at this; exact this.symm
  simp only [Nat.zero_mul, Nat.add_zero] at q0 q1 q2
  have hnl : (0 : Int) < (n : Int) := by have := hS.1; simp at this; omega
  have hn0 : 0 < n := by omega
  have Hpf := Aside.mk (fun W (hW : Below w.heap.size w W) => hpf (fun b => X b ∧ b < w.heap.size) op1 nm1 a1 n1 d1 W (hT1.old.keep hW))
  clear hS hT1 X1 hpf
  have hbl2 : b < w.heap.size + 1 := by omega
  go_enter Tryz.func273, Tryz.ntmps273
  go_wp2_with fail
  refine wp_region_mono 7 (by kernel_rfl) (by kernel_rfl) [trV (fun b => (X b ∧ b < w.heap.size) ∨ w.heap.size + 1 ≤ b) (Fm.mk 1 nil8 []), fun v _ => v = .slice (some ⟨b, o, none⟩) n c, fun v _ => v = .pointer (some ⟨b, o, none⟩), fun v _ => v = fv op1 nm1 a1 n1 d1, trV (fun b => (X b ∧ b < w.heap.size) ∨ w.heap.size + 1 ≤ b) (x.nf false), slV (fun b => (X b ∧ b < w.heap.size) ∨ w.heap.size + 1 ≤ b) 2 [(Fm.mk 1 nil8 []), (x.nf false)], trV (fun b => (X b ∧ b < w.heap.size) ∨ w.heap.size + 1 ≤ b) (Fm.mk 12 nil8 [(Fm.mk 1 nil8 []), (x.nf false)])] ⟨trV_stable _ _, stable_eq _, stable_eq _, stable_eq _, trV_stable _ _, slV_stable _ _ _, trV_stable _ _, trivial⟩ ?_ ?_
  · simp only [List.take_succ_cons, List.take_zero]
    refine steps_cons ?_ (steps_cons ?_ (steps_cons ?_ (steps_cons ?_ (steps_cons ?_ (steps_cons ?_ (steps_cons ?_ steps_nil))))))
    all_goals intro vals W hW hv; try simp only [Act.put, List.setIfInBounds_toArray, List.set_cons_zero, List.set_cons_succ]
    · go_wp2_with fail
      refine (of_c _ _ _ _ _).mono ?_
      rintro e w' ⟨rfl, hb⟩
      go_wp2_with fail
      exact ⟨rfl, _, rfl, hb, 1, nil8, _, _, _, rfl, .leaf _ _ _ _ (by omega) (by omega) (by decide) (by omega)⟩
    · go_wp2_with fail
      exact ⟨rfl, _, rfl, (by repeat (first | (with_reducible exact Below.refl _ _) | (with_reducible assumption) | refine below_alloc ?_ _ | refine Below.drew ?_ | refine below_drewN ?_ _)), rfl⟩
    · have e : vals 1 = .slice (some ⟨b, o, none⟩) n c := hv ⟨1, .data⟩ (by simp) rfl
      simp only [e]
      go_wp2_with fail
      exact ⟨rfl, _, rfl, (by repeat (first | (with_reducible exact Below.refl _ _) | (with_reducible assumption) | refine below_alloc ?_ _ | refine Below.drew ?_ | refine below_drewN ?_ _)), rfl⟩
    · have e : vals 2 = .pointer (some ⟨b, o, none⟩) := hv ⟨2, .data⟩ (by simp) rfl
      have c0 : W.cell? ⟨b, o, none⟩ = _ := cell_below hW ((Below.refl w.heap.size w |>.alloc (Nat.le_refl _) _).cell (by omega) |>.trans q0)
      have c1 : W.cell? ⟨b, o + 1, none⟩ = _ := cell_below hW ((Below.refl w.heap.size w |>.alloc (Nat.le_refl _) _).cell (by omega) |>.trans q1)
      have c2 : W.cell? ⟨b, o + 2, none⟩ = _ := cell_below hW ((Below.refl w.heap.size w |>.alloc (Nat.le_refl _) _).cell (by omega) |>.trans q2)
      simp only [e]
      go_wp2_with fail
      exact ⟨rfl, _, rfl, (by repeat (first | (with_reducible exact Below.refl _ _) | (with_reducible assumption) | refine below_alloc ?_ _ | refine Below.drew ?_ | refine below_drewN ?_ _)), rfl⟩
    · have e : vals 3 = fv op1 nm1 a1 n1 d1 := hv ⟨3, .data⟩ (by simp) rfl
      simp only [e]
      go_wp2_with fail
      refine (Hpf.out W (below_to (by repeat (first | (with_reducible exact Below.refl _ _) | (with_reducible assumption) | refine below_alloc ?_ _ | refine Below.drew ?_ | refine below_drewN ?_ _)) hW)).mono ?_
      rintro e w' ⟨o3, n3, a3, l3, d3, rfl, hT, hb⟩
      have HT := Aside.mk hT
      clear hT
      go_wp2_with fail
      exact ⟨rfl, _, rfl, hb, o3, n3, a3, l3, d3, rfl, HT.out.mono fun b hb _ => hb.elim .inl fun h => .inr (by have := hW.size; simp at this; omega)⟩
    · obtain ⟨o0_, n0_, a0_, l0_, d0_, e0, h0⟩ : trV (fun b => (X b ∧ b < w.heap.size) ∨ w.heap.size + 1 ≤ b) (Fm.mk 1 nil8 []) (vals 0) W := hv ⟨0, .data⟩ (by simp) rfl
      have H0 := Aside.mk h0
      clear h0
      obtain ⟨o1_, n1_, a1_, l1_, d1_, e1, h1⟩ : trV (fun b => (X b ∧ b < w.heap.size) ∨ w.heap.size + 1 ≤ b) (x.nf false) (vals 4) W := hv ⟨4, .data⟩ (by simp) rfl
      have H1 := Aside.mk h1
      clear h1
      simp only [e0, e1]
      clear hv
      go_wp2_with fail
      exact ⟨rfl, _, rfl, below_alloc (Below.refl _ _) _, W.heap.size, rfl, isS2 (.inr (by have := hW.size; simpa using this)) (by go_simp) (by go_simp) (by go_simp) (by go_simp) (by go_simp) (by go_simp) (H0.out.keep (below_alloc (Below.refl _ _) _)) (H1.out.keep (below_alloc (Below.refl _ _) _))⟩
    · obtain ⟨b3, e, h3⟩ : slV (fun b => (X b ∧ b < w.heap.size) ∨ w.heap.size + 1 ≤ b) 2 [(Fm.mk 1 nil8 []), (x.nf false)] (vals 5) W := hv ⟨5, .data⟩ (by simp) rfl
      have H3 := Aside.mk h3
      clear h3
      simp only [e]
      clear hv
      go_wp2_with fail
      refine (of_c _ _ _ _ _).mono ?_
      rintro e w' ⟨rfl, hb⟩
      go_wp2_with fail
      exact ⟨rfl, _, rfl, hb, 12, nil8, _, _, _, rfl, .of_parts (by omega) (by omega) (by decide) (H3.out.keep hb)⟩
  · intro vals W hW hv
    obtain ⟨o3, n3, a3, l3, d3, e, h3⟩ : trV (fun b => (X b ∧ b < w.heap.size) ∨ w.heap.size + 1 ≤ b) (Fm.mk 12 nil8 [(Fm.mk 1 nil8 []), (x.nf false)]) (vals 6) W := hv 6 (by omega)
    have HT := Aside.mk h3
    have r0 : W.cell? ⟨w.heap.size, 0, none⟩ = some (.int .u8 0) := cell_below hW (by go_simp)
    have r1 : W.cell? ⟨w.heap.size, 1, none⟩ = some (.string nil8) := cell_below hW (by go_simp)
    have r2 : W.cell? ⟨w.heap.size, 2, none⟩ = some (.slice none 0 0) := cell_below hW (by go_simp)
    have f0 : W.frozen? ⟨w.heap.size, 0, none⟩ = false := (hW.frozen (by simp)).trans (by go_simp)
    have f1 : W.frozen? ⟨w.heap.size, 1, none⟩ = false := (hW.frozen (by simp)).trans (by go_simp)
    have f2 : W.frozen? ⟨w.heap.size, 2, none⟩ = false := (hW.frozen (by simp)).trans (by go_simp)
    have HB : Aside (Below w.heap.size w W) := ⟨below_to (by repeat (first | (with_reducible exact Below.refl _ _) | (with_reducible assumption) | refine below_alloc ?_ _ | refine Below.drew ?_ | refine below_drewN ?_ _)) hW⟩
    clear hv h3
    simp only [List.take_succ_cons, List.take_zero, List.drop_succ_cons, List.drop_zero, lexL, Act.put, List.setIfInBounds_toArray, List.set_cons_zero, List.set_cons_succ, e]
    go_wp2_with fail
    refine bodyPost_ret (v := fv o3 n3 a3 l3 d3) (by simp [results, Tryz.results273, go_sem, r0, r1, r2]) rfl ?_
    exact RetX.at_ _ HT.out HB.out (by omega) (by omega) _ _ _

set_option maxRecDepth 100000 in
set_option maxHeartbeats 4000000 in
theorem normals5_c {X : Nat → Prop} (f : Fm) (hpf : PosC f) (a : Option Addr) (n c : Nat) (w : World) (hS : IsSX X w a n c [f]) :
    Calls Tryz.prog 274 #[.slice a n c] w (RetX X (Fm.mk 13 nil8 [(Fm.mk 2 nil8 []), (f.nf false)]) w) := by
  obtain ⟨b, o, rfl, hbl, x, op1, nm1, a1, n1, d1, X1, q0, q1, q2, hT1⟩ := hS.at_ 0 (by have := hS.1; simp at this; omega)
  obtain rfl : x = f := by have := X1.get; simp at this; exact this.symm
  simp only [Nat.zero_mul, Nat.add_zero] at q0 q1 q2
  have hnl : (0 : Int) < (n : Int) := by have := hS.1; simp at this; omega
  have hn0 : 0 < n := by omega
  have Hpf := Aside.mk (fun W (hW : Below w.heap.size w W) => hpf (fun b => X b ∧ b < w.heap.size) op1 nm1 a1 n1 d1 W (hT1.old.keep hW))
  clear hS hT1 X1 hpf
  have hbl2 : b < w.heap.size + 1 := by omega
  go_enter Tryz.func274, Tryz.ntmps274
  go_wp2_with fail
  refine wp_region_mono 7 (by kernel_rfl) (by kernel_rfl) [trV (fun b => (X b ∧ b < w.heap.size) ∨ w.heap.size + 1 ≤ b) (Fm.mk 2 nil8 []), fun v _ => v = .slice (some ⟨b, o, none⟩) n c, fun v _ => v = .pointer (some ⟨b, o, none⟩), fun v _ => v = fv op1 nm1 a1 n1 d1, trV (fun b => (X b ∧ b < w.heap.size) ∨ w.heap.size + 1 ≤ b) (x.nf false), slV (fun b => (X b ∧ b < w.heap.size) ∨ w.heap.size + 1 ≤ b) 2 [(Fm.mk 2 nil8 []), (x.nf false)], trV (fun b => (X b ∧ b < w.heap.size) ∨ w.heap.size + 1 ≤ b) (Fm.mk 13 nil8 [(Fm.mk 2 nil8 []), (x.nf false)])] ⟨trV_stable _ _, stable_eq _, stable_eq _, stable_eq _, trV_stable _ _, slV_stable _ _ _, trV_stable _ _, trivial⟩ ?_ ?_
  · simp only [List.take_succ_cons, List.take_zero]
    refine steps_cons ?_ (steps_cons ?_ (steps_cons ?_ (steps_cons ?_ (steps_cons ?_ (steps_cons ?_ (steps_cons ?_ steps_nil))))))
    all_goals intro vals W hW hv; try simp only [Act.put, List.setIfInBounds_toArray, List.set_cons_zero, List.set_cons_succ]
    · go_wp2_with fail
      refine (of_c _ _ _ _ _).mono ?_
      rintro e w' ⟨rfl, hb⟩
      go_wp2_with fail
      exact ⟨rfl, _, rfl, hb, 2, nil8, _, _, _, rfl, .leaf _ _ _ _ (by omega) (by omega) (by decide) (by omega)⟩
    · go_wp2_with fail
      exact ⟨rfl, _, rfl, (by repeat (first | (with_reducible exact Below.refl _ _) | (with_reducible assumption) | refine below_alloc ?_ _ | refine Below.drew ?_ | refine below_drewN ?_ _)), rfl⟩
    · have e : vals 1 = .slice (some ⟨b, o, none⟩) n c := hv ⟨1, .data⟩ (by simp) rfl
      simp only [e]
      go_wp2_with fail
      exact ⟨rfl, _, rfl, (by repeat (first | (with_reducible exact Below.refl _ _) | (with_reducible assumption) | refine below_alloc ?_ _ | refine Below.drew ?_ | refine below_drewN ?_ _)), rfl⟩
    · have e : vals 2 = .pointer (some ⟨b, o, none⟩) := hv ⟨2, .data⟩ (by simp) rfl
      have c0 : W.cell? ⟨b, o, none⟩ = _ := cell_below hW ((Below.refl w.heap.size w |>.alloc (Nat.le_refl _) _).cell (by omega) |>.trans q0)
      have c1 : W.cell? ⟨b, o + 1, none⟩ = _ := cell_below hW ((Below.refl w.heap.size w |>.alloc (Nat.le_refl _) _).cell (by omega) |>.trans q1)
      have c2 : W.cell? ⟨b, o + 2, none⟩ = _ := cell_below hW ((Below.refl w.heap.size w |>.alloc (Nat.le_refl _) _).cell (by omega) |>.trans q2)
      simp only [e]
      go_wp2_with fail
      exact ⟨rfl, _, rfl, (by repeat (first | (with_reducible exact Below.refl _ _) | (with_reducible assumption) | refine below_alloc ?_ _ | refine Below.drew ?_ | refine below_drewN ?_ _)), rfl⟩
    · have e : vals 3 = fv op1 nm1 a1 n1 d1 := hv ⟨3, .data⟩ (by simp) rfl
      simp only [e]
      go_wp2_with fail
      refine (Hpf.out W (below_to (by repeat (first | (with_reducible exact Below.refl _ _) | (with_reducible assumption) | refine below_alloc ?_ _ | refine Below.drew ?_ | refine below_drewN ?_ _)) hW)).mono ?_
      rintro e w' ⟨o3, n3, a3, l3, d3, rfl, hT, hb⟩
      have HT := Aside.mk hT
      clear hT
      go_wp2_with fail
      exact ⟨rfl, _, rfl, hb, o3, n3, a3, l3, d3, rfl, HT.out.mono fun b hb _ => hb.elim .inl fun h => .inr (by have := hW.size; simp at this; omega)⟩
    · obtain ⟨o0_, n0_, a0_, l0_, d0_, e0, h0⟩ : trV (fun b => (X b ∧ b < w.heap.size) ∨ w.heap.size + 1 ≤ b) (Fm.mk 2 nil8 []) (vals 0) W := hv ⟨0, .data⟩ (by simp) rfl
      have H0 := Aside.mk h0
      clear h0
      obtain ⟨o1_, n1_, a1_, l1_, d1_, e1, h1⟩ : trV (fun b => (X b ∧ b < w.heap.size) ∨ w.heap.size + 1 ≤ b) (x.nf false) (vals 4) W := hv ⟨4, .data⟩ (by simp) rfl
      have H1 := Aside.mk h1
      clear h1
      simp only [e0, e1]
      clear hv
      go_wp2_with fail
      exact ⟨rfl, _, rfl, below_alloc (Below.refl _ _) _, W.heap.size, rfl, isS2 (.inr (by have := hW.size; simpa using this)) (by go_simp) (by go_simp) (by go_simp) (by go_simp) (by go_simp) (by go_simp) (H0.out.keep (below_alloc (Below.refl _ _) _)) (H1.out.keep (below_alloc (Below.refl _ _) _))⟩
    · obtain ⟨b3, e, h3⟩ : slV (fun b => (X b ∧ b < w.heap.size) ∨ w.heap.size + 1 ≤ b) 2 [(Fm.mk 2 nil8 []), (x.nf false)] (vals 5) W := hv ⟨5, .data⟩ (by simp) rfl
      have H3 := Aside.mk h3
      clear h3
      simp only [e]
      clear hv
      go_wp2_with fail
      refine (of_c _ _ _ _ _).mono ?_
      rintro e w' ⟨rfl, hb⟩
      go_wp2_with fail
      exact ⟨rfl, _, rfl, hb, 13, nil8, _, _, _, rfl, .of_parts (by omega) (by omega) (by decide) (H3.out.keep hb)⟩
  · intro vals W hW hv
    obtain ⟨o3, n3, a3, l3, d3, e, h3⟩ : trV (fun b => (X b ∧ b < w.heap.size) ∨ w.heap.size + 1 ≤ b) (Fm.mk 13 nil8 [(Fm.mk 2 nil8 []), (x.nf false)]) (vals 6) W := hv 6 (by omega)
    have HT := Aside.mk h3
    have r0 : W.cell? ⟨w.heap.size, 0, none⟩ = some (.int .u8 0) := cell_below hW (by go_simp)
    have r1 : W.cell? ⟨w.heap.size, 1, none⟩ = some (.string nil8) := cell_below hW (by go_simp)
    have r2 : W.cell? ⟨w.heap.size, 2, none⟩ = some (.slice none 0 0) := cell_below hW (by go_simp)
    have f0 : W.frozen? ⟨w.heap.size, 0, none⟩ = false := (hW.frozen (by simp)).trans (by go_simp)
    have f1 : W.frozen? ⟨w.heap.size, 1, none⟩ = false := (hW.frozen (by simp)).trans (by go_simp)
    have f2 : W.frozen? ⟨w.heap.size, 2, none⟩ = false := (hW.frozen (by simp)).trans (by go_simp)
    have HB : Aside (Below w.heap.size w W) := ⟨below_to (by repeat (first | (with_reducible exact Below.refl _ _) | (with_reducible assumption) | refine below_alloc ?_ _ | refine Below.drew ?_ | refine below_drewN ?_ _)) hW⟩
    clear hv h3
    simp only [List.take_succ_cons, List.take_zero, List.drop_succ_cons, List.drop_zero, lexL, Act.put, List.setIfInBounds_toArray, List.set_cons_zero, List.set_cons_succ, e]
    go_wp2_with fail
    refine bodyPost_ret (v := fv o3 n3 a3 l3 d3) (by simp [results, Tryz.results274, go_sem, r0, r1, r2]) rfl ?_
    exact RetX.at_ _ HT.out HB.out (by omega) (by omega) _ _ _

set_option maxRecDepth 100000 in
set_option maxHeartbeats 4000000 in
theorem duals1_c {X : Nat → Prop} (f : Fm) (hpf : PosC f) (a : Option Addr) (n c : Nat) (w : World) (hS : IsSX X w a n c [f]) :
    Calls Tryz.prog 260 #[.slice a n c] w (RetX X (f.nf false) w) := by
  obtain ⟨b, o, rfl, hbl, x, op1, nm1, a1, n1, d1, X1, q0, q1, q2, hT1⟩ := hS.at_ 0 (by have := hS.1; simp at this; omega)
  obtain rfl : x = f := by have := X1.get; simp at this; exact this.symm
  simp only [Nat.zero_mul, Nat.add_zero] at q0 q1 q2
  have hnl : (0 : Int) < (n : Int) := by have := hS.1; simp at this; omega
  have hn0 : 0 < n := by omega
  have Hpf := Aside.mk (fun W (hW : Below w.heap.size w W) => hpf (fun b => X b ∧ b < w.heap.size) op1 nm1 a1 n1 d1 W (hT1.old.keep hW))
  clear hS hT1 X1 hpf
  have hbl2 : b < w.heap.size + 1 := by omega
  go_enter Tryz.func260, Tryz.ntmps260
  go_wp2_with fail
  refine (Hpf.out _ (by repeat (first | (with_reducible exact Below.refl _ _) | (with_reducible assumption) | refine below_alloc ?_ _ | refine Below.drew ?_ | refine below_drewN ?_ _))).mono ?_
  rintro e v2 ⟨o3, n3, a3, l3, d3, rfl, hT, hb⟩
  have r0 : v2.cell? ⟨w.heap.size, 0, none⟩ = some (.int .u8 0) := cell_below hb (by go_simp)
  have r1 : v2.cell? ⟨w.heap.size, 1, none⟩ = some (.string nil8) := cell_below hb (by go_simp)
  have r2 : v2.cell? ⟨w.heap.size, 2, none⟩ = some (.slice none 0 0) := cell_below hb (by go_simp)
  have f0 : v2.frozen? ⟨w.heap.size, 0, none⟩ = false := (hb.frozen (by simp)).trans (by go_simp)
  have f1 : v2.frozen? ⟨w.heap.size, 1, none⟩ = false := (hb.frozen (by simp)).trans (by go_simp)
  have f2 : v2.frozen? ⟨w.heap.size, 2, none⟩ = false := (hb.frozen (by simp)).trans (by go_simp)
  have hz := hb.size
  have hsz : w.heap.size < v2.heap.size := by simp at hz; omega
  have HT := Aside.mk hT
  have HB' : Aside (Below w.heap.size w v2) := ⟨below_to (by repeat (first | (with_reducible exact Below.refl _ _) | (with_reducible assumption) | refine below_alloc ?_ _ | refine Below.drew ?_ | refine below_drewN ?_ _)) hb⟩
  clear hT hb hz
  go_wp2_with fail
  refine bodyPost_ret (v := fv o3 n3 a3 l3 d3) (by simp [results, Tryz.results260, go_sem, r0, r1, r2]) rfl ?_
  exact RetX.at_ _ HT.out HB'.out (by omega) (by simp) _ _ _

end Go.Proofs.YtmmakkaolknbaaaGreatDoor
