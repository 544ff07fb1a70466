/- Contracts of nnf's makers, printed by gen_form.py. -/
import Derived.Test.YtmmakkaolknbaaaGreatDoorFormN
namespace Go.Proofs.YtmmakkaolknbaaaGreatDoor
set_option linter.unusedVariables false
set_option linter.unusedSimpArgs false
open Go.RowKit Go.Shelf

set_option maxRecDepth 100000 in
set_option maxHeartbeats 4000000 in
theorem normals2_c {X : Nat → Prop} (f g : Fm) (hnf : NegC f) (hng : NegC g) (hpf : PosC f) (hpg : PosC g) (a : Option Addr) (n c : Nat) (w : World) (hS : IsSX X w a n c [f, g]) :
    Calls Tryz.prog 271 #[.slice a n c] w (RetX X (Fm.mk 6 nil8 [(Fm.mk 5 nil8 [(f.nf false), (g.nf false)]), (Fm.mk 5 nil8 [(f.nf true), (g.nf true)])]) w) := by
  obtain ⟨b, o, rfl, hbl, x, op1, nm1, a1, n1, d1, X1, q0, q1, q2, hT1⟩ := hS.at_ 0 (by have := hS.1; simp at this; omega)
  obtain rfl : x = f := by have := X1.get; simp at this; exact this.symm
  obtain ⟨b', o', e', hbl', y, op2, nm2, a2, n2, d2, X2, p0, p1, p2, hT2⟩ := hS.at_ 1 (by have := hS.1; simp at this; omega)
  obtain rfl : y = g := by have := X2.get; simp at this; exact this.symm
  obtain ⟨rfl, rfl⟩ : b' = b ∧ o' = o := by cases e'; exact ⟨rfl, rfl⟩
  simp only [Nat.zero_mul, Nat.add_zero, Nat.one_mul] at q0 q1 q2 p0 p1 p2
  have hnl : (0 : Int) < (n : Int) := by have := hS.1; simp at this; omega
  have hn0 : 0 < n := by omega
  have hnl1 : (1 : Int) < (n : Int) := by have := hS.1; simp at this; omega
  have hn1 : 1 < n := by omega
  have Hnf := Aside.mk (fun W (hW : Below w.heap.size w W) => hnf (fun b => X b ∧ b < w.heap.size) op1 nm1 a1 n1 d1 W (hT1.old.keep hW))
  have Hng := Aside.mk (fun W (hW : Below w.heap.size w W) => hng (fun b => X b ∧ b < w.heap.size) op2 nm2 a2 n2 d2 W (hT2.old.keep hW))
  have Hpf := Aside.mk (fun W (hW : Below w.heap.size w W) => hpf (fun b => X b ∧ b < w.heap.size) op1 nm1 a1 n1 d1 W (hT1.old.keep hW))
  have Hpg := Aside.mk (fun W (hW : Below w.heap.size w W) => hpg (fun b => X b ∧ b < w.heap.size) op2 nm2 a2 n2 d2 W (hT2.old.keep hW))
  clear hS hT1 X1 hT2 X2 hnf hng hpf hpg
  have hbl2 : b' < w.heap.size + 1 := by omega
  go_enter Tryz.func271, Tryz.ntmps271
  go_wp2_with fail
  refine wp_region_mono 22 (by kernel_rfl) (by kernel_rfl) [fun v _ => v = .slice (some ⟨b', o', none⟩) n c, fun v _ => v = .pointer (some ⟨b', o', none⟩), fun v _ => v = fv op1 nm1 a1 n1 d1, trV (fun b => (X b ∧ b < w.heap.size) ∨ w.heap.size + 1 ≤ b) (x.nf false), fun v _ => v = .slice (some ⟨b', o', none⟩) n c, fun v _ => v = .pointer (some ⟨b', o' + 3, none⟩), fun v _ => v = fv op2 nm2 a2 n2 d2, trV (fun b => (X b ∧ b < w.heap.size) ∨ w.heap.size + 1 ≤ b) (y.nf false), slV (fun b => (X b ∧ b < w.heap.size) ∨ w.heap.size + 1 ≤ b) 2 [(x.nf false), (y.nf false)], trV (fun b => (X b ∧ b < w.heap.size) ∨ w.heap.size + 1 ≤ b) (Fm.mk 5 nil8 [(x.nf false), (y.nf false)]), fun v _ => v = .slice (some ⟨b', o', none⟩) n c, fun v _ => v = .pointer (some ⟨b', o', none⟩), fun v _ => v = fv op1 nm1 a1 n1 d1, trV (fun b => (X b ∧ b < w.heap.size) ∨ w.heap.size + 1 ≤ b) (x.nf true), fun v _ => v = .slice (some ⟨b', o', none⟩) n c, fun v _ => v = .pointer (some ⟨b', o' + 3, none⟩), fun v _ => v = fv op2 nm2 a2 n2 d2, trV (fun b => (X b ∧ b < w.heap.size) ∨ w.heap.size + 1 ≤ b) (y.nf true), slV (fun b => (X b ∧ b < w.heap.size) ∨ w.heap.size + 1 ≤ b) 2 [(x.nf true), (y.nf true)], trV (fun b => (X b ∧ b < w.heap.size) ∨ w.heap.size + 1 ≤ b) (Fm.mk 5 nil8 [(x.nf true), (y.nf true)]), slV (fun b => (X b ∧ b < w.heap.size) ∨ w.heap.size + 1 ≤ b) 2 [(Fm.mk 5 nil8 [(x.nf false), (y.nf false)]), (Fm.mk 5 nil8 [(x.nf true), (y.nf true)])], trV (fun b => (X b ∧ b < w.heap.size) ∨ w.heap.size + 1 ≤ b) (Fm.mk 6 nil8 [(Fm.mk 5 nil8 [(x.nf false), (y.nf false)]), (Fm.mk 5 nil8 [(x.nf true), (y.nf true)])])] ⟨stable_eq _, stable_eq _, stable_eq _, trV_stable _ _, stable_eq _, stable_eq _, stable_eq _, trV_stable _ _, slV_stable _ _ _, trV_stable _ _, stable_eq _, stable_eq _, stable_eq _, trV_stable _ _, stable_eq _, stable_eq _, stable_eq _, trV_stable _ _, slV_stable _ _ _, trV_stable _ _, slV_stable _ _ _, trV_stable _ _, trivial⟩ ?_ ?_
  · simp only [List.take_succ_cons, List.take_zero]
    refine steps_cons ?_ (steps_cons ?_ (steps_cons ?_ (steps_cons ?_ (steps_cons ?_ (steps_cons ?_ (steps_cons ?_ (steps_cons ?_ (steps_cons ?_ (steps_cons ?_ (steps_cons ?_ (steps_cons ?_ (steps_cons ?_ (steps_cons ?_ (steps_cons ?_ (steps_cons ?_ (steps_cons ?_ (steps_cons ?_ (steps_cons ?_ (steps_cons ?_ (steps_cons ?_ (steps_cons ?_ steps_nil)))))))))))))))))))))
    all_goals intro vals W hW hv; try simp only [Act.put, List.setIfInBounds_toArray, List.set_cons_zero, List.set_cons_succ]
    · go_wp2_with fail
      exact ⟨rfl, _, rfl, (by repeat (first | (with_reducible exact Below.refl _ _) | (with_reducible assumption) | refine below_alloc ?_ _ | refine Below.drew ?_ | refine below_drewN ?_ _)), rfl⟩
    · have e : vals 0 = .slice (some ⟨b', o', none⟩) n c := hv ⟨0, .data⟩ (by simp) rfl
      simp only [e]
      go_wp2_with fail
      exact ⟨rfl, _, rfl, (by repeat (first | (with_reducible exact Below.refl _ _) | (with_reducible assumption) | refine below_alloc ?_ _ | refine Below.drew ?_ | refine below_drewN ?_ _)), rfl⟩
    · have e : vals 1 = .pointer (some ⟨b', o', none⟩) := hv ⟨1, .data⟩ (by simp) rfl
      have c0 : W.cell? ⟨b', o', none⟩ = _ := cell_below hW ((Below.refl w.heap.size w |>.alloc (Nat.le_refl _) _).cell (by omega) |>.trans q0)
      have c1 : W.cell? ⟨b', o' + 1, none⟩ = _ := cell_below hW ((Below.refl w.heap.size w |>.alloc (Nat.le_refl _) _).cell (by omega) |>.trans q1)
      have c2 : W.cell? ⟨b', o' + 2, none⟩ = _ := cell_below hW ((Below.refl w.heap.size w |>.alloc (Nat.le_refl _) _).cell (by omega) |>.trans q2)
      simp only [e]
      go_wp2_with fail
      exact ⟨rfl, _, rfl, (by repeat (first | (with_reducible exact Below.refl _ _) | (with_reducible assumption) | refine below_alloc ?_ _ | refine Below.drew ?_ | refine below_drewN ?_ _)), rfl⟩
    · have e : vals 2 = fv op1 nm1 a1 n1 d1 := hv ⟨2, .data⟩ (by simp) rfl
      simp only [e]
      go_wp2_with fail
      refine (Hpf.out W (below_to (by repeat (first | (with_reducible exact Below.refl _ _) | (with_reducible assumption) | refine below_alloc ?_ _ | refine Below.drew ?_ | refine below_drewN ?_ _)) hW)).mono ?_
      rintro e w' ⟨o3, n3, a3, l3, d3, rfl, hT, hb⟩
      have HT := Aside.mk hT
      clear hT
      go_wp2_with fail
      exact ⟨rfl, _, rfl, hb, o3, n3, a3, l3, d3, rfl, HT.out.mono fun b hb _ => hb.elim .inl fun h => .inr (by have := hW.size; simp at this; omega)⟩
    · go_wp2_with fail
      exact ⟨rfl, _, rfl, (by repeat (first | (with_reducible exact Below.refl _ _) | (with_reducible assumption) | refine below_alloc ?_ _ | refine Below.drew ?_ | refine below_drewN ?_ _)), rfl⟩
    · have e : vals 4 = .slice (some ⟨b', o', none⟩) n c := hv ⟨4, .data⟩ (by simp) rfl
      simp only [e]
      go_wp2_with fail
      exact ⟨rfl, _, rfl, (by repeat (first | (with_reducible exact Below.refl _ _) | (with_reducible assumption) | refine below_alloc ?_ _ | refine Below.drew ?_ | refine below_drewN ?_ _)), rfl⟩
    · have e : vals 5 = .pointer (some ⟨b', o' + 3, none⟩) := hv ⟨5, .data⟩ (by simp) rfl
      have c0 : W.cell? ⟨b', o' + 3, none⟩ = _ := cell_below hW ((Below.refl w.heap.size w |>.alloc (Nat.le_refl _) _).cell (by omega) |>.trans p0)
      have c1 : W.cell? ⟨b', o' + 3 + 1, none⟩ = _ := cell_below hW ((Below.refl w.heap.size w |>.alloc (Nat.le_refl _) _).cell (by omega) |>.trans p1)
      have c2 : W.cell? ⟨b', o' + 3 + 2, none⟩ = _ := cell_below hW ((Below.refl w.heap.size w |>.alloc (Nat.le_refl _) _).cell (by omega) |>.trans p2)
      simp only [e]
      go_wp2_with fail
      exact ⟨rfl, _, rfl, (by repeat (first | (with_reducible exact Below.refl _ _) | (with_reducible assumption) | refine below_alloc ?_ _ | refine Below.drew ?_ | refine below_drewN ?_ _)), rfl⟩
    · have e : vals 6 = fv op2 nm2 a2 n2 d2 := hv ⟨6, .data⟩ (by simp) rfl
      simp only [e]
      go_wp2_with fail
      refine (Hpg.out W (below_to (by repeat (first | (with_reducible exact Below.refl _ _) | (with_reducible assumption) | refine below_alloc ?_ _ | refine Below.drew ?_ | refine below_drewN ?_ _)) hW)).mono ?_
      rintro e w' ⟨o3, n3, a3, l3, d3, rfl, hT, hb⟩
      have HT := Aside.mk hT
      clear hT
      go_wp2_with fail
      exact ⟨rfl, _, rfl, hb, o3, n3, a3, l3, d3, rfl, HT.out.mono fun b hb _ => hb.elim .inl fun h => .inr (by have := hW.size; simp at this; omega)⟩
    · obtain ⟨o0_, n0_, a0_, l0_, d0_, e0, h0⟩ : trV (fun b => (X b ∧ b < w.heap.size) ∨ w.heap.size + 1 ≤ b) (x.nf false) (vals 3) W := hv ⟨3, .data⟩ (by simp) rfl
      have H0 := Aside.mk h0
      clear h0
      obtain ⟨o1_, n1_, a1_, l1_, d1_, e1, h1⟩ : trV (fun b => (X b ∧ b < w.heap.size) ∨ w.heap.size + 1 ≤ b) (y.nf false) (vals 7) W := hv ⟨7, .data⟩ (by simp) rfl
      have H1 := Aside.mk h1
      clear h1
      simp only [e0, e1]
      clear hv
      go_wp2_with fail
      exact ⟨rfl, _, rfl, below_alloc (Below.refl _ _) _, W.heap.size, rfl, isS2 (.inr (by have := hW.size; simpa using this)) (by go_simp) (by go_simp) (by go_simp) (by go_simp) (by go_simp) (by go_simp) (H0.out.keep (below_alloc (Below.refl _ _) _)) (H1.out.keep (below_alloc (Below.refl _ _) _))⟩
    · obtain ⟨b3, e, h3⟩ : slV (fun b => (X b ∧ b < w.heap.size) ∨ w.heap.size + 1 ≤ b) 2 [(x.nf false), (y.nf false)] (vals 8) W := hv ⟨8, .data⟩ (by simp) rfl
      have H3 := Aside.mk h3
      clear h3
      simp only [e]
      clear hv
      go_wp2_with fail
      refine (of_c _ _ _ _ _).mono ?_
      rintro e w' ⟨rfl, hb⟩
      go_wp2_with fail
      exact ⟨rfl, _, rfl, hb, 5, nil8, _, _, _, rfl, .of_parts (by omega) (by omega) (by decide) (H3.out.keep hb)⟩
    · go_wp2_with fail
      exact ⟨rfl, _, rfl, (by repeat (first | (with_reducible exact Below.refl _ _) | (with_reducible assumption) | refine below_alloc ?_ _ | refine Below.drew ?_ | refine below_drewN ?_ _)), rfl⟩
    · have e : vals 10 = .slice (some ⟨b', o', none⟩) n c := hv ⟨10, .data⟩ (by simp) rfl
      simp only [e]
      go_wp2_with fail
      exact ⟨rfl, _, rfl, (by repeat (first | (with_reducible exact Below.refl _ _) | (with_reducible assumption) | refine below_alloc ?_ _ | refine Below.drew ?_ | refine below_drewN ?_ _)), rfl⟩
    · have e : vals 11 = .pointer (some ⟨b', o', none⟩) := hv ⟨11, .data⟩ (by simp) rfl
      have c0 : W.cell? ⟨b', o', none⟩ = _ := cell_below hW ((Below.refl w.heap.size w |>.alloc (Nat.le_refl _) _).cell (by omega) |>.trans q0)
      have c1 : W.cell? ⟨b', o' + 1, none⟩ = _ := cell_below hW ((Below.refl w.heap.size w |>.alloc (Nat.le_refl _) _).cell (by omega) |>.trans q1)
      have c2 : W.cell? ⟨b', o' + 2, none⟩ = _ := cell_below hW ((Below.refl w.heap.size w |>.alloc (Nat.le_refl _) _).cell (by omega) |>.trans q2)
      simp only [e]
      go_wp2_with fail
      exact ⟨rfl, _, rfl, (by repeat (first | (with_reducible exact Below.refl _ _) | (with_reducible assumption) | refine below_alloc ?_ _ | refine Below.drew ?_ | refine below_drewN ?_ _)), rfl⟩
    · have e : vals 12 = fv op1 nm1 a1 n1 d1 := hv ⟨12, .data⟩ (by simp) rfl
      simp only [e]
      go_wp2_with fail
      refine (Hnf.out W (below_to (by repeat (first | (with_reducible exact Below.refl _ _) | (with_reducible assumption) | refine below_alloc ?_ _ | refine Below.drew ?_ | refine below_drewN ?_ _)) hW)).mono ?_
      rintro e w' ⟨o3, n3, a3, l3, d3, rfl, hT, hb⟩
      have HT := Aside.mk hT
      clear hT
      go_wp2_with fail
      exact ⟨rfl, _, rfl, hb, o3, n3, a3, l3, d3, rfl, HT.out.mono fun b hb _ => hb.elim .inl fun h => .inr (by have := hW.size; simp at this; omega)⟩
    · go_wp2_with fail
      exact ⟨rfl, _, rfl, (by repeat (first | (with_reducible exact Below.refl _ _) | (with_reducible assumption) | refine below_alloc ?_ _ | refine Below.drew ?_ | refine below_drewN ?_ _)), rfl⟩
    · have e : vals 14 = .slice (some ⟨b', o', none⟩) n c := hv ⟨14, .data⟩ (by simp) rfl
      simp only [e]
      go_wp2_with fail
      exact ⟨rfl, _, rfl, (by repeat (first | (with_reducible exact Below.refl _ _) | (with_reducible assumption) | refine below_alloc ?_ _ | refine Below.drew ?_ | refine below_drewN ?_ _)), rfl⟩
    · have e : vals 15 = .pointer (some ⟨b', o' + 3, none⟩) := hv ⟨15, .data⟩ (by simp) rfl
      have c0 : W.cell? ⟨b', o' + 3, none⟩ = _ := cell_below hW ((Below.refl w.heap.size w |>.alloc (Nat.le_refl _) _).cell (by omega) |>.trans p0)
      have c1 : W.cell? ⟨b', o' + 3 + 1, none⟩ = _ := cell_below hW ((Below.refl w.heap.size w |>.alloc (Nat.le_refl _) _).cell (by omega) |>.trans p1)
      have c2 : W.cell? ⟨b', o' + 3 + 2, none⟩ = _ := cell_below hW ((Below.refl w.heap.size w |>.alloc (Nat.le_refl _) _).cell (by omega) |>.trans p2)
      simp only [e]
      go_wp2_with fail
      exact ⟨rfl, _, rfl, (by repeat (first | (with_reducible exact Below.refl _ _) | (with_reducible assumption) | refine below_alloc ?_ _ | refine Below.drew ?_ | refine below_drewN ?_ _)), rfl⟩
    · have e : vals 16 = fv op2 nm2 a2 n2 d2 := hv ⟨16, .data⟩ (by simp) rfl
      simp only [e]
      go_wp2_with fail
      refine (Hng.out W (below_to (by repeat (first | (with_reducible exact Below.refl _ _) | (with_reducible assumption) | refine below_alloc ?_ _ | refine Below.drew ?_ | refine below_drewN ?_ _)) hW)).mono ?_
      rintro e w' ⟨o3, n3, a3, l3, d3, rfl, hT, hb⟩
      have HT := Aside.mk hT
      clear hT
      go_wp2_with fail
      exact ⟨rfl, _, rfl, hb, o3, n3, a3, l3, d3, rfl, HT.out.mono fun b hb _ => hb.elim .inl fun h => .inr (by have := hW.size; simp at this; omega)⟩
    · obtain ⟨o0_, n0_, a0_, l0_, d0_, e0, h0⟩ : trV (fun b => (X b ∧ b < w.heap.size) ∨ w.heap.size + 1 ≤ b) (x.nf true) (vals 13) W := hv ⟨13, .data⟩ (by simp) rfl
      have H0 := Aside.mk h0
      clear h0
      obtain ⟨o1_, n1_, a1_, l1_, d1_, e1, h1⟩ : trV (fun b => (X b ∧ b < w.heap.size) ∨ w.heap.size + 1 ≤ b) (y.nf true) (vals 17) W := hv ⟨17, .data⟩ (by simp) rfl
      have H1 := Aside.mk h1
      clear h1
      simp only [e0, e1]
      clear hv
      go_wp2_with fail
      exact ⟨rfl, _, rfl, below_alloc (Below.refl _ _) _, W.heap.size, rfl, isS2 (.inr (by have := hW.size; simpa using this)) (by go_simp) (by go_simp) (by go_simp) (by go_simp) (by go_simp) (by go_simp) (H0.out.keep (below_alloc (Below.refl _ _) _)) (H1.out.keep (below_alloc (Below.refl _ _) _))⟩
    · obtain ⟨b3, e, h3⟩ : slV (fun b => (X b ∧ b < w.heap.size) ∨ w.heap.size + 1 ≤ b) 2 [(x.nf true), (y.nf true)] (vals 18) W := hv ⟨18, .data⟩ (by simp) rfl
      have H3 := Aside.mk h3
      clear h3
      simp only [e]
      clear hv
      go_wp2_with fail
      refine (of_c _ _ _ _ _).mono ?_
      rintro e w' ⟨rfl, hb⟩
      go_wp2_with fail
      exact ⟨rfl, _, rfl, hb, 5, nil8, _, _, _, rfl, .of_parts (by omega) (by omega) (by decide) (H3.out.keep hb)⟩
    · obtain ⟨o0_, n0_, a0_, l0_, d0_, e0, h0⟩ : trV (fun b => (X b ∧ b < w.heap.size) ∨ w.heap.size + 1 ≤ b) (Fm.mk 5 nil8 [(x.nf false), (y.nf false)]) (vals 9) W := hv ⟨9, .data⟩ (by simp) rfl
      have H0 := Aside.mk h0
      clear h0
      obtain ⟨o1_, n1_, a1_, l1_, d1_, e1, h1⟩ : trV (fun b => (X b ∧ b < w.heap.size) ∨ w.heap.size + 1 ≤ b) (Fm.mk 5 nil8 [(x.nf true), (y.nf true)]) (vals 19) W := hv ⟨19, .data⟩ (by simp) rfl
      have H1 := Aside.mk h1
      clear h1
      simp only [e0, e1]
      clear hv
      go_wp2_with fail
      exact ⟨rfl, _, rfl, below_alloc (Below.refl _ _) _, W.heap.size, rfl, isS2 (.inr (by have := hW.size; simpa using this)) (by go_simp) (by go_simp) (by go_simp) (by go_simp) (by go_simp) (by go_simp) (H0.out.keep (below_alloc (Below.refl _ _) _)) (H1.out.keep (below_alloc (Below.refl _ _) _))⟩
    · obtain ⟨b3, e, h3⟩ : slV (fun b => (X b ∧ b < w.heap.size) ∨ w.heap.size + 1 ≤ b) 2 [(Fm.mk 5 nil8 [(x.nf false), (y.nf false)]), (Fm.mk 5 nil8 [(x.nf true), (y.nf true)])] (vals 20) W := hv ⟨20, .data⟩ (by simp) rfl
      have H3 := Aside.mk h3
      clear h3
      simp only [e]
      clear hv
      go_wp2_with fail
      refine (of_c _ _ _ _ _).mono ?_
      rintro e w' ⟨rfl, hb⟩
      go_wp2_with fail
      exact ⟨rfl, _, rfl, hb, 6, nil8, _, _, _, rfl, .of_parts (by omega) (by omega) (by decide) (H3.out.keep hb)⟩
  · intro vals W hW hv
    obtain ⟨o3, n3, a3, l3, d3, e, h3⟩ : trV (fun b => (X b ∧ b < w.heap.size) ∨ w.heap.size + 1 ≤ b) (Fm.mk 6 nil8 [(Fm.mk 5 nil8 [(x.nf false), (y.nf false)]), (Fm.mk 5 nil8 [(x.nf true), (y.nf true)])]) (vals 21) W := hv 21 (by omega)
    have HT := Aside.mk h3
    have r0 : W.cell? ⟨w.heap.size, 0, none⟩ = some (.int .u8 0) := cell_below hW (by go_simp)
    have r1 : W.cell? ⟨w.heap.size, 1, none⟩ = some (.string nil8) := cell_below hW (by go_simp)
    have r2 : W.cell? ⟨w.heap.size, 2, none⟩ = some (.slice none 0 0) := cell_below hW (by go_simp)
    have f0 : W.frozen? ⟨w.heap.size, 0, none⟩ = false := (hW.frozen (by simp)).trans (by go_simp)
    have f1 : W.frozen? ⟨w.heap.size, 1, none⟩ = false := (hW.frozen (by simp)).trans (by go_simp)
    have f2 : W.frozen? ⟨w.heap.size, 2, none⟩ = false := (hW.frozen (by simp)).trans (by go_simp)
    have HB : Aside (Below w.heap.size w W) := ⟨below_to (by repeat (first | (with_reducible exact Below.refl _ _) | (with_reducible assumption) | refine below_alloc ?_ _ | refine Below.drew ?_ | refine below_drewN ?_ _)) hW⟩
    clear hv h3
    simp only [List.take_succ_cons, List.take_zero, List.drop_succ_cons, List.drop_zero, lexL, Act.put, List.setIfInBounds_toArray, List.set_cons_zero, List.set_cons_succ, e]
    go_wp2_with fail
    refine bodyPost_ret (v := fv o3 n3 a3 l3 d3) (by simp [results, Tryz.results271, go_sem, r0, r1, r2]) rfl ?_
    exact RetX.at_ _ HT.out HB.out (by omega) (by omega) _ _ _

set_option maxRecDepth 100000 in
set_option maxHeartbeats 4000000 in
theorem normals6_c {X : Nat → Prop} (f g : Fm) (hpf : PosC f) (hpg : PosC g) (a : Option Addr) (n c : Nat) (w : World) (hS : IsSX X w a n c [f, g]) :
    Calls Tryz.prog 275 #[.slice a n c] w (RetX X (Fm.mk 13 nil8 [(g.nf false), (Fm.mk 6 nil8 [(f.nf false), (g.nf false)])]) w) := by
  obtain ⟨b, o, rfl, hbl, x, op1, nm1, a1, n1, d1, X1, q0, q1, q2, hT1⟩ := hS.at_ 0 (by have := hS.1; simp at this; omega)
  obtain rfl : x = f := by have := X1.get; simp at this; exact this.symm
  obtain ⟨b', o', e', hbl', y, op2, nm2, a2, n2, d2, X2, p0, p1, p2, hT2⟩ := hS.at_ 1 (by have := hS.1; simp at this; omega)
  obtain rfl : y = g := by have := X2.get; simp at this; exact this.symm
  obtain ⟨rfl, rfl⟩ : b' = b ∧ o' = o := by cases e'; exact ⟨rfl, rfl⟩
  simp only [Nat.zero_mul, Nat.add_zero, Nat.one_mul] at q0 q1 q2 p0 p1 p2
  have hnl : (0 : Int) < (n : Int) := by have := hS.1; simp at this; omega
  have hn0 : 0 < n := by omega
  have hnl1 : (1 : Int) < (n : Int) := by have := hS.1; simp at this; omega
  have hn1 : 1 < n := by omega
  have Hpf := Aside.mk (fun W (hW : Below w.heap.size w W) => hpf (fun b => X b ∧ b < w.heap.size) op1 nm1 a1 n1 d1 W (hT1.old.keep hW))
  have Hpg := Aside.mk (fun W (hW : Below w.heap.size w W) => hpg (fun b => X b ∧ b < w.heap.size) op2 nm2 a2 n2 d2 W (hT2.old.keep hW))
  clear hS hT1 X1 hT2 X2 hpf hpg
  have hbl2 : b' < w.heap.size + 1 := by omega
  go_enter Tryz.func275, Tryz.ntmps275
  go_wp2_with fail
  refine wp_region_mono 16 (by kernel_rfl) (by kernel_rfl) [fun v _ => v = .slice (some ⟨b', o', none⟩) n c, fun v _ => v = .pointer (some ⟨b', o' + 3, none⟩), fun v _ => v = fv op2 nm2 a2 n2 d2, trV (fun b => (X b ∧ b < w.heap.size) ∨ w.heap.size + 1 ≤ b) (y.nf false), fun v _ => v = .slice (some ⟨b', o', none⟩) n c, fun v _ => v = .pointer (some ⟨b', o', none⟩), fun v _ => v = fv op1 nm1 a1 n1 d1, trV (fun b => (X b ∧ b < w.heap.size) ∨ w.heap.size + 1 ≤ b) (x.nf false), fun v _ => v = .slice (some ⟨b', o', none⟩) n c, fun v _ => v = .pointer (some ⟨b', o' + 3, none⟩), fun v _ => v = fv op2 nm2 a2 n2 d2, trV (fun b => (X b ∧ b < w.heap.size) ∨ w.heap.size + 1 ≤ b) (y.nf false), slV (fun b => (X b ∧ b < w.heap.size) ∨ w.heap.size + 1 ≤ b) 2 [(x.nf false), (y.nf false)], trV (fun b => (X b ∧ b < w.heap.size) ∨ w.heap.size + 1 ≤ b) (Fm.mk 6 nil8 [(x.nf false), (y.nf false)]), slV (fun b => (X b ∧ b < w.heap.size) ∨ w.heap.size + 1 ≤ b) 2 [(y.nf false), (Fm.mk 6 nil8 [(x.nf false), (y.nf false)])], trV (fun b => (X b ∧ b < w.heap.size) ∨ w.heap.size + 1 ≤ b) (Fm.mk 13 nil8 [(y.nf false), (Fm.mk 6 nil8 [(x.nf false), (y.nf false)])])] ⟨stable_eq _, stable_eq _, stable_eq _, trV_stable _ _, stable_eq _, stable_eq _, stable_eq _, trV_stable _ _, stable_eq _, stable_eq _, stable_eq _, trV_stable _ _, slV_stable _ _ _, trV_stable _ _, slV_stable _ _ _, trV_stable _ _, trivial⟩ ?_ ?_
  · simp only [List.take_succ_cons, List.take_zero]
    refine steps_cons ?_ (steps_cons ?_ (steps_cons ?_ (steps_cons ?_ (steps_cons ?_ (steps_cons ?_ (steps_cons ?_ (steps_cons ?_ (steps_cons ?_ (steps_cons ?_ (steps_cons ?_ (steps_cons ?_ (steps_cons ?_ (steps_cons ?_ (steps_cons ?_ (steps_cons ?_ steps_nil)))))))))))))))
    all_goals intro vals W hW hv; try simp only [Act.put, List.setIfInBounds_toArray, List.set_cons_zero, List.set_cons_succ]
    · go_wp2_with fail
      exact ⟨rfl, _, rfl, (by repeat (first | (with_reducible exact Below.refl _ _) | (with_reducible assumption) | refine below_alloc ?_ _ | refine Below.drew ?_ | refine below_drewN ?_ _)), rfl⟩
    · have e : vals 0 = .slice (some ⟨b', o', none⟩) n c := hv ⟨0, .data⟩ (by simp) rfl
      simp only [e]
      go_wp2_with fail
      exact ⟨rfl, _, rfl, (by repeat (first | (with_reducible exact Below.refl _ _) | (with_reducible assumption) | refine below_alloc ?_ _ | refine Below.drew ?_ | refine below_drewN ?_ _)), rfl⟩
    · have e : vals 1 = .pointer (some ⟨b', o' + 3, none⟩) := hv ⟨1, .data⟩ (by simp) rfl
      have c0 : W.cell? ⟨b', o' + 3, none⟩ = _ := cell_below hW ((Below.refl w.heap.size w |>.alloc (Nat.le_refl _) _).cell (by omega) |>.trans p0)
      have c1 : W.cell? ⟨b', o' + 3 + 1, none⟩ = _ := cell_below hW ((Below.refl w.heap.size w |>.alloc (Nat.le_refl _) _).cell (by omega) |>.trans p1)
      have c2 : W.cell? ⟨b', o' + 3 + 2, none⟩ = _ := cell_below hW ((Below.refl w.heap.size w |>.alloc (Nat.le_refl _) _).cell (by omega) |>.trans p2)
      simp only [e]
      go_wp2_with fail
      exact ⟨rfl, _, rfl, (by repeat (first | (with_reducible exact Below.refl _ _) | (with_reducible assumption) | refine below_alloc ?_ _ | refine Below.drew ?_ | refine below_drewN ?_ _)), rfl⟩
    · have e : vals 2 = fv op2 nm2 a2 n2 d2 := hv ⟨2, .data⟩ (by simp) rfl
      simp only [e]
      go_wp2_with fail
      refine (Hpg.out W (below_to (by repeat (first | (with_reducible exact Below.refl _ _) | (with_reducible assumption) | refine below_alloc ?_ _ | refine Below.drew ?_ | refine below_drewN ?_ _)) hW)).mono ?_
      rintro e w' ⟨o3, n3, a3, l3, d3, rfl, hT, hb⟩
      have HT := Aside.mk hT
      clear hT
      go_wp2_with fail
      exact ⟨rfl, _, rfl, hb, o3, n3, a3, l3, d3, rfl, HT.out.mono fun b hb _ => hb.elim .inl fun h => .inr (by have := hW.size; simp at this; omega)⟩
    · go_wp2_with fail
      exact ⟨rfl, _, rfl, (by repeat (first | (with_reducible exact Below.refl _ _) | (with_reducible assumption) | refine below_alloc ?_ _ | refine Below.drew ?_ | refine below_drewN ?_ _)), rfl⟩
    · have e : vals 4 = .slice (some ⟨b', o', none⟩) n c := hv ⟨4, .data⟩ (by simp) rfl
      simp only [e]
      go_wp2_with fail
      exact ⟨rfl, _, rfl, (by repeat (first | (with_reducible exact Below.refl _ _) | (with_reducible assumption) | refine below_alloc ?_ _ | refine Below.drew ?_ | refine below_drewN ?_ _)), rfl⟩
    · have e : vals 5 = .pointer (some ⟨b', o', none⟩) := hv ⟨5, .data⟩ (by simp) rfl
      have c0 : W.cell? ⟨b', o', none⟩ = _ := cell_below hW ((Below.refl w.heap.size w |>.alloc (Nat.le_refl _) _).cell (by omega) |>.trans q0)
      have c1 : W.cell? ⟨b', o' + 1, none⟩ = _ := cell_below hW ((Below.refl w.heap.size w |>.alloc (Nat.le_refl _) _).cell (by omega) |>.trans q1)
      have c2 : W.cell? ⟨b', o' + 2, none⟩ = _ := cell_below hW ((Below.refl w.heap.size w |>.alloc (Nat.le_refl _) _).cell (by omega) |>.trans q2)
      simp only [e]
      go_wp2_with fail
      exact ⟨rfl, _, rfl, (by repeat (first | (with_reducible exact Below.refl _ _) | (with_reducible assumption) | refine below_alloc ?_ _ | refine Below.drew ?_ | refine below_drewN ?_ _)), rfl⟩
    · have e : vals 6 = fv op1 nm1 a1 n1 d1 := hv ⟨6, .data⟩ (by simp) rfl
      simp only [e]
      go_wp2_with fail
      refine (Hpf.out W (below_to (by repeat (first | (with_reducible exact Below.refl _ _) | (with_reducible assumption) | refine below_alloc ?_ _ | refine Below.drew ?_ | refine below_drewN ?_ _)) hW)).mono ?_
      rintro e w' ⟨o3, n3, a3, l3, d3, rfl, hT, hb⟩
      have HT := Aside.mk hT
      clear hT
      go_wp2_with fail
      exact ⟨rfl, _, rfl, hb, o3, n3, a3, l3, d3, rfl, HT.out.mono fun b hb _ => hb.elim .inl fun h => .inr (by have := hW.size; simp at this; omega)⟩
    · go_wp2_with fail
      exact ⟨rfl, _, rfl, (by repeat (first | (with_reducible exact Below.refl _ _) | (with_reducible assumption) | refine below_alloc ?_ _ | refine Below.drew ?_ | refine below_drewN ?_ _)), rfl⟩
    · have e : vals 8 = .slice (some ⟨b', o', none⟩) n c := hv ⟨8, .data⟩ (by simp) rfl
      simp only [e]
      go_wp2_with fail
      exact ⟨rfl, _, rfl, (by repeat (first | (with_reducible exact Below.refl _ _) | (with_reducible assumption) | refine below_alloc ?_ _ | refine Below.drew ?_ | refine below_drewN ?_ _)), rfl⟩
    · have e : vals 9 = .pointer (some ⟨b', o' + 3, none⟩) := hv ⟨9, .data⟩ (by simp) rfl
      have c0 : W.cell? ⟨b', o' + 3, none⟩ = _ := cell_below hW ((Below.refl w.heap.size w |>.alloc (Nat.le_refl _) _).cell (by omega) |>.trans p0)
      have c1 : W.cell? ⟨b', o' + 3 + 1, none⟩ = _ := cell_below hW ((Below.refl w.heap.size w |>.alloc (Nat.le_refl _) _).cell (by omega) |>.trans p1)
      have c2 : W.cell? ⟨b', o' + 3 + 2, none⟩ = _ := cell_below hW ((Below.refl w.heap.size w |>.alloc (Nat.le_refl _) _).cell (by omega) |>.trans p2)
      simp only [e]
      go_wp2_with fail
      exact ⟨rfl, _, rfl, (by repeat (first | (with_reducible exact Below.refl _ _) | (with_reducible assumption) | refine below_alloc ?_ _ | refine Below.drew ?_ | refine below_drewN ?_ _)), rfl⟩
    · have e : vals 10 = fv op2 nm2 a2 n2 d2 := hv ⟨10, .data⟩ (by simp) rfl
      simp only [e]
      go_wp2_with fail
      refine (Hpg.out W (below_to (by repeat (first | (with_reducible exact Below.refl _ _) | (with_reducible assumption) | refine below_alloc ?_ _ | refine Below.drew ?_ | refine below_drewN ?_ _)) hW)).mono ?_
      rintro e w' ⟨o3, n3, a3, l3, d3, rfl, hT, hb⟩
      have HT := Aside.mk hT
      clear hT
      go_wp2_with fail
      exact ⟨rfl, _, rfl, hb, o3, n3, a3, l3, d3, rfl, HT.out.mono fun b hb _ => hb.elim .inl fun h => .inr (by have := hW.size; simp at this; omega)⟩
    · obtain ⟨o0_, n0_, a0_, l0_, d0_, e0, h0⟩ : trV (fun b => (X b ∧ b < w.heap.size) ∨ w.heap.size + 1 ≤ b) (x.nf false) (vals 7) W := hv ⟨7, .data⟩ (by simp) rfl
      have H0 := Aside.mk h0
      clear h0
      obtain ⟨o1_, n1_, a1_, l1_, d1_, e1, h1⟩ : trV (fun b => (X b ∧ b < w.heap.size) ∨ w.heap.size + 1 ≤ b) (y.nf false) (vals 11) W := hv ⟨11, .data⟩ (by simp) rfl
      have H1 := Aside.mk h1
      clear h1
      simp only [e0, e1]
      clear hv
      go_wp2_with fail
      exact ⟨rfl, _, rfl, below_alloc (Below.refl _ _) _, W.heap.size, rfl, isS2 (.inr (by have := hW.size; simpa using this)) (by go_simp) (by go_simp) (by go_simp) (by go_simp) (by go_simp) (by go_simp) (H0.out.keep (below_alloc (Below.refl _ _) _)) (H1.out.keep (below_alloc (Below.refl _ _) _))⟩
    · obtain ⟨b3, e, h3⟩ : slV (fun b => (X b ∧ b < w.heap.size) ∨ w.heap.size + 1 ≤ b) 2 [(x.nf false), (y.nf false)] (vals 12) W := hv ⟨12, .data⟩ (by simp) rfl
      have H3 := Aside.mk h3
      clear h3
      simp only [e]
      clear hv
      go_wp2_with fail
      refine (of_c _ _ _ _ _).mono ?_
      rintro e w' ⟨rfl, hb⟩
      go_wp2_with fail
      exact ⟨rfl, _, rfl, hb, 6, nil8, _, _, _, rfl, .of_parts (by omega) (by omega) (by decide) (H3.out.keep hb)⟩
    · obtain ⟨o0_, n0_, a0_, l0_, d0_, e0, h0⟩ : trV (fun b => (X b ∧ b < w.heap.size) ∨ w.heap.size + 1 ≤ b) (y.nf false) (vals 3) W := hv ⟨3, .data⟩ (by simp) rfl
      have H0 := Aside.mk h0
      clear h0
      obtain ⟨o1_, n1_, a1_, l1_, d1_, e1, h1⟩ : trV (fun b => (X b ∧ b < w.heap.size) ∨ w.heap.size + 1 ≤ b) (Fm.mk 6 nil8 [(x.nf false), (y.nf false)]) (vals 13) W := hv ⟨13, .data⟩ (by simp) rfl
      have H1 := Aside.mk h1
      clear h1
      simp only [e0, e1]
      clear hv
      go_wp2_with fail
      exact ⟨rfl, _, rfl, below_alloc (Below.refl _ _) _, W.heap.size, rfl, isS2 (.inr (by have := hW.size; simpa using this)) (by go_simp) (by go_simp) (by go_simp) (by go_simp) (by go_simp) (by go_simp) (H0.out.keep (below_alloc (Below.refl _ _) _)) (H1.out.keep (below_alloc (Below.refl _ _) _))⟩
    · obtain ⟨b3, e, h3⟩ : slV (fun b => (X b ∧ b < w.heap.size) ∨ w.heap.size + 1 ≤ b) 2 [(y.nf false), (Fm.mk 6 nil8 [(x.nf false), (y.nf false)])] (vals 14) W := hv ⟨14, .data⟩ (by simp) rfl
      have H3 := Aside.mk h3
      clear h3
      simp only [e]
      clear hv
      go_wp2_with fail
      refine (of_c _ _ _ _ _).mono ?_
      rintro e w' ⟨rfl, hb⟩
      go_wp2_with fail
      exact ⟨rfl, _, rfl, hb, 13, nil8, _, _, _, rfl, .of_parts (by omega) (by omega) (by decide) (H3.out.keep hb)⟩
  · intro vals W hW hv
    obtain ⟨o3, n3, a3, l3, d3, e, h3⟩ : trV (fun b => (X b ∧ b < w.heap.size) ∨ w.heap.size + 1 ≤ b) (Fm.mk 13 nil8 [(y.nf false), (Fm.mk 6 nil8 [(x.nf false), (y.nf false)])]) (vals 15) W := hv 15 (by omega)
    have HT := Aside.mk h3
    have r0 : W.cell? ⟨w.heap.size, 0, none⟩ = some (.int .u8 0) := cell_below hW (by go_simp)
    have r1 : W.cell? ⟨w.heap.size, 1, none⟩ = some (.string nil8) := cell_below hW (by go_simp)
    have r2 : W.cell? ⟨w.heap.size, 2, none⟩ = some (.slice none 0 0) := cell_below hW (by go_simp)
    have f0 : W.frozen? ⟨w.heap.size, 0, none⟩ = false := (hW.frozen (by simp)).trans (by go_simp)
    have f1 : W.frozen? ⟨w.heap.size, 1, none⟩ = false := (hW.frozen (by simp)).trans (by go_simp)
    have f2 : W.frozen? ⟨w.heap.size, 2, none⟩ = false := (hW.frozen (by simp)).trans (by go_simp)
    have HB : Aside (Below w.heap.size w W) := ⟨below_to (by repeat (first | (with_reducible exact Below.refl _ _) | (with_reducible assumption) | refine below_alloc ?_ _ | refine Below.drew ?_ | refine below_drewN ?_ _)) hW⟩
    clear hv h3
    simp only [List.take_succ_cons, List.take_zero, List.drop_succ_cons, List.drop_zero, lexL, Act.put, List.setIfInBounds_toArray, List.set_cons_zero, List.set_cons_succ, e]
    go_wp2_with fail
    refine bodyPost_ret (v := fv o3 n3 a3 l3 d3) (by simp [results, Tryz.results275, go_sem, r0, r1, r2]) rfl ?_
    exact RetX.at_ _ HT.out HB.out (by omega) (by omega) _ _ _

set_option maxRecDepth 100000 in
set_option maxHeartbeats 4000000 in
theorem normals7_c {X : Nat → Prop} (f g : Fm) (hpf : PosC f) (hpg : PosC g) (a : Option Addr) (n c : Nat) (w : World) (hS : IsSX X w a n c [f, g]) :
    Calls Tryz.prog 276 #[.slice a n c] w (RetX X (Fm.mk 12 nil8 [(g.nf false), (Fm.mk 5 nil8 [(f.nf false), (g.nf false)])]) w) := by
  obtain ⟨b, o, rfl, hbl, x, op1, nm1, a1, n1, d1, X1, q0, q1, q2, hT1⟩ := hS.at_ 0 (by have := hS.1; simp at this; omega)
  obtain rfl : x = f := by have := X1.get; simp at this; exact this.symm
  obtain ⟨b', o', e', hbl', y, op2, nm2, a2, n2, d2, X2, p0, p1, p2, hT2⟩ := hS.at_ 1 (by have := hS.1; simp at this; omega)
  obtain rfl : y = g := by have := X2.get; simp at this; exact this.symm
  obtain ⟨rfl, rfl⟩ : b' = b ∧ o' = o := by cases e'; exact ⟨rfl, rfl⟩
  simp only [Nat.zero_mul, Nat.add_zero, Nat.one_mul] at q0 q1 q2 p0 p1 p2
  have hnl : (0 : Int) < (n : Int) := by have := hS.1; simp at this; omega
  have hn0 : 0 < n := by omega
  have hnl1 : (1 : Int) < (n : Int) := by have := hS.1; simp at this; omega
  have hn1 : 1 < n := by omega
  have Hpf := Aside.mk (fun W (hW : Below w.heap.size w W) => hpf (fun b => X b ∧ b < w.heap.size) op1 nm1 a1 n1 d1 W (hT1.old.keep hW))
  have Hpg := Aside.mk (fun W (hW : Below w.heap.size w W) => hpg (fun b => X b ∧ b < w.heap.size) op2 nm2 a2 n2 d2 W (hT2.old.keep hW))
  clear hS hT1 X1 hT2 X2 hpf hpg
  have hbl2 : b' < w.heap.size + 1 := by omega
  go_enter Tryz.func276, Tryz.ntmps276
  go_wp2_with fail
  refine wp_region_mono 16 (by kernel_rfl) (by kernel_rfl) [fun v _ => v = .slice (some ⟨b', o', none⟩) n c, fun v _ => v = .pointer (some ⟨b', o' + 3, none⟩), fun v _ => v = fv op2 nm2 a2 n2 d2, trV (fun b => (X b ∧ b < w.heap.size) ∨ w.heap.size + 1 ≤ b) (y.nf false), fun v _ => v = .slice (some ⟨b', o', none⟩) n c, fun v _ => v = .pointer (some ⟨b', o', none⟩), fun v _ => v = fv op1 nm1 a1 n1 d1, trV (fun b => (X b ∧ b < w.heap.size) ∨ w.heap.size + 1 ≤ b) (x.nf false), fun v _ => v = .slice (some ⟨b', o', none⟩) n c, fun v _ => v = .pointer (some ⟨b', o' + 3, none⟩), fun v _ => v = fv op2 nm2 a2 n2 d2, trV (fun b => (X b ∧ b < w.heap.size) ∨ w.heap.size + 1 ≤ b) (y.nf false), slV (fun b => (X b ∧ b < w.heap.size) ∨ w.heap.size + 1 ≤ b) 2 [(x.nf false), (y.nf false)], trV (fun b => (X b ∧ b < w.heap.size) ∨ w.heap.size + 1 ≤ b) (Fm.mk 5 nil8 [(x.nf false), (y.nf false)]), slV (fun b => (X b ∧ b < w.heap.size) ∨ w.heap.size + 1 ≤ b) 2 [(y.nf false), (Fm.mk 5 nil8 [(x.nf false), (y.nf false)])], trV (fun b => (X b ∧ b < w.heap.size) ∨ w.heap.size + 1 ≤ b) (Fm.mk 12 nil8 [(y.nf false), (Fm.mk 5 nil8 [(x.nf false), (y.nf false)])])] ⟨stable_eq _, stable_eq _, stable_eq _, trV_stable _ _, stable_eq _, stable_eq _, stable_eq _, trV_stable _ _, stable_eq _, stable_eq _, stable_eq _, trV_stable _ _, slV_stable _ _ _, trV_stable _ _, slV_stable _ _ _, trV_stable _ _, trivial⟩ ?_ ?_
  · simp only [List.take_succ_cons, List.take_zero]
    refine steps_cons ?_ (steps_cons ?_ (steps_cons ?_ (steps_cons ?_ (steps_cons ?_ (steps_cons ?_ (steps_cons ?_ (steps_cons ?_ (steps_cons ?_ (steps_cons ?_ (steps_cons ?_ (steps_cons ?_ (steps_cons ?_ (steps_cons ?_ (steps_cons ?_ (steps_cons ?_ steps_nil)))))))))))))))
    all_goals intro vals W hW hv; try simp only [Act.put, List.setIfInBounds_toArray, List.set_cons_zero, List.set_cons_succ]
    · go_wp2_with fail
      exact ⟨rfl, _, rfl, (by repeat (first | (with_reducible exact Below.refl _ _) | (with_reducible assumption) | refine below_alloc ?_ _ | refine Below.drew ?_ | refine below_drewN ?_ _)), rfl⟩
    · have e : vals 0 = .slice (some ⟨b', o', none⟩) n c := hv ⟨0, .data⟩ (by simp) rfl
      simp only [e]
      go_wp2_with fail
      exact ⟨rfl, _, rfl, (by repeat (first | (with_reducible exact Below.refl _ _) | (with_reducible assumption) | refine below_alloc ?_ _ | refine Below.drew ?_ | refine below_drewN ?_ _)), rfl⟩
    · have e : vals 1 = .pointer (some ⟨b', o' + 3, none⟩) := hv ⟨1, .data⟩ (by simp) rfl
      have c0 : W.cell? ⟨b', o' + 3, none⟩ = _ := cell_below hW ((Below.refl w.heap.size w |>.alloc (Nat.le_refl _) _).cell (by omega) |>.trans p0)
      have c1 : W.cell? ⟨b', o' + 3 + 1, none⟩ = _ := cell_below hW ((Below.refl w.heap.size w |>.alloc (Nat.le_refl _) _).cell (by omega) |>.trans p1)
      have c2 : W.cell? ⟨b', o' + 3 + 2, none⟩ = _ := cell_below hW ((Below.refl w.heap.size w |>.alloc (Nat.le_refl _) _).cell (by omega) |>.trans p2)
      simp only [e]
      go_wp2_with fail
      exact ⟨rfl, _, rfl, (by repeat (first | (with_reducible exact Below.refl _ _) | (with_reducible assumption) | refine below_alloc ?_ _ | refine Below.drew ?_ | refine below_drewN ?_ _)), rfl⟩
    · have e : vals 2 = fv op2 nm2 a2 n2 d2 := hv ⟨2, .data⟩ (by simp) rfl
      simp only [e]
      go_wp2_with fail
      refine (Hpg.out W (below_to (by repeat (first | (with_reducible exact Below.refl _ _) | (with_reducible assumption) | refine below_alloc ?_ _ | refine Below.drew ?_ | refine below_drewN ?_ _)) hW)).mono ?_
      rintro e w' ⟨o3, n3, a3, l3, d3, rfl, hT, hb⟩
      have HT := Aside.mk hT
      clear hT
      go_wp2_with fail
      exact ⟨rfl, _, rfl, hb, o3, n3, a3, l3, d3, rfl, HT.out.mono fun b hb _ => hb.elim .inl fun h => .inr (by have := hW.size; simp at this; omega)⟩
    · go_wp2_with fail
      exact ⟨rfl, _, rfl, (by repeat (first | (with_reducible exact Below.refl _ _) | (with_reducible assumption) | refine below_alloc ?_ _ | refine Below.drew ?_ | refine below_drewN ?_ _)), rfl⟩
    · have e : vals 4 = .slice (some ⟨b', o', none⟩) n c := hv ⟨4, .data⟩ (by simp) rfl
      simp only [e]
      go_wp2_with fail
      exact ⟨rfl, _, rfl, (by repeat (first | (with_reducible exact Below.refl _ _) | (with_reducible assumption) | refine below_alloc ?_ _ | refine Below.drew ?_ | refine below_drewN ?_ _)), rfl⟩
    · have e : vals 5 = .pointer (some ⟨b', o', none⟩) := hv ⟨5, .data⟩ (by simp) rfl
      have c0 : W.cell? ⟨b', o', none⟩ = _ := cell_below hW ((Below.refl w.heap.size w |>.alloc (Nat.le_refl _) _).cell (by omega) |>.trans q0)
      have c1 : W.cell? ⟨b', o' + 1, none⟩ = _ := cell_below hW ((Below.refl w.heap.size w |>.alloc (Nat.le_refl _) _).cell (by omega) |>.trans q1)
      have c2 : W.cell? ⟨b', o' + 2, none⟩ = _ := cell_below hW ((Below.refl w.heap.size w |>.alloc (Nat.le_refl _) _).cell (by omega) |>.trans q2)
      simp only [e]
      go_wp2_with fail
      exact ⟨rfl, _, rfl, (by repeat (first | (with_reducible exact Below.refl _ _) | (with_reducible assumption) | refine below_alloc ?_ _ | refine Below.drew ?_ | refine below_drewN ?_ _)), rfl⟩
    · have e : vals 6 = fv op1 nm1 a1 n1 d1 := hv ⟨6, .data⟩ (by simp) rfl
      simp only [e]
      go_wp2_with fail
      refine (Hpf.out W (below_to (by repeat (first | (with_reducible exact Below.refl _ _) | (with_reducible assumption) | refine below_alloc ?_ _ | refine Below.drew ?_ | refine below_drewN ?_ _)) hW)).mono ?_
      rintro e w' ⟨o3, n3, a3, l3, d3, rfl, hT, hb⟩
      have HT := Aside.mk hT
      clear hT
      go_wp2_with fail
      exact ⟨rfl, _, rfl, hb, o3, n3, a3, l3, d3, rfl, HT.out.mono fun b hb _ => hb.elim .inl fun h => .inr (by have := hW.size; simp at this; omega)⟩
    · go_wp2_with fail
      exact ⟨rfl, _, rfl, (by repeat (first | (with_reducible exact Below.refl _ _) | (with_reducible assumption) | refine below_alloc ?_ _ | refine Below.drew ?_ | refine below_drewN ?_ _)), rfl⟩
    · have e : vals 8 = .slice (some ⟨b', o', none⟩) n c := hv ⟨8, .data⟩ (by simp) rfl
      simp only [e]
      go_wp2_with fail
      exact ⟨rfl, _, rfl, (by repeat (first | (with_reducible exact Below.refl _ _) | (with_reducible assumption) | refine below_alloc ?_ _ | refine Below.drew ?_ | refine below_drewN ?_ _)), rfl⟩
    · have e : vals 9 = .pointer (some ⟨b', o' + 3, none⟩) := hv ⟨9, .data⟩ (by simp) rfl
      have c0 : W.cell? ⟨b', o' + 3, none⟩ = _ := cell_below hW ((Below.refl w.heap.size w |>.alloc (Nat.le_refl _) _).cell (by omega) |>.trans p0)
      have c1 : W.cell? ⟨b', o' + 3 + 1, none⟩ = _ := cell_below hW ((Below.refl w.heap.size w |>.alloc (Nat.le_refl _) _).cell (by omega) |>.trans p1)
      have c2 : W.cell? ⟨b', o' + 3 + 2, none⟩ = _ := cell_below hW ((Below.refl w.heap.size w |>.alloc (Nat.le_refl _) _).cell (by omega) |>.trans p2)
      simp only [e]
      go_wp2_with fail
      exact ⟨rfl, _, rfl, (by repeat (first | (with_reducible exact Below.refl _ _) | (with_reducible assumption) | refine below_alloc ?_ _ | refine Below.drew ?_ | refine below_drewN ?_ _)), rfl⟩
    · have e : vals 10 = fv op2 nm2 a2 n2 d2 := hv ⟨10, .data⟩ (by simp) rfl
      simp only [e]
      go_wp2_with fail
      refine (Hpg.out W (below_to (by repeat (first | (with_reducible exact Below.refl _ _) | (with_reducible assumption) | refine below_alloc ?_ _ | refine Below.drew ?_ | refine below_drewN ?_ _)) hW)).mono ?_
      rintro e w' ⟨o3, n3, a3, l3, d3, rfl, hT, hb⟩
      have HT := Aside.mk hT
      clear hT
      go_wp2_with fail
      exact ⟨rfl, _, rfl, hb, o3, n3, a3, l3, d3, rfl, HT.out.mono fun b hb _ => hb.elim .inl fun h => .inr (by have := hW.size; simp at this; omega)⟩
    · obtain ⟨o0_, n0_, a0_, l0_, d0_, e0, h0⟩ : trV (fun b => (X b ∧ b < w.heap.size) ∨ w.heap.size + 1 ≤ b) (x.nf false) (vals 7) W := hv ⟨7, .data⟩ (by simp) rfl
      have H0 := Aside.mk h0
      clear h0
      obtain ⟨o1_, n1_, a1_, l1_, d1_, e1, h1⟩ : trV (fun b => (X b ∧ b < w.heap.size) ∨ w.heap.size + 1 ≤ b) (y.nf false) (vals 11) W := hv ⟨11, .data⟩ (by simp) rfl
      have H1 := Aside.mk h1
      clear h1
      simp only [e0, e1]
      clear hv
      go_wp2_with fail
      exact ⟨rfl, _, rfl, below_alloc (Below.refl _ _) _, W.heap.size, rfl, isS2 (.inr (by have := hW.size; simpa using this)) (by go_simp) (by go_simp) (by go_simp) (by go_simp) (by go_simp) (by go_simp) (H0.out.keep (below_alloc (Below.refl _ _) _)) (H1.out.keep (below_alloc (Below.refl _ _) _))⟩
    · obtain ⟨b3, e, h3⟩ : slV (fun b => (X b ∧ b < w.heap.size) ∨ w.heap.size + 1 ≤ b) 2 [(x.nf false), (y.nf false)] (vals 12) W := hv ⟨12, .data⟩ (by simp) rfl
      have H3 := Aside.mk h3
      clear h3
      simp only [e]
      clear hv
      go_wp2_with fail
      refine (of_c _ _ _ _ _).mono ?_
      rintro e w' ⟨rfl, hb⟩
      go_wp2_with fail
      exact ⟨rfl, _, rfl, hb, 5, nil8, _, _, _, rfl, .of_parts (by omega) (by omega) (by decide) (H3.out.keep hb)⟩
    · obtain ⟨o0_, n0_, a0_, l0_, d0_, e0, h0⟩ : trV (fun b => (X b ∧ b < w.heap.size) ∨ w.heap.size + 1 ≤ b) (y.nf false) (vals 3) W := hv ⟨3, .data⟩ (by simp) rfl
      have H0 := Aside.mk h0
      clear h0
      obtain ⟨o1_, n1_, a1_, l1_, d1_, e1, h1⟩ : trV (fun b => (X b ∧ b < w.heap.size) ∨ w.heap.size + 1 ≤ b) (Fm.mk 5 nil8 [(x.nf false), (y.nf false)]) (vals 13) W := hv ⟨13, .data⟩ (by simp) rfl
      have H1 := Aside.mk h1
      clear h1
      simp only [e0, e1]
      clear hv
      go_wp2_with fail
      exact ⟨rfl, _, rfl, below_alloc (Below.refl _ _) _, W.heap.size, rfl, isS2 (.inr (by have := hW.size; simpa using this)) (by go_simp) (by go_simp) (by go_simp) (by go_simp) (by go_simp) (by go_simp) (H0.out.keep (below_alloc (Below.refl _ _) _)) (H1.out.keep (below_alloc (Below.refl _ _) _))⟩
    · obtain ⟨b3, e, h3⟩ : slV (fun b => (X b ∧ b < w.heap.size) ∨ w.heap.size + 1 ≤ b) 2 [(y.nf false), (Fm.mk 5 nil8 [(x.nf false), (y.nf false)])] (vals 14) W := hv ⟨14, .data⟩ (by simp) rfl
      have H3 := Aside.mk h3
      clear h3
      simp only [e]
      clear hv
      go_wp2_with fail
      refine (of_c _ _ _ _ _).mono ?_
      rintro e w' ⟨rfl, hb⟩
      go_wp2_with fail
      exact ⟨rfl, _, rfl, hb, 12, nil8, _, _, _, rfl, .of_parts (by omega) (by omega) (by decide) (H3.out.keep hb)⟩
  · intro vals W hW hv
    obtain ⟨o3, n3, a3, l3, d3, e, h3⟩ : trV (fun b => (X b ∧ b < w.heap.size) ∨ w.heap.size + 1 ≤ b) (Fm.mk 12 nil8 [(y.nf false), (Fm.mk 5 nil8 [(x.nf false), (y.nf false)])]) (vals 15) W := hv 15 (by omega)
    have HT := Aside.mk h3
    have r0 : W.cell? ⟨w.heap.size, 0, none⟩ = some (.int .u8 0) := cell_below hW (by go_simp)
    have r1 : W.cell? ⟨w.heap.size, 1, none⟩ = some (.string nil8) := cell_below hW (by go_simp)
    have r2 : W.cell? ⟨w.heap.size, 2, none⟩ = some (.slice none 0 0) := cell_below hW (by go_simp)
    have f0 : W.frozen? ⟨w.heap.size, 0, none⟩ = false := (hW.frozen (by simp)).trans (by go_simp)
    have f1 : W.frozen? ⟨w.heap.size, 1, none⟩ = false := (hW.frozen (by simp)).trans (by go_simp)
    have f2 : W.frozen? ⟨w.heap.size, 2, none⟩ = false := (hW.frozen (by simp)).trans (by go_simp)
    have HB : Aside (Below w.heap.size w W) := ⟨below_to (by repeat (first | (with_reducible exact Below.refl _ _) | (with_reducible assumption) | refine below_alloc ?_ _ | refine Below.drew ?_ | refine below_drewN ?_ _)) hW⟩
    clear hv h3
    simp only [List.take_succ_cons, List.take_zero, List.drop_succ_cons, List.drop_zero, lexL, Act.put, List.setIfInBounds_toArray, List.set_cons_zero, List.set_cons_succ, e]
    go_wp2_with fail
    refine bodyPost_ret (v := fv o3 n3 a3 l3 d3) (by simp [results, Tryz.results276, go_sem, r0, r1, r2]) rfl ?_
    exact RetX.at_ _ HT.out HB.out (by omega) (by omega) _ _ _

end Go.Proofs.YtmmakkaolknbaaaGreatDoor
