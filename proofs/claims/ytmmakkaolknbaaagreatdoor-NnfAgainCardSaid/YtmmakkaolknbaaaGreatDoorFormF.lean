/- nnf's both: its closure. -/
import Derived.Test.YtmmakkaolknbaaaGreatDoorFormN
namespace Go.Proofs.YtmmakkaolknbaaaGreatDoor
set_option linter.unusedVariables false
set_option linter.unusedSimpArgs false
open Go.RowKit Go.Shelf

/-- both's function. -/
def Clo (q : Int) (g1 g2 : Nat) (v : Value) (W : World) : Prop :=
  ∃ B, v = .func (.func 295) #[] #[.pointer (some ⟨B, 0, none⟩), .pointer (some ⟨B + 1, 0, none⟩), .pointer (some ⟨B + 1 + 1, 0, none⟩)] ∧ W.cell? ⟨B, 0, none⟩ = some (.int .u8 q) ∧ W.cell? ⟨B + 1, 0, none⟩ = some (fnV g1) ∧ W.cell? ⟨B + 1 + 1, 0, none⟩ = some (fnV g2)
def CloIn (N : Nat) (q : Int) (g1 g2 : Nat) (v : Value) (W : World) : Prop :=
  ∃ B, N ≤ B ∧ v = .func (.func 295) #[] #[.pointer (some ⟨B, 0, none⟩), .pointer (some ⟨B + 1, 0, none⟩), .pointer (some ⟨B + 1 + 1, 0, none⟩)] ∧ W.cell? ⟨B, 0, none⟩ = some (.int .u8 q) ∧ W.cell? ⟨B + 1, 0, none⟩ = some (fnV g1) ∧ W.cell? ⟨B + 1 + 1, 0, none⟩ = some (fnV g2)
theorem clo_stable (q : Int) (g1 g2 : Nat) : Stable (Clo q g1 g2) := by
  rintro v W W' ⟨B, e, h0, h1, h2⟩ hb
  exact ⟨B, e, cell_below hb h0, cell_below hb h1, cell_below hb h2⟩

set_option maxHeartbeats 1000000 in
theorem both_c (q : Int) (g1 g2 : Nat) (w : World) : Calls Tryz.prog 262 #[.int .u8 q, fnV g1, fnV g2] w fun e w' => ∃ v, e = .returned v ∧ CloIn w.heap.size q g1 g2 v w' ∧ Below w.heap.size w w' := by
  go_enter Tryz.func262, Tryz.ntmps262
  go_wp2_with fail
  go_ret
  exact ⟨_, rfl, ⟨w.heap.size, Nat.le_refl _, rfl, by go_simp, by go_simp, by go_simp⟩, (by repeat (first | (with_reducible exact Below.refl _ _) | (with_reducible assumption) | refine below_alloc ?_ _ | refine Below.drew ?_ | refine below_drewN ?_ _))⟩

def TakesT (g : Nat) (x y : Fm) : Prop := ∀ (X : Nat → Prop) (op : Int) (nm : ByteArray) (a : Option Addr) (n c : Nat) (w : World), IsTX X w op nm a n c x → Calls Tryz.prog g #[fv op nm a n c] w (RetX X y w)

set_option maxRecDepth 100000 in
set_option maxHeartbeats 4000000 in
theorem clo_c {X : Nat → Prop} (q : Int) (hq0 : 0 ≤ q) (hq1 : q ≤ 255) (g1 g2 : Nat) (eg1 : ∀ args w, (callFunc g1 args).run Tryz.prog w = .ok (.enter g1 args) w) (eg2 : ∀ args w, (callFunc g2 args).run Tryz.prog w = .ok (.enter g2 args) w)
    (f g f' g' : Fm) (h1 : TakesT g1 f f') (h2 : TakesT g2 g g') (a : Option Addr) (n c : Nat) (w : World) (hS : IsSX X w a n c [f, g]) (B : Nat) (k0 : w.cell? ⟨B, 0, none⟩ = some (.int .u8 q)) (k1 : w.cell? ⟨B + 1, 0, none⟩ = some (fnV g1)) (k2 : w.cell? ⟨B + 1 + 1, 0, none⟩ = some (fnV g2)) :
    Calls Tryz.prog 295 #[.slice a n c, .pointer (some ⟨B, 0, none⟩), .pointer (some ⟨B + 1, 0, none⟩), .pointer (some ⟨B + 1 + 1, 0, none⟩)] w (RetX X (Fm.mk q nil8 [f', g']) w) := by
  obtain ⟨b, o, rfl, hbl, x, op1, nm1, a1, n1, d1, X1, q0, q1, q2, hT1⟩ := hS.at_ 0 (by have := hS.1; simp at this; omega)
  obtain rfl : x = f := by have := X1.get; simp at this; exact this.symm
  obtain ⟨b', o', e', hbl', y, op2, nm2, a2, n2, d2, X2, p0, p1, p2, hT2⟩ := hS.at_ 1 (by have := hS.1; simp at this; omega)
  obtain rfl : y = g := by have := X2.get; simp at this; exact this.symm
  obtain ⟨rfl, rfl⟩ : b' = b ∧ o' = o := by cases e'; exact ⟨rfl, rfl⟩
  simp only [Nat.zero_mul, Nat.add_zero, Nat.one_mul] at q0 q1 q2 p0 p1 p2
  have hnl : (0 : Int) < (n : Int) := by have := hS.1; simp at this; omega
  have hn0 : 0 < n := by omega
  have hnl1 : (1 : Int) < (n : Int) := by have := hS.1; simp at this; omega
  have hn1 : 1 < n := by omega
  have H1 := Aside.mk (fun W (hW : Below w.heap.size w W) => h1 (fun b => X b ∧ b < w.heap.size) op1 nm1 a1 n1 d1 W (hT1.old.keep hW))
  have H2 := Aside.mk (fun W (hW : Below w.heap.size w W) => h2 (fun b => X b ∧ b < w.heap.size) op2 nm2 a2 n2 d2 W (hT2.old.keep hW))
  have hB0 : B < w.heap.size := World.block_lt_of_cell? w _ k0
  have hB1 : B + 1 < w.heap.size := World.block_lt_of_cell? w _ k1
  have hB2 : B + 1 + 1 < w.heap.size := World.block_lt_of_cell? w _ k2
  clear hS hT1 X1 hT2 X2 h1 h2
  have hbl2 : b' < w.heap.size + 1 := by omega
  go_enter Tryz.func295, Tryz.ntmps295
  go_wp2_with fail
  have kp : ∀ (z : Addr) (v : Value), z.block < w.heap.size → w.cell? z = some v → ∀ W, Below (w.alloc (.cells #[.int .u8 0, .string nil8, .slice none 0 0] 25)).heap.size (w.alloc (.cells #[.int .u8 0, .string nil8, .slice none 0 0] 25)) W → W.cell? z = some v := fun z v hz hv W hW =>
    (hW.cell (by simp; omega)).trans (((Below.refl w.heap.size w).alloc (Nat.le_refl _) _).cell hz |>.trans hv)
  have KP := Aside.mk kp
  clear kp
  refine wp_region_mono 13 (by kernel_rfl) (by kernel_rfl) [fun v _ => v = .int .u8 q, fun v _ => v = fnV g1, fun v _ => v = .slice (some ⟨b', o', none⟩) n c, fun v _ => v = .pointer (some ⟨b', o', none⟩), fun v _ => v = fv op1 nm1 a1 n1 d1, trV (fun b => (X b ∧ b < w.heap.size) ∨ w.heap.size + 1 ≤ b) f',
      fun v _ => v = fnV g2, fun v _ => v = .slice (some ⟨b', o', none⟩) n c, fun v _ => v = .pointer (some ⟨b', o' + 3, none⟩), fun v _ => v = fv op2 nm2 a2 n2 d2, trV (fun b => (X b ∧ b < w.heap.size) ∨ w.heap.size + 1 ≤ b) g',
      slV (fun b => (X b ∧ b < w.heap.size) ∨ w.heap.size + 1 ≤ b) 2 [f', g'], trV (fun b => (X b ∧ b < w.heap.size) ∨ w.heap.size + 1 ≤ b) (Fm.mk q nil8 [f', g'])]
    ⟨stable_eq _, stable_eq _, stable_eq _, stable_eq _, stable_eq _, trV_stable _ _, stable_eq _, stable_eq _, stable_eq _, stable_eq _, trV_stable _ _, slV_stable _ _ _, trV_stable _ _, trivial⟩ ?_ ?_
  · simp only [List.take_succ_cons, List.take_zero]
    refine steps_cons ?_ (steps_cons ?_ (steps_cons ?_ (steps_cons ?_ (steps_cons ?_ (steps_cons ?_ (steps_cons ?_ (steps_cons ?_ (steps_cons ?_ (steps_cons ?_ (steps_cons ?_ (steps_cons ?_ (steps_cons ?_ steps_nil))))))))))))
    all_goals intro vals W hW hv; try simp only [Act.put, List.setIfInBounds_toArray, List.set_cons_zero, List.set_cons_succ]
    · have c0 := KP.out _ _ hB0 k0 W hW
      go_wp2_with fail
      exact ⟨rfl, _, rfl, (by repeat (first | (with_reducible exact Below.refl _ _) | (with_reducible assumption) | refine below_alloc ?_ _ | refine Below.drew ?_ | refine below_drewN ?_ _)), rfl⟩
    · have c0 := KP.out _ _ hB1 k1 W hW
      go_wp2_with fail
      exact ⟨rfl, _, rfl, (by repeat (first | (with_reducible exact Below.refl _ _) | (with_reducible assumption) | refine below_alloc ?_ _ | refine Below.drew ?_ | refine below_drewN ?_ _)), rfl⟩
    · go_wp2_with fail
      exact ⟨rfl, _, rfl, (by repeat (first | (with_reducible exact Below.refl _ _) | (with_reducible assumption) | refine below_alloc ?_ _ | refine Below.drew ?_ | refine below_drewN ?_ _)), rfl⟩
    · have e : vals 2 = .slice (some ⟨b', o', none⟩) n c := hv ⟨2, .data⟩ (by simp) rfl
      simp only [e]
      go_wp2_with fail
      exact ⟨rfl, _, rfl, (by repeat (first | (with_reducible exact Below.refl _ _) | (with_reducible assumption) | refine below_alloc ?_ _ | refine Below.drew ?_ | refine below_drewN ?_ _)), rfl⟩
    · have e : vals 3 = .pointer (some ⟨b', o', none⟩) := hv ⟨3, .data⟩ (by simp) rfl
      have c0 := KP.out _ _ hbl q0 W hW
      have c1 := KP.out _ _ hbl q1 W hW
      have c2 := KP.out _ _ hbl q2 W hW
      simp only [e]
      go_wp2_with fail
      exact ⟨rfl, _, rfl, (by repeat (first | (with_reducible exact Below.refl _ _) | (with_reducible assumption) | refine below_alloc ?_ _ | refine Below.drew ?_ | refine below_drewN ?_ _)), rfl⟩
    · have e1 : vals 1 = fnV g1 := hv ⟨1, .data⟩ (by simp) rfl
      have e4 : vals 4 = fv op1 nm1 a1 n1 d1 := hv ⟨4, .data⟩ (by simp) rfl
      simp only [e1, e4]
      go_wp2_with fail
      refine (H1.out W (below_to (below_alloc (Below.refl _ _) _) hW)).mono ?_
      rintro e w' ⟨o3, n3, a3, l3, d3, rfl, hT, hb⟩
      have HT := Aside.mk hT
      clear hT
      go_wp2_with fail
      exact ⟨rfl, _, rfl, hb, o3, n3, a3, l3, d3, rfl, HT.out.mono fun b hb _ => hb.elim .inl fun h => .inr (by have := hW.size; simp at this; omega)⟩
    · have c0 := KP.out _ _ hB2 k2 W hW
      go_wp2_with fail
      exact ⟨rfl, _, rfl, (by repeat (first | (with_reducible exact Below.refl _ _) | (with_reducible assumption) | refine below_alloc ?_ _ | refine Below.drew ?_ | refine below_drewN ?_ _)), rfl⟩
    · go_wp2_with fail
      exact ⟨rfl, _, rfl, (by repeat (first | (with_reducible exact Below.refl _ _) | (with_reducible assumption) | refine below_alloc ?_ _ | refine Below.drew ?_ | refine below_drewN ?_ _)), rfl⟩
    · have e : vals 7 = .slice (some ⟨b', o', none⟩) n c := hv ⟨7, .data⟩ (by simp) rfl
      simp only [e]
      go_wp2_with fail
      exact ⟨rfl, _, rfl, (by repeat (first | (with_reducible exact Below.refl _ _) | (with_reducible assumption) | refine below_alloc ?_ _ | refine Below.drew ?_ | refine below_drewN ?_ _)), rfl⟩
    · have e : vals 8 = .pointer (some ⟨b', o' + 3, none⟩) := hv ⟨8, .data⟩ (by simp) rfl
      have c0 := KP.out _ _ hbl p0 W hW
      have c1 := KP.out _ _ hbl p1 W hW
      have c2 := KP.out _ _ hbl p2 W hW
      simp only [e]
      go_wp2_with fail
      exact ⟨rfl, _, rfl, (by repeat (first | (with_reducible exact Below.refl _ _) | (with_reducible assumption) | refine below_alloc ?_ _ | refine Below.drew ?_ | refine below_drewN ?_ _)), rfl⟩
    · have e6 : vals 6 = fnV g2 := hv ⟨6, .data⟩ (by simp) rfl
      have e9 : vals 9 = fv op2 nm2 a2 n2 d2 := hv ⟨9, .data⟩ (by simp) rfl
      simp only [e6, e9]
      go_wp2_with fail
      refine (H2.out W (below_to (below_alloc (Below.refl _ _) _) hW)).mono ?_
      rintro e w' ⟨o3, n3, a3, l3, d3, rfl, hT, hb⟩
      have HT := Aside.mk hT
      clear hT
      go_wp2_with fail
      exact ⟨rfl, _, rfl, hb, o3, n3, a3, l3, d3, rfl, HT.out.mono fun b hb _ => hb.elim .inl fun h => .inr (by have := hW.size; simp at this; omega)⟩
    · obtain ⟨o0_, n0_, a0_, l0_, d0_, e0, h0⟩ : trV (fun b => (X b ∧ b < w.heap.size) ∨ w.heap.size + 1 ≤ b) f' (vals 5) W := hv ⟨5, .data⟩ (by simp) rfl
      have H0 := Aside.mk h0
      clear h0
      obtain ⟨o1_, n1_, a1_, l1_, d1_, e1, h1⟩ : trV (fun b => (X b ∧ b < w.heap.size) ∨ w.heap.size + 1 ≤ b) g' (vals 10) W := hv ⟨10, .data⟩ (by simp) rfl
      have H1 := Aside.mk h1
      clear h1
      simp only [e0, e1]
      clear hv
      go_wp2_with fail
      exact ⟨rfl, _, rfl, below_alloc (Below.refl _ _) _, W.heap.size, rfl, isS2 (.inr (by have := hW.size; simpa using this)) (by go_simp) (by go_simp) (by go_simp) (by go_simp) (by go_simp) (by go_simp) (H0.out.keep (below_alloc (Below.refl _ _) _)) (H1.out.keep (below_alloc (Below.refl _ _) _))⟩
    · have e0 : vals 0 = .int .u8 q := hv ⟨0, .data⟩ (by simp) rfl
      obtain ⟨b3, e, h3⟩ : slV (fun b => (X b ∧ b < w.heap.size) ∨ w.heap.size + 1 ≤ b) 2 [f', g'] (vals 11) W := hv ⟨11, .data⟩ (by simp) rfl
      have H3 := Aside.mk h3
      clear h3
      simp only [e0, e]
      clear hv
      go_wp2_with fail
      refine (of_c _ _ _ _ _).mono ?_
      rintro e w' ⟨rfl, hb⟩
      go_wp2_with fail
      exact ⟨rfl, _, rfl, hb, q, nil8, _, _, _, rfl, .of_parts hq0 hq1 (by decide) (H3.out.keep hb)⟩
  · intro vals W hW hv
    obtain ⟨o3, n3, a3, l3, d3, e, h3⟩ : trV (fun b => (X b ∧ b < w.heap.size) ∨ w.heap.size + 1 ≤ b) (Fm.mk q nil8 [f', g']) (vals 12) W := hv 12 (by omega)
    have HT := Aside.mk h3
    have r0 : W.cell? ⟨w.heap.size, 0, none⟩ = some (.int .u8 0) := cell_below hW (by go_simp)
    have r1 : W.cell? ⟨w.heap.size, 1, none⟩ = some (.string nil8) := cell_below hW (by go_simp)
    have r2 : W.cell? ⟨w.heap.size, 2, none⟩ = some (.slice none 0 0) := cell_below hW (by go_simp)
    have f0 : W.frozen? ⟨w.heap.size, 0, none⟩ = false := (hW.frozen (by simp)).trans (by go_simp)
    have f1 : W.frozen? ⟨w.heap.size, 1, none⟩ = false := (hW.frozen (by simp)).trans (by go_simp)
    have f2 : W.frozen? ⟨w.heap.size, 2, none⟩ = false := (hW.frozen (by simp)).trans (by go_simp)
    have HB : Aside (Below w.heap.size w W) := ⟨below_to (by repeat (first | (with_reducible exact Below.refl _ _) | (with_reducible assumption) | refine below_alloc ?_ _ | refine Below.drew ?_ | refine below_drewN ?_ _)) hW⟩
    clear hv h3
    simp only [List.take_succ_cons, List.take_zero, List.drop_succ_cons, List.drop_zero, lexL, Act.put, List.setIfInBounds_toArray, List.set_cons_zero, List.set_cons_succ, e]
    go_wp2_with fail
    refine bodyPost_ret (v := fv o3 n3 a3 l3 d3) (by simp [results, Tryz.results295, go_sem, r0, r1, r2]) rfl ?_
    exact RetX.at_ _ HT.out HB.out (by omega) (by omega) _ _ _
end Go.Proofs.YtmmakkaolknbaaaGreatDoor
