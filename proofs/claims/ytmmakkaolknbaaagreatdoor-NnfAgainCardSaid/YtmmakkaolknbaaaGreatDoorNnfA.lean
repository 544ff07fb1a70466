/- Contracts of nnf's makers: of, not, simpleNot. -/
import Derived.Test.YtmmakkaolknbaaaGreatDoorSame
import Derived.WalkSpells
namespace Go.Proofs.YtmmakkaolknbaaaGreatDoor
set_option linter.unusedVariables false
set_option linter.unusedSimpArgs false
open Go.RowKit Go.Shelf

abbrev nil8 : ByteArray := ⟨#[]⟩
abbrev T1 : Fm := .mk 1 nil8 []
abbrev F1 : Fm := .mk 2 nil8 []
def neg1 (f : Fm) : Fm := .mk 4 nil8 [f]

theorem of_c (op : Int) (a : Option Addr) (n c : Nat) (w : World) :
    Calls Tryz.prog 210 #[.int .u8 op, .slice a n c] w fun e w' => e = .returned (fv op nil8 a n c) ∧ Below w.heap.size w w' := by
  go_enter Tryz.func210, Tryz.ntmps210
  go_wp2_with fail
  refine bodyPost_ret (v := fv op nil8 a n c) (by simp [results, Tryz.results210, go_sem]) rfl ?_
  exact ⟨rfl, (by repeat (first | (with_reducible exact Below.refl _ _) | (with_reducible assumption) | refine below_alloc ?_ _ | refine Below.drew ?_ | refine below_drewN ?_ _))⟩

theorem RetX.at_ {X : Nat → Prop} {f : Fm} {w w2 : World} {op : Int} {nm : ByteArray} {a : Option Addr} {n c r : Nat} (N : Nat) (h : IsTX (fun b => (X b ∧ b < w.heap.size) ∨ N ≤ b) w2 op nm a n c f) (hb : Below w.heap.size w w2) (h1 : w.heap.size ≤ r) (h2 : r < N) (v0 v1 v2 : Value) :
    RetX X f w (.returned (fv op nm a n c)) (World.setCell (World.setCell (World.setCell w2 ⟨r, 0, none⟩ v0) ⟨r, 1, none⟩ v1) ⟨r, 2, none⟩ v2) :=
  ⟨op, nm, a, n, c, rfl, (h.set3 (r := r) (fun b hb => by rcases hb with ⟨_, h⟩ | h <;> omega) v0 v1 v2).mono (fun b hb _ => by rcases hb with ⟨h, _⟩ | h; exact .inl h; exact .inr (by omega)), below_set3 hb h1 v0 v1 v2⟩
/-- A tree that lay there, handed back. -/
theorem RetX.kept {X : Nat → Prop} {f : Fm} {w w2 : World} {op : Int} {nm : ByteArray} {a : Option Addr} {n c : Nat} (h : IsTX X w op nm a n c f) (hb : Below w.heap.size w w2) : RetX X f w (.returned (fv op nm a n c)) w2 :=
  ⟨op, nm, a, n, c, rfl, (h.keep hb).mono fun b hb _ => .inl hb, hb⟩
theorem RetX.leaf {X : Nat → Prop} {w w2 : World} {op : Int} {nm : ByteArray} {a : Option Addr} {c : Nat} (h0 : 0 ≤ op) (h1 : op ≤ 255) (h2 : nm.size ≤ 9223372036854775807) (h3 : c ≤ 9223372036854775807) (hb : Below w.heap.size w w2) : RetX X (.mk op nm []) w (.returned (fv op nm a 0 c)) w2 :=
  ⟨op, nm, a, 0, c, rfl, .leaf op nm a c h0 h1 h2 h3, hb⟩
theorem RetX.weak {X Y : Nat → Prop} {f : Fm} {w : World} {e : Ending} {w' : World} (h : RetX X f w e w') (hXY : ∀ b, X b → Y b ∨ w.heap.size ≤ b) : RetX Y f w e w' := by
  obtain ⟨op, nm, a, n, c, he, hT, hb⟩ := h
  exact ⟨op, nm, a, n, c, he, hT.mono (fun b hb _ => hb.elim (hXY b) .inr), hb⟩
/-- It was called in a later world. -/
theorem RetX.later {X : Nat → Prop} {f : Fm} {w W : World} {e : Ending} {w' : World} (h : RetX X f W e w') (hb : Below w.heap.size w W) : RetX X f w e w' := by
  obtain ⟨op, nm, a, n, c, he, hT, hb'⟩ := h
  have := hb.size
  exact ⟨op, nm, a, n, c, he, hT.mono (fun b hb _ => hb.elim .inl fun h => .inr (by omega)), below_to hb hb'⟩

theorem not_c {X : Nat → Prop} (f : Fm) (op : Int) (nm : ByteArray) (a : Option Addr) (n c : Nat) (w : World) (h : IsTX X w op nm a n c f) :
    Calls Tryz.prog 223 #[fv op nm a n c] w (RetX X (neg1 f) w) := by
  go_enter Tryz.func223, Tryz.ntmps223
  go_wp2_with fail
  refine (of_c _ _ _ _ _).mono ?_
  rintro e w2 ⟨rfl, hb2⟩
  have r0 : w2.cell? ⟨w.heap.size + 1, 0, none⟩ = some (.int .u8 0) := cell_below hb2 (by go_simp)
  have r1 : w2.cell? ⟨w.heap.size + 1, 1, none⟩ = some (.string nil8) := cell_below hb2 (by go_simp)
  have r2 : w2.cell? ⟨w.heap.size + 1, 2, none⟩ = some (.slice none 0 0) := cell_below hb2 (by go_simp)
  have f0 : w2.frozen? ⟨w.heap.size + 1, 0, none⟩ = false := (hb2.frozen (by simp)).trans (by go_simp)
  have f1 : w2.frozen? ⟨w.heap.size + 1, 1, none⟩ = false := (hb2.frozen (by simp)).trans (by go_simp)
  have f2 : w2.frozen? ⟨w.heap.size + 1, 2, none⟩ = false := (hb2.frozen (by simp)).trans (by go_simp)
  have hT : IsTX (fun b => (X b ∧ b < w.heap.size) ∨ (w.heap.size + 1 + 1) ≤ b) w2 4 nil8 (some ⟨w.heap.size + 1 + 1, 0, none⟩) 1 1 (neg1 f) :=
    .of_parts (by omega) (by omega) (by decide) (isS1 (.inr (Nat.le_refl _)) (cell_below hb2 (by go_simp)) (cell_below hb2 (by go_simp)) (cell_below hb2 (by go_simp)) ((h.old.keep (below_to (by repeat (first | (with_reducible exact Below.refl _ _) | (with_reducible assumption) | refine below_alloc ?_ _ | refine Below.drew ?_ | refine below_drewN ?_ _)) hb2)).mono fun b hb _ => .inl hb))
  have HT := Aside.mk hT
  have HB : Aside (Below w.heap.size w w2) := ⟨below_to (by repeat (first | (with_reducible exact Below.refl _ _) | (with_reducible assumption) | refine below_alloc ?_ _ | refine Below.drew ?_ | refine below_drewN ?_ _)) hb2⟩
  clear hT hb2 h
  go_wp2_with fail
  refine bodyPost_ret (v := fv 4 nil8 (some ⟨w.heap.size + 1 + 1, 0, none⟩) 1 1) (by simp [results, Tryz.results223, go_sem, r0, r1, r2]) rfl ?_
  exact RetX.at_ (w.heap.size + 1 + 1) HT.out HB.out (by omega) (by omega) _ _ _

def Fm.sNot (f : Fm) : Fm := if f.op = 1 then F1 else if f.op = 2 then T1 else if f.op = 4 then f.k0 else neg1 f

set_option maxHeartbeats 1000000 in
theorem simpleNot_c {X : Nat → Prop} (f : Fm) (op : Int) (nm : ByteArray) (a : Option Addr) (n c : Nat) (w : World) (h : IsTX X w op nm a n c f) (hk : op = 4 → 0 < n) :
    Calls Tryz.prog 200 #[fv op nm a n c] w (RetX X f.sNot w) := by
  obtain ⟨h0, h1, h2, ks, rfl, hS⟩ := h.parts
  by_cases c1 : op = 1
  · have hE : (Fm.mk op nm ks).sNot = F1 := by simp [Fm.sNot, c1]
    rw [hE]
    have c1' : (op == 1) = true := by simp [c1]
    clear hE c1 h hS hk
    go_enter Tryz.func200, Tryz.ntmps200
    go_wp2_with fail
    refine (of_c _ _ _ _ _).mono ?_
    rintro e w2 ⟨rfl, hb2⟩
    have r0 : w2.cell? ⟨w.heap.size + 1, 0, none⟩ = some (.int .u8 0) := cell_below hb2 (by go_simp)
    have r1 : w2.cell? ⟨w.heap.size + 1, 1, none⟩ = some (.string nil8) := cell_below hb2 (by go_simp)
    have r2 : w2.cell? ⟨w.heap.size + 1, 2, none⟩ = some (.slice none 0 0) := cell_below hb2 (by go_simp)
    have f0 : w2.frozen? ⟨w.heap.size + 1, 0, none⟩ = false := (hb2.frozen (by simp)).trans (by go_simp)
    have f1 : w2.frozen? ⟨w.heap.size + 1, 1, none⟩ = false := (hb2.frozen (by simp)).trans (by go_simp)
    have f2 : w2.frozen? ⟨w.heap.size + 1, 2, none⟩ = false := (hb2.frozen (by simp)).trans (by go_simp)
    have HB : Aside (Below w.heap.size w w2) := ⟨below_to (by repeat (first | (with_reducible exact Below.refl _ _) | (with_reducible assumption) | refine below_alloc ?_ _ | refine Below.drew ?_ | refine below_drewN ?_ _)) hb2⟩
    clear hb2
    go_wp2_with fail
    refine bodyPost_ret (v := fv 2 nil8 none 0 0) (by simp [results, Tryz.results200, go_sem, r0, r1, r2]) rfl ?_
    exact RetX.leaf (by omega) (by omega) (by decide) (by omega) (below_set3 HB.out (by omega) _ _ _)
  · by_cases c2 : op = 2
    · have hE : (Fm.mk op nm ks).sNot = T1 := by simp [Fm.sNot, c2]
      rw [hE]
      have c1' : (op == 1) = false := by simp [c1]
      have c2' : (op == 2) = true := by simp [c2]
      clear hE c1 c2 h hS hk
      go_enter Tryz.func200, Tryz.ntmps200
      go_wp2_with fail
      refine (of_c _ _ _ _ _).mono ?_
      rintro e w2 ⟨rfl, hb2⟩
      have r0 : w2.cell? ⟨w.heap.size + 1, 0, none⟩ = some (.int .u8 0) := cell_below hb2 (by go_simp)
      have r1 : w2.cell? ⟨w.heap.size + 1, 1, none⟩ = some (.string nil8) := cell_below hb2 (by go_simp)
      have r2 : w2.cell? ⟨w.heap.size + 1, 2, none⟩ = some (.slice none 0 0) := cell_below hb2 (by go_simp)
      have f0 : w2.frozen? ⟨w.heap.size + 1, 0, none⟩ = false := (hb2.frozen (by simp)).trans (by go_simp)
      have f1 : w2.frozen? ⟨w.heap.size + 1, 1, none⟩ = false := (hb2.frozen (by simp)).trans (by go_simp)
      have f2 : w2.frozen? ⟨w.heap.size + 1, 2, none⟩ = false := (hb2.frozen (by simp)).trans (by go_simp)
      have HB : Aside (Below w.heap.size w w2) := ⟨below_to (by repeat (first | (with_reducible exact Below.refl _ _) | (with_reducible assumption) | refine below_alloc ?_ _ | refine Below.drew ?_ | refine below_drewN ?_ _)) hb2⟩
      clear hb2
      go_wp2_with fail
      refine bodyPost_ret (v := fv 1 nil8 none 0 0) (by simp [results, Tryz.results200, go_sem, r0, r1, r2]) rfl ?_
      exact RetX.leaf (by omega) (by omega) (by decide) (by omega) (below_set3 HB.out (by omega) _ _ _)
    · have c1' : (op == 1) = false := by simp [c1]
      have c2' : (op == 2) = false := by simp [c2]
      by_cases c4 : op = 4
      · have hn := hk c4
        have c4' : (op == 4) = true := by simp [c4]
        obtain ⟨b, o, rfl, hbl, x, op1, nm1, a1, n1, d1, X', q0, q1, q2, hT1⟩ := hS.at_ 0 hn
        have hE : (Fm.mk op nm ks).sNot = x := by
          rw [← ith0 X' op nm]
          simp [Fm.sNot, c1, c2, c4]
        rw [hE]
        simp only [Nat.zero_mul, Nat.add_zero] at q0 q1 q2
        have hnl : (0 : Int) < (n : Int) := by omega
        have HT := Aside.mk hT1
        clear hE c1 c2 c4 h hS hk X' hT1
        go_enter Tryz.func200, Tryz.ntmps200
        go_wp2_with fail
        refine bodyPost_ret (v := fv op1 nm1 a1 n1 d1) (by simp [results, Tryz.results200, go_sem]) rfl ?_
        exact RetX.kept HT.out (by repeat (first | (with_reducible exact Below.refl _ _) | (with_reducible assumption) | refine below_alloc ?_ _ | refine Below.drew ?_ | refine below_drewN ?_ _))
      · have c4' : (op == 4) = false := by simp [c4]
        have hE : (Fm.mk op nm ks).sNot = neg1 (.mk op nm ks) := by simp [Fm.sNot, c1, c2, c4]
        rw [hE]
        have HC := Aside.mk (fun W (hW : Below w.heap.size w W) => not_c (.mk op nm ks) op nm a n c W (h.old.keep hW))
        clear hE c1 c2 c4 h hS hk
        go_enter Tryz.func200, Tryz.ntmps200
        go_wp2_with fail
        refine (HC.out _ (by repeat (first | (with_reducible exact Below.refl _ _) | (with_reducible assumption) | refine below_alloc ?_ _ | refine Below.drew ?_ | refine below_drewN ?_ _))).mono ?_
        rintro e w2 ⟨op2, nm2, a2, n2, d2, rfl, hT, hb2⟩
        have r0 : w2.cell? ⟨w.heap.size + 1, 0, none⟩ = some (.int .u8 0) := cell_below hb2 (by go_simp)
        have r1 : w2.cell? ⟨w.heap.size + 1, 1, none⟩ = some (.string nil8) := cell_below hb2 (by go_simp)
        have r2 : w2.cell? ⟨w.heap.size + 1, 2, none⟩ = some (.slice none 0 0) := cell_below hb2 (by go_simp)
        have f0 : w2.frozen? ⟨w.heap.size + 1, 0, none⟩ = false := (hb2.frozen (by simp)).trans (by go_simp)
        have f1 : w2.frozen? ⟨w.heap.size + 1, 1, none⟩ = false := (hb2.frozen (by simp)).trans (by go_simp)
        have f2 : w2.frozen? ⟨w.heap.size + 1, 2, none⟩ = false := (hb2.frozen (by simp)).trans (by go_simp)
        have HT := Aside.mk hT
        have HB : Aside (Below w.heap.size w w2) := ⟨below_to (by repeat (first | (with_reducible exact Below.refl _ _) | (with_reducible assumption) | refine below_alloc ?_ _ | refine Below.drew ?_ | refine below_drewN ?_ _)) hb2⟩
        clear hb2 hT HC
        go_wp2_with fail
        refine bodyPost_ret (v := fv op2 nm2 a2 n2 d2) (by simp [results, Tryz.results200, go_sem, r0, r1, r2]) rfl ?_
        exact RetX.at_ _ HT.out HB.out (by omega) (by simp) _ _ _
end Go.Proofs.YtmmakkaolknbaaaGreatDoor
