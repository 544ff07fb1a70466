/- Contracts of the function literals in nnf's table of rules, printed by gen_rules.py. -/
import Derived.Test.YtmmakkaolknbaaaGreatDoorNnfD
import Derived.Test.YtmmakkaolknbaaaGreatDoorNnfE
import Derived.Test.YtmmakkaolknbaaaGreatDoorNnfF
import Derived.Test.YtmmakkaolknbaaaGreatDoorNnfG
import Derived.Test.YtmmakkaolknbaaaGreatDoorNnfH
import Derived.Test.YtmmakkaolknbaaaGreatDoorNnfI
import Derived.StillTailTactics
namespace Go.Proofs.YtmmakkaolknbaaaGreatDoor
set_option linter.unusedVariables false
set_option linter.unusedSimpArgs false
open Go.RowKit Go.Shelf

/-- As many kids as the rules look at. -/
def Fm.ar (f : Fm) : Prop := ArOk f.op f.ks.length
theorem ar_of {X : Nat → Prop} {w : World} {op : Int} {nm : ByteArray} {a : Option Addr} {n c : Nat} {f : Fm} (h : IsTX X w op nm a n c f) (hf : f.ar) : ArOk op n := by
  obtain ⟨_, _, _, ks, rfl, hS⟩ := h.parts
  have := hS.1
  subst this
  exact hf

set_option maxHeartbeats 1000000 in
theorem rule1_c {X : Nat → Prop} (f : Fm) (a : Option Addr) (n c : Nat) (w : World) (hS : IsSX X w a n c [f]) (hf : f.ar) :
    Calls Tryz.prog 199 #[.slice a n c] w (RetX X (f.sNot) w) := by
  obtain ⟨b, o, rfl, hbl, x, op1, nm1, a1, n1, d1, X1, q0, q1, q2, hT1⟩ := hS.at_ 0 (by have := hS.1; simp at this; omega)
  obtain rfl : x = f := by have := X1.get; simp at this; exact this.symm
  simp only [Nat.zero_mul, Nat.add_zero] at q0 q1 q2
  have hnl : (0 : Int) < (n : Int) := by have := hS.1; simp at this; omega
  have hA := ar_of hT1 hf
  have HL := Aside.mk (fun W (hW : Below w.heap.size w W) => simpleNot_c x op1 nm1 a1 n1 d1 W (hT1.old.keep hW) hA.1)
  clear hS hf hT1 hA X1
  go_enter Tryz.func199, Tryz.ntmps199
  go_wp2_with fail
  refine (HL.out _ (by repeat (first | (with_reducible exact Below.refl _ _) | (with_reducible assumption) | refine below_alloc ?_ _ | refine Below.drew ?_ | refine below_drewN ?_ _))).mono ?_
  rintro e v2 ⟨o3, n3, a3, l3, d3, rfl, hT, hb⟩
  have r0 : v2.cell? ⟨w.heap.size, 0, none⟩ = some (.int .u8 0) := cell_below hb (by go_simp)
  have r1 : v2.cell? ⟨w.heap.size, 1, none⟩ = some (.string nil8) := cell_below hb (by go_simp)
  have r2 : v2.cell? ⟨w.heap.size, 2, none⟩ = some (.slice none 0 0) := cell_below hb (by go_simp)
  have f0 : v2.frozen? ⟨w.heap.size, 0, none⟩ = false := (hb.frozen (by simp)).trans (by go_simp)
  have f1 : v2.frozen? ⟨w.heap.size, 1, none⟩ = false := (hb.frozen (by simp)).trans (by go_simp)
  have f2 : v2.frozen? ⟨w.heap.size, 2, none⟩ = false := (hb.frozen (by simp)).trans (by go_simp)
  have HT := Aside.mk hT
  have HB' : Aside (Below w.heap.size w v2) := ⟨below_to (by repeat (first | (with_reducible exact Below.refl _ _) | (with_reducible assumption) | refine below_alloc ?_ _ | refine Below.drew ?_ | refine below_drewN ?_ _)) hb⟩
  clear hT HL hb
  go_wp2_with fail
  refine bodyPost_ret (v := fv o3 n3 a3 l3 d3) (by simp [results, Tryz.results199, go_sem, r0, r1, r2]) rfl ?_
  exact RetX.at_ _ HT.out HB'.out (by omega) (by simp) _ _ _

set_option maxRecDepth 100000 in
set_option maxHeartbeats 2000000 in
theorem rule2_c {X : Nat → Prop} (f g : Fm) (a : Option Addr) (n c : Nat) (w : World) (hS : IsSX X w a n c [f, g]) (hf : f.ar) (hg : g.ar) :
    Calls Tryz.prog 201 #[.slice a n c] w (RetX X (lat 5 2 1 6 f g) w) := by
  obtain ⟨b, o, rfl, hbl, x, op1, nm1, a1, n1, d1, X1, q0, q1, q2, hT1⟩ := hS.at_ 0 (by have := hS.1; simp at this; omega)
  obtain rfl : x = f := by have := X1.get; simp at this; exact this.symm
  obtain ⟨b', o', e', hbl', y, op2, nm2, a2, n2, d2, X2, p0, p1, p2, hT2⟩ := hS.at_ 1 (by have := hS.1; simp at this; omega)
  obtain rfl : y = g := by have := X2.get; simp at this; exact this.symm
  obtain ⟨rfl, rfl⟩ : b' = b ∧ o' = o := by cases e'; exact ⟨rfl, rfl⟩
  simp only [Nat.zero_mul, Nat.add_zero, Nat.one_mul] at q0 q1 q2 p0 p1 p2
  have hnl : (0 : Int) < (n : Int) := by have := hS.1; simp at this; omega
  have hnl1 : (1 : Int) < (n : Int) := by have := hS.1; simp at this; omega
  have hn0 : 0 < n := by omega
  have hn1 : 1 < n := by omega
  have HL := Aside.mk (fun W (hW : Below w.heap.size w W) => lat5_c x y op1 nm1 a1 n1 d1 op2 nm2 a2 n2 d2 W (hT1.old.keep hW) (hT2.old.keep hW) (ar_of hT1 hf) (ar_of hT2 hg))
  clear hS hf hg hT1 hT2 X1 X2 e'
  go_enter Tryz.func201, Tryz.ntmps201
  go_wp2_with fail
  refine still_tail 6 (by kernel_rfl) (by kernel_rfl) ?_
  simp only [List.take_succ_cons, List.take_zero, List.drop_succ_cons, List.drop_zero]
  iterate 6 still_step
  refine wpStill_nil ?_
  go_wp2_with fail
  refine (HL.out _ (by repeat (first | (with_reducible exact Below.refl _ _) | (with_reducible assumption) | refine below_alloc ?_ _ | refine Below.drew ?_ | refine below_drewN ?_ _))).mono ?_
  rintro e v2 ⟨o3, n3, a3, l3, d3, rfl, hT, hb⟩
  have r0 : v2.cell? ⟨w.heap.size, 0, none⟩ = some (.int .u8 0) := cell_below hb (by go_simp)
  have r1 : v2.cell? ⟨w.heap.size, 1, none⟩ = some (.string nil8) := cell_below hb (by go_simp)
  have r2 : v2.cell? ⟨w.heap.size, 2, none⟩ = some (.slice none 0 0) := cell_below hb (by go_simp)
  have f0 : v2.frozen? ⟨w.heap.size, 0, none⟩ = false := (hb.frozen (by simp)).trans (by go_simp)
  have f1 : v2.frozen? ⟨w.heap.size, 1, none⟩ = false := (hb.frozen (by simp)).trans (by go_simp)
  have f2 : v2.frozen? ⟨w.heap.size, 2, none⟩ = false := (hb.frozen (by simp)).trans (by go_simp)
  have HT := Aside.mk hT
  have HB' : Aside (Below w.heap.size w v2) := ⟨below_to (by repeat (first | (with_reducible exact Below.refl _ _) | (with_reducible assumption) | refine below_alloc ?_ _ | refine Below.drew ?_ | refine below_drewN ?_ _)) hb⟩
  clear hT HL hb
  go_wp2_with fail
  refine bodyPost_ret (v := fv o3 n3 a3 l3 d3) (by simp [results, Tryz.results201, go_sem, r0, r1, r2]) rfl ?_
  exact RetX.at_ _ HT.out HB'.out (by omega) (by simp) _ _ _

set_option maxRecDepth 100000 in
set_option maxHeartbeats 2000000 in
theorem rule3_c {X : Nat → Prop} (f g : Fm) (a : Option Addr) (n c : Nat) (w : World) (hS : IsSX X w a n c [f, g]) (hf : f.ar) (hg : g.ar) :
    Calls Tryz.prog 203 #[.slice a n c] w (RetX X (lat 6 1 2 5 f g) w) := by
  obtain ⟨b, o, rfl, hbl, x, op1, nm1, a1, n1, d1, X1, q0, q1, q2, hT1⟩ := hS.at_ 0 (by have := hS.1; simp at this; omega)
  obtain rfl : x = f := by have := X1.get; simp at this; exact this.symm
  obtain ⟨b', o', e', hbl', y, op2, nm2, a2, n2, d2, X2, p0, p1, p2, hT2⟩ := hS.at_ 1 (by have := hS.1; simp at this; omega)
  obtain rfl : y = g := by have := X2.get; simp at this; exact this.symm
  obtain ⟨rfl, rfl⟩ : b' = b ∧ o' = o := by cases e'; exact ⟨rfl, rfl⟩
  simp only [Nat.zero_mul, Nat.add_zero, Nat.one_mul] at q0 q1 q2 p0 p1 p2
  have hnl : (0 : Int) < (n : Int) := by have := hS.1; simp at this; omega
  have hnl1 : (1 : Int) < (n : Int) := by have := hS.1; simp at this; omega
  have hn0 : 0 < n := by omega
  have hn1 : 1 < n := by omega
  have HL := Aside.mk (fun W (hW : Below w.heap.size w W) => lat6_c x y op1 nm1 a1 n1 d1 op2 nm2 a2 n2 d2 W (hT1.old.keep hW) (hT2.old.keep hW) (ar_of hT1 hf) (ar_of hT2 hg))
  clear hS hf hg hT1 hT2 X1 X2 e'
  go_enter Tryz.func203, Tryz.ntmps203
  go_wp2_with fail
  refine still_tail 6 (by kernel_rfl) (by kernel_rfl) ?_
  simp only [List.take_succ_cons, List.take_zero, List.drop_succ_cons, List.drop_zero]
  iterate 6 still_step
  refine wpStill_nil ?_
  go_wp2_with fail
  refine (HL.out _ (by repeat (first | (with_reducible exact Below.refl _ _) | (with_reducible assumption) | refine below_alloc ?_ _ | refine Below.drew ?_ | refine below_drewN ?_ _))).mono ?_
  rintro e v2 ⟨o3, n3, a3, l3, d3, rfl, hT, hb⟩
  have r0 : v2.cell? ⟨w.heap.size, 0, none⟩ = some (.int .u8 0) := cell_below hb (by go_simp)
  have r1 : v2.cell? ⟨w.heap.size, 1, none⟩ = some (.string nil8) := cell_below hb (by go_simp)
  have r2 : v2.cell? ⟨w.heap.size, 2, none⟩ = some (.slice none 0 0) := cell_below hb (by go_simp)
  have f0 : v2.frozen? ⟨w.heap.size, 0, none⟩ = false := (hb.frozen (by simp)).trans (by go_simp)
  have f1 : v2.frozen? ⟨w.heap.size, 1, none⟩ = false := (hb.frozen (by simp)).trans (by go_simp)
  have f2 : v2.frozen? ⟨w.heap.size, 2, none⟩ = false := (hb.frozen (by simp)).trans (by go_simp)
  have HT := Aside.mk hT
  have HB' : Aside (Below w.heap.size w v2) := ⟨below_to (by repeat (first | (with_reducible exact Below.refl _ _) | (with_reducible assumption) | refine below_alloc ?_ _ | refine Below.drew ?_ | refine below_drewN ?_ _)) hb⟩
  clear hT HL hb
  go_wp2_with fail
  refine bodyPost_ret (v := fv o3 n3 a3 l3 d3) (by simp [results, Tryz.results203, go_sem, r0, r1, r2]) rfl ?_
  exact RetX.at_ _ HT.out HB'.out (by omega) (by simp) _ _ _

set_option maxRecDepth 100000 in
set_option maxHeartbeats 2000000 in
theorem rule4_c {X : Nat → Prop} (f g : Fm) (a : Option Addr) (n c : Nat) (w : World) (hS : IsSX X w a n c [f, g]) (hf : f.ar) (hg : g.ar) :
    Calls Tryz.prog 204 #[.slice a n c] w (RetX X (sImp f g) w) := by
  obtain ⟨b, o, rfl, hbl, x, op1, nm1, a1, n1, d1, X1, q0, q1, q2, hT1⟩ := hS.at_ 0 (by have := hS.1; simp at this; omega)
  obtain rfl : x = f := by have := X1.get; simp at this; exact this.symm
  obtain ⟨b', o', e', hbl', y, op2, nm2, a2, n2, d2, X2, p0, p1, p2, hT2⟩ := hS.at_ 1 (by have := hS.1; simp at this; omega)
  obtain rfl : y = g := by have := X2.get; simp at this; exact this.symm
  obtain ⟨rfl, rfl⟩ : b' = b ∧ o' = o := by cases e'; exact ⟨rfl, rfl⟩
  simp only [Nat.zero_mul, Nat.add_zero, Nat.one_mul] at q0 q1 q2 p0 p1 p2
  have hnl : (0 : Int) < (n : Int) := by have := hS.1; simp at this; omega
  have hnl1 : (1 : Int) < (n : Int) := by have := hS.1; simp at this; omega
  have hn0 : 0 < n := by omega
  have hn1 : 1 < n := by omega
  have HL := Aside.mk (fun W (hW : Below w.heap.size w W) => imp_c x y op1 nm1 a1 n1 d1 op2 nm2 a2 n2 d2 W (hT1.old.keep hW) (hT2.old.keep hW) (ar_of hT1 hf) (ar_of hT2 hg))
  clear hS hf hg hT1 hT2 X1 X2 e'
  go_enter Tryz.func204, Tryz.ntmps204
  go_wp2_with fail
  refine still_tail 6 (by kernel_rfl) (by kernel_rfl) ?_
  simp only [List.take_succ_cons, List.take_zero, List.drop_succ_cons, List.drop_zero]
  iterate 6 still_step
  refine wpStill_nil ?_
  go_wp2_with fail
  refine (HL.out _ (by repeat (first | (with_reducible exact Below.refl _ _) | (with_reducible assumption) | refine below_alloc ?_ _ | refine Below.drew ?_ | refine below_drewN ?_ _))).mono ?_
  rintro e v2 ⟨o3, n3, a3, l3, d3, rfl, hT, hb⟩
  have r0 : v2.cell? ⟨w.heap.size, 0, none⟩ = some (.int .u8 0) := cell_below hb (by go_simp)
  have r1 : v2.cell? ⟨w.heap.size, 1, none⟩ = some (.string nil8) := cell_below hb (by go_simp)
  have r2 : v2.cell? ⟨w.heap.size, 2, none⟩ = some (.slice none 0 0) := cell_below hb (by go_simp)
  have f0 : v2.frozen? ⟨w.heap.size, 0, none⟩ = false := (hb.frozen (by simp)).trans (by go_simp)
  have f1 : v2.frozen? ⟨w.heap.size, 1, none⟩ = false := (hb.frozen (by simp)).trans (by go_simp)
  have f2 : v2.frozen? ⟨w.heap.size, 2, none⟩ = false := (hb.frozen (by simp)).trans (by go_simp)
  have HT := Aside.mk hT
  have HB' : Aside (Below w.heap.size w v2) := ⟨below_to (by repeat (first | (with_reducible exact Below.refl _ _) | (with_reducible assumption) | refine below_alloc ?_ _ | refine Below.drew ?_ | refine below_drewN ?_ _)) hb⟩
  clear hT HL hb
  go_wp2_with fail
  refine bodyPost_ret (v := fv o3 n3 a3 l3 d3) (by simp [results, Tryz.results204, go_sem, r0, r1, r2]) rfl ?_
  exact RetX.at_ _ HT.out HB'.out (by omega) (by simp) _ _ _

set_option maxRecDepth 100000 in
set_option maxHeartbeats 2000000 in
theorem rule5_c {X : Nat → Prop} (f g : Fm) (a : Option Addr) (n c : Nat) (w : World) (hS : IsSX X w a n c [f, g]) (hf : f.ar) (hg : g.ar) :
    Calls Tryz.prog 206 #[.slice a n c] w (RetX X (sIff f g) w) := by
  obtain ⟨b, o, rfl, hbl, x, op1, nm1, a1, n1, d1, X1, q0, q1, q2, hT1⟩ := hS.at_ 0 (by have := hS.1; simp at this; omega)
  obtain rfl : x = f := by have := X1.get; simp at this; exact this.symm
  obtain ⟨b', o', e', hbl', y, op2, nm2, a2, n2, d2, X2, p0, p1, p2, hT2⟩ := hS.at_ 1 (by have := hS.1; simp at this; omega)
  obtain rfl : y = g := by have := X2.get; simp at this; exact this.symm
  obtain ⟨rfl, rfl⟩ : b' = b ∧ o' = o := by cases e'; exact ⟨rfl, rfl⟩
  simp only [Nat.zero_mul, Nat.add_zero, Nat.one_mul] at q0 q1 q2 p0 p1 p2
  have hnl : (0 : Int) < (n : Int) := by have := hS.1; simp at this; omega
  have hnl1 : (1 : Int) < (n : Int) := by have := hS.1; simp at this; omega
  have hn0 : 0 < n := by omega
  have hn1 : 1 < n := by omega
  have HL := Aside.mk (fun W (hW : Below w.heap.size w W) => iff_c x y op1 nm1 a1 n1 d1 op2 nm2 a2 n2 d2 W (hT1.old.keep hW) (hT2.old.keep hW) (ar_of hT1 hf) (ar_of hT2 hg))
  clear hS hf hg hT1 hT2 X1 X2 e'
  go_enter Tryz.func206, Tryz.ntmps206
  go_wp2_with fail
  refine still_tail 6 (by kernel_rfl) (by kernel_rfl) ?_
  simp only [List.take_succ_cons, List.take_zero, List.drop_succ_cons, List.drop_zero]
  iterate 6 still_step
  refine wpStill_nil ?_
  go_wp2_with fail
  refine (HL.out _ (by repeat (first | (with_reducible exact Below.refl _ _) | (with_reducible assumption) | refine below_alloc ?_ _ | refine Below.drew ?_ | refine below_drewN ?_ _))).mono ?_
  rintro e v2 ⟨o3, n3, a3, l3, d3, rfl, hT, hb⟩
  have r0 : v2.cell? ⟨w.heap.size, 0, none⟩ = some (.int .u8 0) := cell_below hb (by go_simp)
  have r1 : v2.cell? ⟨w.heap.size, 1, none⟩ = some (.string nil8) := cell_below hb (by go_simp)
  have r2 : v2.cell? ⟨w.heap.size, 2, none⟩ = some (.slice none 0 0) := cell_below hb (by go_simp)
  have f0 : v2.frozen? ⟨w.heap.size, 0, none⟩ = false := (hb.frozen (by simp)).trans (by go_simp)
  have f1 : v2.frozen? ⟨w.heap.size, 1, none⟩ = false := (hb.frozen (by simp)).trans (by go_simp)
  have f2 : v2.frozen? ⟨w.heap.size, 2, none⟩ = false := (hb.frozen (by simp)).trans (by go_simp)
  have HT := Aside.mk hT
  have HB' : Aside (Below w.heap.size w v2) := ⟨below_to (by repeat (first | (with_reducible exact Below.refl _ _) | (with_reducible assumption) | refine below_alloc ?_ _ | refine Below.drew ?_ | refine below_drewN ?_ _)) hb⟩
  clear hT HL hb
  go_wp2_with fail
  refine bodyPost_ret (v := fv o3 n3 a3 l3 d3) (by simp [results, Tryz.results206, go_sem, r0, r1, r2]) rfl ?_
  exact RetX.at_ _ HT.out HB'.out (by omega) (by simp) _ _ _

set_option maxHeartbeats 1000000 in
theorem rule7_c {X : Nat → Prop} (f : Fm) (a : Option Addr) (n c : Nat) (w : World) (hS : IsSX X w a n c [f]) (hf : f.ar) :
    Calls Tryz.prog 211 #[.slice a n c] w (RetX X (f.sAlways 10) w) := by
  obtain ⟨b, o, rfl, hbl, x, op1, nm1, a1, n1, d1, X1, q0, q1, q2, hT1⟩ := hS.at_ 0 (by have := hS.1; simp at this; omega)
  obtain rfl : x = f := by have := X1.get; simp at this; exact this.symm
  simp only [Nat.zero_mul, Nat.add_zero] at q0 q1 q2
  have hnl : (0 : Int) < (n : Int) := by have := hS.1; simp at this; omega
  have hA := ar_of hT1 hf
  have HL := Aside.mk (fun W (hW : Below w.heap.size w W) => always_c 10 (by omega) x op1 nm1 a1 n1 d1 W (hT1.old.keep hW) (fun h => hA.2.2.2.2 (by omega)))
  clear hS hf hT1 hA X1
  go_enter Tryz.func211, Tryz.ntmps211
  go_wp2_with fail
  refine (HL.out _ (by repeat (first | (with_reducible exact Below.refl _ _) | (with_reducible assumption) | refine below_alloc ?_ _ | refine Below.drew ?_ | refine below_drewN ?_ _))).mono ?_
  rintro e v2 ⟨o3, n3, a3, l3, d3, rfl, hT, hb⟩
  have r0 : v2.cell? ⟨w.heap.size, 0, none⟩ = some (.int .u8 0) := cell_below hb (by go_simp)
  have r1 : v2.cell? ⟨w.heap.size, 1, none⟩ = some (.string nil8) := cell_below hb (by go_simp)
  have r2 : v2.cell? ⟨w.heap.size, 2, none⟩ = some (.slice none 0 0) := cell_below hb (by go_simp)
  have f0 : v2.frozen? ⟨w.heap.size, 0, none⟩ = false := (hb.frozen (by simp)).trans (by go_simp)
  have f1 : v2.frozen? ⟨w.heap.size, 1, none⟩ = false := (hb.frozen (by simp)).trans (by go_simp)
  have f2 : v2.frozen? ⟨w.heap.size, 2, none⟩ = false := (hb.frozen (by simp)).trans (by go_simp)
  have HT := Aside.mk hT
  have HB' : Aside (Below w.heap.size w v2) := ⟨below_to (by repeat (first | (with_reducible exact Below.refl _ _) | (with_reducible assumption) | refine below_alloc ?_ _ | refine Below.drew ?_ | refine below_drewN ?_ _)) hb⟩
  clear hT HL hb
  go_wp2_with fail
  refine bodyPost_ret (v := fv o3 n3 a3 l3 d3) (by simp [results, Tryz.results211, go_sem, r0, r1, r2]) rfl ?_
  exact RetX.at_ _ HT.out HB'.out (by omega) (by simp) _ _ _

set_option maxHeartbeats 1000000 in
theorem rule8_c {X : Nat → Prop} (f : Fm) (a : Option Addr) (n c : Nat) (w : World) (hS : IsSX X w a n c [f]) (hf : f.ar) :
    Calls Tryz.prog 213 #[.slice a n c] w (RetX X (f.sAlways 11) w) := by
  obtain ⟨b, o, rfl, hbl, x, op1, nm1, a1, n1, d1, X1, q0, q1, q2, hT1⟩ := hS.at_ 0 (by have := hS.1; simp at this; omega)
  obtain rfl : x = f := by have := X1.get; simp at this; exact this.symm
  simp only [Nat.zero_mul, Nat.add_zero] at q0 q1 q2
  have hnl : (0 : Int) < (n : Int) := by have := hS.1; simp at this; omega
  have hA := ar_of hT1 hf
  have HL := Aside.mk (fun W (hW : Below w.heap.size w W) => always_c 11 (by omega) x op1 nm1 a1 n1 d1 W (hT1.old.keep hW) (fun h => hA.2.2.2.1 (by omega)))
  clear hS hf hT1 hA X1
  go_enter Tryz.func213, Tryz.ntmps213
  go_wp2_with fail
  refine (HL.out _ (by repeat (first | (with_reducible exact Below.refl _ _) | (with_reducible assumption) | refine below_alloc ?_ _ | refine Below.drew ?_ | refine below_drewN ?_ _))).mono ?_
  rintro e v2 ⟨o3, n3, a3, l3, d3, rfl, hT, hb⟩
  have r0 : v2.cell? ⟨w.heap.size, 0, none⟩ = some (.int .u8 0) := cell_below hb (by go_simp)
  have r1 : v2.cell? ⟨w.heap.size, 1, none⟩ = some (.string nil8) := cell_below hb (by go_simp)
  have r2 : v2.cell? ⟨w.heap.size, 2, none⟩ = some (.slice none 0 0) := cell_below hb (by go_simp)
  have f0 : v2.frozen? ⟨w.heap.size, 0, none⟩ = false := (hb.frozen (by simp)).trans (by go_simp)
  have f1 : v2.frozen? ⟨w.heap.size, 1, none⟩ = false := (hb.frozen (by simp)).trans (by go_simp)
  have f2 : v2.frozen? ⟨w.heap.size, 2, none⟩ = false := (hb.frozen (by simp)).trans (by go_simp)
  have HT := Aside.mk hT
  have HB' : Aside (Below w.heap.size w v2) := ⟨below_to (by repeat (first | (with_reducible exact Below.refl _ _) | (with_reducible assumption) | refine below_alloc ?_ _ | refine Below.drew ?_ | refine below_drewN ?_ _)) hb⟩
  clear hT HL hb
  go_wp2_with fail
  refine bodyPost_ret (v := fv o3 n3 a3 l3 d3) (by simp [results, Tryz.results213, go_sem, r0, r1, r2]) rfl ?_
  exact RetX.at_ _ HT.out HB'.out (by omega) (by simp) _ _ _

set_option maxRecDepth 100000 in
set_option maxHeartbeats 2000000 in
theorem rule9_c {X : Nat → Prop} (f g : Fm) (a : Option Addr) (n c : Nat) (w : World) (hS : IsSX X w a n c [f, g]) (hf : f.ar) (hg : g.ar) :
    Calls Tryz.prog 214 #[.slice a n c] w (RetX X (unt 12 1 2 10 f g) w) := by
  obtain ⟨b, o, rfl, hbl, x, op1, nm1, a1, n1, d1, X1, q0, q1, q2, hT1⟩ := hS.at_ 0 (by have := hS.1; simp at this; omega)
  obtain rfl : x = f := by have := X1.get; simp at this; exact this.symm
  obtain ⟨b', o', e', hbl', y, op2, nm2, a2, n2, d2, X2, p0, p1, p2, hT2⟩ := hS.at_ 1 (by have := hS.1; simp at this; omega)
  obtain rfl : y = g := by have := X2.get; simp at this; exact this.symm
  obtain ⟨rfl, rfl⟩ : b' = b ∧ o' = o := by cases e'; exact ⟨rfl, rfl⟩
  simp only [Nat.zero_mul, Nat.add_zero, Nat.one_mul] at q0 q1 q2 p0 p1 p2
  have hnl : (0 : Int) < (n : Int) := by have := hS.1; simp at this; omega
  have hnl1 : (1 : Int) < (n : Int) := by have := hS.1; simp at this; omega
  have hn0 : 0 < n := by omega
  have hn1 : 1 < n := by omega
  have HL := Aside.mk (fun W (hW : Below w.heap.size w W) => unt12_c x y op1 nm1 a1 n1 d1 op2 nm2 a2 n2 d2 W (hT1.old.keep hW) (hT2.old.keep hW) (ar_of hT1 hf) (ar_of hT2 hg))
  clear hS hf hg hT1 hT2 X1 X2 e'
  go_enter Tryz.func214, Tryz.ntmps214
  go_wp2_with fail
  refine still_tail 6 (by kernel_rfl) (by kernel_rfl) ?_
  simp only [List.take_succ_cons, List.take_zero, List.drop_succ_cons, List.drop_zero]
  iterate 6 still_step
  refine wpStill_nil ?_
  go_wp2_with fail
  refine (HL.out _ (by repeat (first | (with_reducible exact Below.refl _ _) | (with_reducible assumption) | refine below_alloc ?_ _ | refine Below.drew ?_ | refine below_drewN ?_ _))).mono ?_
  rintro e v2 ⟨o3, n3, a3, l3, d3, rfl, hT, hb⟩
  have r0 : v2.cell? ⟨w.heap.size, 0, none⟩ = some (.int .u8 0) := cell_below hb (by go_simp)
  have r1 : v2.cell? ⟨w.heap.size, 1, none⟩ = some (.string nil8) := cell_below hb (by go_simp)
  have r2 : v2.cell? ⟨w.heap.size, 2, none⟩ = some (.slice none 0 0) := cell_below hb (by go_simp)
  have f0 : v2.frozen? ⟨w.heap.size, 0, none⟩ = false := (hb.frozen (by simp)).trans (by go_simp)
  have f1 : v2.frozen? ⟨w.heap.size, 1, none⟩ = false := (hb.frozen (by simp)).trans (by go_simp)
  have f2 : v2.frozen? ⟨w.heap.size, 2, none⟩ = false := (hb.frozen (by simp)).trans (by go_simp)
  have HT := Aside.mk hT
  have HB' : Aside (Below w.heap.size w v2) := ⟨below_to (by repeat (first | (with_reducible exact Below.refl _ _) | (with_reducible assumption) | refine below_alloc ?_ _ | refine Below.drew ?_ | refine below_drewN ?_ _)) hb⟩
  clear hT HL hb
  go_wp2_with fail
  refine bodyPost_ret (v := fv o3 n3 a3 l3 d3) (by simp [results, Tryz.results214, go_sem, r0, r1, r2]) rfl ?_
  exact RetX.at_ _ HT.out HB'.out (by omega) (by simp) _ _ _

set_option maxRecDepth 100000 in
set_option maxHeartbeats 2000000 in
theorem rule10_c {X : Nat → Prop} (f g : Fm) (a : Option Addr) (n c : Nat) (w : World) (hS : IsSX X w a n c [f, g]) (hf : f.ar) (hg : g.ar) :
    Calls Tryz.prog 216 #[.slice a n c] w (RetX X (unt 13 2 1 11 f g) w) := by
  obtain ⟨b, o, rfl, hbl, x, op1, nm1, a1, n1, d1, X1, q0, q1, q2, hT1⟩ := hS.at_ 0 (by have := hS.1; simp at this; omega)
  obtain rfl : x = f := by have := X1.get; simp at this; exact this.symm
  obtain ⟨b', o', e', hbl', y, op2, nm2, a2, n2, d2, X2, p0, p1, p2, hT2⟩ := hS.at_ 1 (by have := hS.1; simp at this; omega)
  obtain rfl : y = g := by have := X2.get; simp at this; exact this.symm
  obtain ⟨rfl, rfl⟩ : b' = b ∧ o' = o := by cases e'; exact ⟨rfl, rfl⟩
  simp only [Nat.zero_mul, Nat.add_zero, Nat.one_mul] at q0 q1 q2 p0 p1 p2
  have hnl : (0 : Int) < (n : Int) := by have := hS.1; simp at this; omega
  have hnl1 : (1 : Int) < (n : Int) := by have := hS.1; simp at this; omega
  have hn0 : 0 < n := by omega
  have hn1 : 1 < n := by omega
  have HL := Aside.mk (fun W (hW : Below w.heap.size w W) => unt13_c x y op1 nm1 a1 n1 d1 op2 nm2 a2 n2 d2 W (hT1.old.keep hW) (hT2.old.keep hW) (ar_of hT1 hf) (ar_of hT2 hg))
  clear hS hf hg hT1 hT2 X1 X2 e'
  go_enter Tryz.func216, Tryz.ntmps216
  go_wp2_with fail
  refine still_tail 6 (by kernel_rfl) (by kernel_rfl) ?_
  simp only [List.take_succ_cons, List.take_zero, List.drop_succ_cons, List.drop_zero]
  iterate 6 still_step
  refine wpStill_nil ?_
  go_wp2_with fail
  refine (HL.out _ (by repeat (first | (with_reducible exact Below.refl _ _) | (with_reducible assumption) | refine below_alloc ?_ _ | refine Below.drew ?_ | refine below_drewN ?_ _))).mono ?_
  rintro e v2 ⟨o3, n3, a3, l3, d3, rfl, hT, hb⟩
  have r0 : v2.cell? ⟨w.heap.size, 0, none⟩ = some (.int .u8 0) := cell_below hb (by go_simp)
  have r1 : v2.cell? ⟨w.heap.size, 1, none⟩ = some (.string nil8) := cell_below hb (by go_simp)
  have r2 : v2.cell? ⟨w.heap.size, 2, none⟩ = some (.slice none 0 0) := cell_below hb (by go_simp)
  have f0 : v2.frozen? ⟨w.heap.size, 0, none⟩ = false := (hb.frozen (by simp)).trans (by go_simp)
  have f1 : v2.frozen? ⟨w.heap.size, 1, none⟩ = false := (hb.frozen (by simp)).trans (by go_simp)
  have f2 : v2.frozen? ⟨w.heap.size, 2, none⟩ = false := (hb.frozen (by simp)).trans (by go_simp)
  have HT := Aside.mk hT
  have HB' : Aside (Below w.heap.size w v2) := ⟨below_to (by repeat (first | (with_reducible exact Below.refl _ _) | (with_reducible assumption) | refine below_alloc ?_ _ | refine Below.drew ?_ | refine below_drewN ?_ _)) hb⟩
  clear hT HL hb
  go_wp2_with fail
  refine bodyPost_ret (v := fv o3 n3 a3 l3 d3) (by simp [results, Tryz.results216, go_sem, r0, r1, r2]) rfl ?_
  exact RetX.at_ _ HT.out HB'.out (by omega) (by simp) _ _ _

set_option maxRecDepth 100000 in
set_option maxHeartbeats 2000000 in
theorem rule11_c {X : Nat → Prop} (f g : Fm) (a : Option Addr) (n c : Nat) (w : World) (hS : IsSX X w a n c [f, g]) (hf : f.ar) (hg : g.ar) :
    Calls Tryz.prog 217 #[.slice a n c] w (RetX X (sWeak f g) w) := by
  obtain ⟨b, o, rfl, hbl, x, op1, nm1, a1, n1, d1, X1, q0, q1, q2, hT1⟩ := hS.at_ 0 (by have := hS.1; simp at this; omega)
  obtain rfl : x = f := by have := X1.get; simp at this; exact this.symm
  obtain ⟨b', o', e', hbl', y, op2, nm2, a2, n2, d2, X2, p0, p1, p2, hT2⟩ := hS.at_ 1 (by have := hS.1; simp at this; omega)
  obtain rfl : y = g := by have := X2.get; simp at this; exact this.symm
  obtain ⟨rfl, rfl⟩ : b' = b ∧ o' = o := by cases e'; exact ⟨rfl, rfl⟩
  simp only [Nat.zero_mul, Nat.add_zero, Nat.one_mul] at q0 q1 q2 p0 p1 p2
  have hnl : (0 : Int) < (n : Int) := by have := hS.1; simp at this; omega
  have hnl1 : (1 : Int) < (n : Int) := by have := hS.1; simp at this; omega
  have hn0 : 0 < n := by omega
  have hn1 : 1 < n := by omega
  have HL := Aside.mk (fun W (hW : Below w.heap.size w W) => weak_c x y op1 nm1 a1 n1 d1 op2 nm2 a2 n2 d2 W (hT1.old.keep hW) (hT2.old.keep hW) (ar_of hT1 hf) (ar_of hT2 hg))
  clear hS hf hg hT1 hT2 X1 X2 e'
  go_enter Tryz.func217, Tryz.ntmps217
  go_wp2_with fail
  refine still_tail 6 (by kernel_rfl) (by kernel_rfl) ?_
  simp only [List.take_succ_cons, List.take_zero, List.drop_succ_cons, List.drop_zero]
  iterate 6 still_step
  refine wpStill_nil ?_
  go_wp2_with fail
  refine (HL.out _ (by repeat (first | (with_reducible exact Below.refl _ _) | (with_reducible assumption) | refine below_alloc ?_ _ | refine Below.drew ?_ | refine below_drewN ?_ _))).mono ?_
  rintro e v2 ⟨o3, n3, a3, l3, d3, rfl, hT, hb⟩
  have r0 : v2.cell? ⟨w.heap.size, 0, none⟩ = some (.int .u8 0) := cell_below hb (by go_simp)
  have r1 : v2.cell? ⟨w.heap.size, 1, none⟩ = some (.string nil8) := cell_below hb (by go_simp)
  have r2 : v2.cell? ⟨w.heap.size, 2, none⟩ = some (.slice none 0 0) := cell_below hb (by go_simp)
  have f0 : v2.frozen? ⟨w.heap.size, 0, none⟩ = false := (hb.frozen (by simp)).trans (by go_simp)
  have f1 : v2.frozen? ⟨w.heap.size, 1, none⟩ = false := (hb.frozen (by simp)).trans (by go_simp)
  have f2 : v2.frozen? ⟨w.heap.size, 2, none⟩ = false := (hb.frozen (by simp)).trans (by go_simp)
  have HT := Aside.mk hT
  have HB' : Aside (Below w.heap.size w v2) := ⟨below_to (by repeat (first | (with_reducible exact Below.refl _ _) | (with_reducible assumption) | refine below_alloc ?_ _ | refine Below.drew ?_ | refine below_drewN ?_ _)) hb⟩
  clear hT HL hb
  go_wp2_with fail
  refine bodyPost_ret (v := fv o3 n3 a3 l3 d3) (by simp [results, Tryz.results217, go_sem, r0, r1, r2]) rfl ?_
  exact RetX.at_ _ HT.out HB'.out (by omega) (by simp) _ _ _

set_option maxRecDepth 100000 in
set_option maxHeartbeats 2000000 in
theorem rule12_c {X : Nat → Prop} (f g : Fm) (a : Option Addr) (n c : Nat) (w : World) (hS : IsSX X w a n c [f, g]) (hf : f.ar) (hg : g.ar) :
    Calls Tryz.prog 219 #[.slice a n c] w (RetX X (sStrong f g) w) := by
  obtain ⟨b, o, rfl, hbl, x, op1, nm1, a1, n1, d1, X1, q0, q1, q2, hT1⟩ := hS.at_ 0 (by have := hS.1; simp at this; omega)
  obtain rfl : x = f := by have := X1.get; simp at this; exact this.symm
  obtain ⟨b', o', e', hbl', y, op2, nm2, a2, n2, d2, X2, p0, p1, p2, hT2⟩ := hS.at_ 1 (by have := hS.1; simp at this; omega)
  obtain rfl : y = g := by have := X2.get; simp at this; exact this.symm
  obtain ⟨rfl, rfl⟩ : b' = b ∧ o' = o := by cases e'; exact ⟨rfl, rfl⟩
  simp only [Nat.zero_mul, Nat.add_zero, Nat.one_mul] at q0 q1 q2 p0 p1 p2
  have hnl : (0 : Int) < (n : Int) := by have := hS.1; simp at this; omega
  have hnl1 : (1 : Int) < (n : Int) := by have := hS.1; simp at this; omega
  have hn0 : 0 < n := by omega
  have hn1 : 1 < n := by omega
  have HL := Aside.mk (fun W (hW : Below w.heap.size w W) => strong_c x y op1 nm1 a1 n1 d1 op2 nm2 a2 n2 d2 W (hT1.old.keep hW) (hT2.old.keep hW) (ar_of hT1 hf) (ar_of hT2 hg))
  clear hS hf hg hT1 hT2 X1 X2 e'
  go_enter Tryz.func219, Tryz.ntmps219
  go_wp2_with fail
  refine still_tail 6 (by kernel_rfl) (by kernel_rfl) ?_
  simp only [List.take_succ_cons, List.take_zero, List.drop_succ_cons, List.drop_zero]
  iterate 6 still_step
  refine wpStill_nil ?_
  go_wp2_with fail
  refine (HL.out _ (by repeat (first | (with_reducible exact Below.refl _ _) | (with_reducible assumption) | refine below_alloc ?_ _ | refine Below.drew ?_ | refine below_drewN ?_ _))).mono ?_
  rintro e v2 ⟨o3, n3, a3, l3, d3, rfl, hT, hb⟩
  have r0 : v2.cell? ⟨w.heap.size, 0, none⟩ = some (.int .u8 0) := cell_below hb (by go_simp)
  have r1 : v2.cell? ⟨w.heap.size, 1, none⟩ = some (.string nil8) := cell_below hb (by go_simp)
  have r2 : v2.cell? ⟨w.heap.size, 2, none⟩ = some (.slice none 0 0) := cell_below hb (by go_simp)
  have f0 : v2.frozen? ⟨w.heap.size, 0, none⟩ = false := (hb.frozen (by simp)).trans (by go_simp)
  have f1 : v2.frozen? ⟨w.heap.size, 1, none⟩ = false := (hb.frozen (by simp)).trans (by go_simp)
  have f2 : v2.frozen? ⟨w.heap.size, 2, none⟩ = false := (hb.frozen (by simp)).trans (by go_simp)
  have HT := Aside.mk hT
  have HB' : Aside (Below w.heap.size w v2) := ⟨below_to (by repeat (first | (with_reducible exact Below.refl _ _) | (with_reducible assumption) | refine below_alloc ?_ _ | refine Below.drew ?_ | refine below_drewN ?_ _)) hb⟩
  clear hT HL hb
  go_wp2_with fail
  refine bodyPost_ret (v := fv o3 n3 a3 l3 d3) (by simp [results, Tryz.results219, go_sem, r0, r1, r2]) rfl ?_
  exact RetX.at_ _ HT.out HB'.out (by omega) (by simp) _ _ _

def Fm.sNext (f : Fm) : Fm := if sureB f.op = true then f else .mk 9 nil8 [f]
set_option maxHeartbeats 1000000 in
theorem rule6_c {X : Nat → Prop} (f : Fm) (a : Option Addr) (n c : Nat) (w : World) (hS : IsSX X w a n c [f]) :
    Calls Tryz.prog 208 #[.slice a n c] w (RetX X f.sNext w) := by
  obtain ⟨b, o, rfl, hbl, x, op1, nm1, a1, n1, d1, X1, q0, q1, q2, hT1⟩ := hS.at_ 0 (by have := hS.1; simp at this; omega)
  obtain rfl : x = f := by have := X1.get; simp at this; exact this.symm
  simp only [Nat.zero_mul, Nat.add_zero] at q0 q1 q2
  have hnl : (0 : Int) < (n : Int) := by have := hS.1; simp at this; omega
  have hfo : x.op = op1 := by obtain ⟨_, _, _, _, rfl, _⟩ := hT1.parts; rfl
  have HF := Aside.mk hT1
  have HL := Aside.mk (fun W => sure_c op1 nm1 a1 n1 d1 W)
  clear hS hT1 X1
  cases c1 : sureB op1 with
  | true =>
    have hE : x.sNext = x := by simp [Fm.sNext, hfo, c1]
    rw [hE]
    simp only [c1] at HL
    clear hE c1 hfo
    go_enter Tryz.func208, Tryz.ntmps208
    go_wp2_with fail
    refine (HL.out _).mono ?_
    rintro e v2 ⟨rfl, hb⟩
    have k0 : v2.cell? ⟨b, o, none⟩ = some (.int .u8 op1) := cell_below hb (by go_simp)
    have k1 : v2.cell? ⟨b, o + 1, none⟩ = some (.string nm1) := cell_below hb (by go_simp)
    have k2 : v2.cell? ⟨b, o + 2, none⟩ = some (.slice a1 n1 d1) := cell_below hb (by go_simp)
    have r0 : v2.cell? ⟨w.heap.size, 0, none⟩ = some (.int .u8 0) := cell_below hb (by go_simp)
    have r1 : v2.cell? ⟨w.heap.size, 1, none⟩ = some (.string nil8) := cell_below hb (by go_simp)
    have r2 : v2.cell? ⟨w.heap.size, 2, none⟩ = some (.slice none 0 0) := cell_below hb (by go_simp)
    have f0 : v2.frozen? ⟨w.heap.size, 0, none⟩ = false := (hb.frozen (by simp)).trans (by go_simp)
    have f1 : v2.frozen? ⟨w.heap.size, 1, none⟩ = false := (hb.frozen (by simp)).trans (by go_simp)
    have f2 : v2.frozen? ⟨w.heap.size, 2, none⟩ = false := (hb.frozen (by simp)).trans (by go_simp)
    have HB' : Aside (Below w.heap.size w v2) := ⟨below_to (by repeat (first | (with_reducible exact Below.refl _ _) | (with_reducible assumption) | refine below_alloc ?_ _ | refine Below.drew ?_ | refine below_drewN ?_ _)) hb⟩
    clear hb
    go_wp2_with fail
    refine bodyPost_ret (v := fv op1 nm1 a1 n1 d1) (by simp [results, Tryz.results208, go_sem, r0, r1, r2]) rfl ?_
    exact RetX.at_ (w.heap.size + 1) (old_at _ HF.out HB'.out) HB'.out (by omega) (by omega) _ _ _
  | false =>
    have hE : x.sNext = .mk 9 nil8 [x] := by simp [Fm.sNext, hfo, c1]
    rw [hE]
    simp only [c1] at HL
    clear hE c1 hfo
    go_enter Tryz.func208, Tryz.ntmps208
    go_wp2_with fail
    refine (HL.out _).mono ?_
    rintro e v2 ⟨rfl, hb⟩
    have k0 : v2.cell? ⟨b, o, none⟩ = some (.int .u8 op1) := cell_below hb (by go_simp)
    have k1 : v2.cell? ⟨b, o + 1, none⟩ = some (.string nm1) := cell_below hb (by go_simp)
    have k2 : v2.cell? ⟨b, o + 2, none⟩ = some (.slice a1 n1 d1) := cell_below hb (by go_simp)
    have r0 : v2.cell? ⟨w.heap.size, 0, none⟩ = some (.int .u8 0) := cell_below hb (by go_simp)
    have r1 : v2.cell? ⟨w.heap.size, 1, none⟩ = some (.string nil8) := cell_below hb (by go_simp)
    have r2 : v2.cell? ⟨w.heap.size, 2, none⟩ = some (.slice none 0 0) := cell_below hb (by go_simp)
    have f0 : v2.frozen? ⟨w.heap.size, 0, none⟩ = false := (hb.frozen (by simp)).trans (by go_simp)
    have f1 : v2.frozen? ⟨w.heap.size, 1, none⟩ = false := (hb.frozen (by simp)).trans (by go_simp)
    have f2 : v2.frozen? ⟨w.heap.size, 2, none⟩ = false := (hb.frozen (by simp)).trans (by go_simp)
    have HB' : Aside (Below w.heap.size w v2) := ⟨below_to (by repeat (first | (with_reducible exact Below.refl _ _) | (with_reducible assumption) | refine below_alloc ?_ _ | refine Below.drew ?_ | refine below_drewN ?_ _)) hb⟩
    have hz := hb.size
    have hsz : w.heap.size < v2.heap.size := by simp at hz; omega
    clear hb hz
    go_wp2_with fail
    refine (of_c _ _ _ _ _).mono ?_
    rintro e w3 ⟨rfl, hb3⟩
    have r0' : w3.cell? ⟨w.heap.size, 0, none⟩ = some (.int .u8 0) := cell_below hb3 (by go_simp)
    have r1' : w3.cell? ⟨w.heap.size, 1, none⟩ = some (.string nil8) := cell_below hb3 (by go_simp)
    have r2' : w3.cell? ⟨w.heap.size, 2, none⟩ = some (.slice none 0 0) := cell_below hb3 (by go_simp)
    have f0' : w3.frozen? ⟨w.heap.size, 0, none⟩ = false := (hb3.frozen (by simp; omega)).trans (by go_simp)
    have f1' : w3.frozen? ⟨w.heap.size, 1, none⟩ = false := (hb3.frozen (by simp; omega)).trans (by go_simp)
    have f2' : w3.frozen? ⟨w.heap.size, 2, none⟩ = false := (hb3.frozen (by simp; omega)).trans (by go_simp)
    have HT := Aside.mk (of1_after (q := 9) (by omega) (by omega) HB'.out hb3 HF.out)
    have HB3 : Aside (Below w.heap.size w w3) := ⟨below_to (below_alloc HB'.out _) hb3⟩
    clear hb3
    go_wp2_with fail
    refine bodyPost_ret (v := fv 9 nil8 (some ⟨v2.heap.size, 0, none⟩) 1 1) (by simp [results, Tryz.results208, go_sem, r0', r1', r2']) rfl ?_
    exact RetX.at_ _ HT.out HB3.out (by omega) (by omega) _ _ _

end Go.Proofs.YtmmakkaolknbaaaGreatDoor
