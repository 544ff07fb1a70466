/- Contract of nnf.duals, printed by gen_tab.py. -/
import Derived.Test.YtmmakkaolknbaaaGreatDoorFormG
namespace Go.Proofs.YtmmakkaolknbaaaGreatDoor
set_option linter.unusedVariables false
set_option linter.unusedSimpArgs false
open Go.RowKit Go.Shelf

theorem tab_res_duals (V : World) (r : Nat) (l : List Value) (u0 u1 u2 u3 u4 u5 u6 u7 u8 u9 u10 u11 u12 u13 u14 u15 : Value) (k0 : V.cell? ⟨r, 0, none⟩ = some u0) (k1 : V.cell? ⟨r, 1, none⟩ = some u1) (k2 : V.cell? ⟨r, 2, none⟩ = some u2) (k3 : V.cell? ⟨r, 3, none⟩ = some u3) (k4 : V.cell? ⟨r, 4, none⟩ = some u4) (k5 : V.cell? ⟨r, 5, none⟩ = some u5) (k6 : V.cell? ⟨r, 6, none⟩ = some u6) (k7 : V.cell? ⟨r, 7, none⟩ = some u7) (k8 : V.cell? ⟨r, 8, none⟩ = some u8) (k9 : V.cell? ⟨r, 9, none⟩ = some u9) (k10 : V.cell? ⟨r, 10, none⟩ = some u10) (k11 : V.cell? ⟨r, 11, none⟩ = some u11) (k12 : V.cell? ⟨r, 12, none⟩ = some u12) (k13 : V.cell? ⟨r, 13, none⟩ = some u13) (k14 : V.cell? ⟨r, 14, none⟩ = some u14) (k15 : V.cell? ⟨r, 15, none⟩ = some u15) :
    (results Tryz.f224 (.pointer (some ⟨r, 0, none⟩) :: l).toArray).run Tryz.prog V = .ok (.agg #[u0, u1, u2, u3, u4, u5, u6, u7, u8, u9, u10, u11, u12, u13, u14, u15]) V := by
  simp [results, Tryz.results224, go_sem, k0, k1, k2, k3, k4, k5, k6, k7, k8, k9, k10, k11, k12, k13, k14, k15]

set_option maxRecDepth 100000 in
set_option maxHeartbeats 8000000 in
theorem duals_c (w : World) : Calls Tryz.prog 224 #[] w fun e w' => ∃ B5 B6 B7 B12 B13 : Nat, e = .returned (.agg #[.nilFunc, .nilFunc, .nilFunc, .nilFunc, fnV 260, clV B5, clV B6, clV B7, fnV 264, fnV 265, fnV 266, fnV 267, clV B12, clV B13, fnV 268, fnV 269]) ∧ Clo 6 263 263 (clV B5) w' ∧ Clo 5 263 263 (clV B6) w' ∧ Clo 5 261 263 (clV B7) w' ∧ Clo 13 263 263 (clV B12) w' ∧ Clo 12 263 263 (clV B13) w' ∧ Below w.heap.size w w' := by
  go_enter Tryz.func224, Tryz.ntmps224
  go_wp2_with fail
  refine (both_c 6 263 263 _).mono ?_
  rintro e w1 ⟨_, rfl, ⟨B5, hN5, rfl, x5, y5, z5⟩, hb1⟩
  have A1 : ArrB w1 (w.heap.size + 1) #[.nilFunc, .nilFunc, .nilFunc, .nilFunc, fnV 260, .nilFunc, .nilFunc, .nilFunc, .nilFunc, .nilFunc, .nilFunc, .nilFunc, .nilFunc, .nilFunc, .nilFunc, .nilFunc] := ArrB.keep (arr_new2 w _ _) hb1
  have Z1 : ArrB w1 w.heap.size #[.nilFunc, .nilFunc, .nilFunc, .nilFunc, .nilFunc, .nilFunc, .nilFunc, .nilFunc, .nilFunc, .nilFunc, .nilFunc, .nilFunc, .nilFunc, .nilFunc, .nilFunc, .nilFunc] := ArrB.keep ((arr_new1 w _).old _) hb1
  have hz1 : w.heap.size + 1 < w1.heap.size := by have := hb1.size; simp at this; omega
  have HB1 : Aside (Below w.heap.size w w1) := ⟨below_to (by repeat (first | (with_reducible exact Below.refl _ _) | (with_reducible assumption) | refine below_alloc ?_ _ | refine Below.drew ?_ | refine below_drewN ?_ _)) hb1⟩
  have K5 : Aside (CloIn (w.heap.size + 2) 6 263 263 (clV B5) w1) := ⟨B5, Nat.le_trans (by first | omega | (simp; done) | (simp; omega)) hN5, rfl, x5, y5, z5⟩
  have hy1 : w.heap.size < w1.heap.size := by omega
  clear hN5 x5 y5 z5 hb1
  go_wp2_with fail
  refine (both_c 5 263 263 _).mono ?_
  rintro e w2 ⟨_, rfl, ⟨B6, hN6, rfl, x6, y6, z6⟩, hb2⟩
  have A2 : ArrB w2 (w.heap.size + 1) #[.nilFunc, .nilFunc, .nilFunc, .nilFunc, fnV 260, .nilFunc, .nilFunc, .nilFunc, .nilFunc, .nilFunc, .nilFunc, .nilFunc, .nilFunc, .nilFunc, .nilFunc, .nilFunc] := ArrB.keep A1 hb2
  have Z2 : ArrB w2 w.heap.size #[.nilFunc, .nilFunc, .nilFunc, .nilFunc, .nilFunc, .nilFunc, .nilFunc, .nilFunc, .nilFunc, .nilFunc, .nilFunc, .nilFunc, .nilFunc, .nilFunc, .nilFunc, .nilFunc] := ArrB.keep Z1 hb2
  have hz2 : w.heap.size + 1 < w2.heap.size := by have := hb2.size; (try simp at this); omega
  have HB2 : Aside (Below w.heap.size w w2) := ⟨below_to HB1.out hb2⟩
  replace K5 := Aside.mk (CloIn.keep K5.out hb2)
  have K6 : Aside (CloIn (w.heap.size + 2) 5 263 263 (clV B6) w2) := ⟨B6, Nat.le_trans (by first | omega | (simp; done) | (simp; omega)) hN6, rfl, x6, y6, z6⟩
  have c2_5 : w2.cell? ⟨w.heap.size + 1, 5, none⟩ = some (.nilFunc) := A2.cells 5
  have c2_6 : w2.cell? ⟨w.heap.size + 1, 6, none⟩ = some (.nilFunc) := A2.cells 6
  have f2_5 := A2.frozen 5
  have f2_6 := A2.frozen 6
  have hy2 : w.heap.size < w2.heap.size := by omega
  clear hN6 x6 y6 z6 hb2  A1 Z1 hz1 hy1 HB1
  go_wp2_with fail
  refine (both_c 5 261 263 _).mono ?_
  rintro e w3 ⟨_, rfl, ⟨B7, hN7, rfl, x7, y7, z7⟩, hb3⟩
  have A3 : ArrB w3 (w.heap.size + 1) #[.nilFunc, .nilFunc, .nilFunc, .nilFunc, fnV 260, clV B5, clV B6, .nilFunc, .nilFunc, .nilFunc, .nilFunc, .nilFunc, .nilFunc, .nilFunc, .nilFunc, .nilFunc] := ArrB.keep (ArrB.set (ArrB.set A2 5 (clV B5)) 6 (clV B6)) hb3
  have Z3 : ArrB w3 w.heap.size #[.nilFunc, .nilFunc, .nilFunc, .nilFunc, .nilFunc, .nilFunc, .nilFunc, .nilFunc, .nilFunc, .nilFunc, .nilFunc, .nilFunc, .nilFunc, .nilFunc, .nilFunc, .nilFunc] := ArrB.keep (ArrB.far (ArrB.far Z2 (by omega) 5 (clV B5)) (by omega) 6 (clV B6)) hb3
  have hz3 : w.heap.size + 1 < w3.heap.size := by have := hb3.size; (try simp at this); omega
  have HB3 : Aside (Below w.heap.size w w3) := ⟨below_to ((HB2.out.setCell (p := ⟨w.heap.size + 1, 5, none⟩) (by simp) (clV B5)).setCell (p := ⟨w.heap.size + 1, 6, none⟩) (by simp) (clV B6)) hb3⟩
  replace K5 := Aside.mk (CloIn.keep (CloIn.set (CloIn.set K5.out (r := w.heap.size + 1) (by omega) 5 (clV B5)) (r := w.heap.size + 1) (by omega) 6 (clV B6)) hb3)
  replace K6 := Aside.mk (CloIn.keep (CloIn.set (CloIn.set K6.out (r := w.heap.size + 1) (by omega) 5 (clV B5)) (r := w.heap.size + 1) (by omega) 6 (clV B6)) hb3)
  have K7 : Aside (CloIn (w.heap.size + 2) 5 261 263 (clV B7) w3) := ⟨B7, Nat.le_trans (by first | omega | (simp; done) | (simp; omega)) hN7, rfl, x7, y7, z7⟩
  have c3_7 : w3.cell? ⟨w.heap.size + 1, 7, none⟩ = some (.nilFunc) := A3.cells 7
  have c3_8 : w3.cell? ⟨w.heap.size + 1, 8, none⟩ = some (.nilFunc) := A3.cells 8
  have c3_9 : w3.cell? ⟨w.heap.size + 1, 9, none⟩ = some (.nilFunc) := A3.cells 9
  have c3_10 : w3.cell? ⟨w.heap.size + 1, 10, none⟩ = some (.nilFunc) := A3.cells 10
  have c3_11 : w3.cell? ⟨w.heap.size + 1, 11, none⟩ = some (.nilFunc) := A3.cells 11
  have f3_7 := A3.frozen 7
  have f3_8 := A3.frozen 8
  have f3_9 := A3.frozen 9
  have f3_10 := A3.frozen 10
  have f3_11 := A3.frozen 11
  have hy3 : w.heap.size < w3.heap.size := by omega
  clear hN7 x7 y7 z7 hb3 c2_5 c2_6 f2_5 f2_6 A2 Z2 hz2 hy2 HB2
  go_wp2_with fail
  refine (both_c 13 263 263 _).mono ?_
  rintro e w4 ⟨_, rfl, ⟨B12, hN12, rfl, x12, y12, z12⟩, hb4⟩
  have A4 : ArrB w4 (w.heap.size + 1) #[.nilFunc, .nilFunc, .nilFunc, .nilFunc, fnV 260, clV B5, clV B6, clV B7, fnV 264, fnV 265, fnV 266, fnV 267, .nilFunc, .nilFunc, .nilFunc, .nilFunc] := ArrB.keep (ArrB.set (ArrB.set (ArrB.set (ArrB.set (ArrB.set A3 7 (clV B7)) 8 (fnV 264)) 9 (fnV 265)) 10 (fnV 266)) 11 (fnV 267)) hb4
  have Z4 : ArrB w4 w.heap.size #[.nilFunc, .nilFunc, .nilFunc, .nilFunc, .nilFunc, .nilFunc, .nilFunc, .nilFunc, .nilFunc, .nilFunc, .nilFunc, .nilFunc, .nilFunc, .nilFunc, .nilFunc, .nilFunc] := ArrB.keep (ArrB.far (ArrB.far (ArrB.far (ArrB.far (ArrB.far Z3 (by omega) 7 (clV B7)) (by omega) 8 (fnV 264)) (by omega) 9 (fnV 265)) (by omega) 10 (fnV 266)) (by omega) 11 (fnV 267)) hb4
  have hz4 : w.heap.size + 1 < w4.heap.size := by have := hb4.size; (try simp at this); omega
  have HB4 : Aside (Below w.heap.size w w4) := ⟨below_to (((((HB3.out.setCell (p := ⟨w.heap.size + 1, 7, none⟩) (by simp) (clV B7)).setCell (p := ⟨w.heap.size + 1, 8, none⟩) (by simp) (fnV 264)).setCell (p := ⟨w.heap.size + 1, 9, none⟩) (by simp) (fnV 265)).setCell (p := ⟨w.heap.size + 1, 10, none⟩) (by simp) (fnV 266)).setCell (p := ⟨w.heap.size + 1, 11, none⟩) (by simp) (fnV 267)) hb4⟩
  replace K5 := Aside.mk (CloIn.keep (CloIn.set (CloIn.set (CloIn.set (CloIn.set (CloIn.set K5.out (r := w.heap.size + 1) (by omega) 7 (clV B7)) (r := w.heap.size + 1) (by omega) 8 (fnV 264)) (r := w.heap.size + 1) (by omega) 9 (fnV 265)) (r := w.heap.size + 1) (by omega) 10 (fnV 266)) (r := w.heap.size + 1) (by omega) 11 (fnV 267)) hb4)
  replace K6 := Aside.mk (CloIn.keep (CloIn.set (CloIn.set (CloIn.set (CloIn.set (CloIn.set K6.out (r := w.heap.size + 1) (by omega) 7 (clV B7)) (r := w.heap.size + 1) (by omega) 8 (fnV 264)) (r := w.heap.size + 1) (by omega) 9 (fnV 265)) (r := w.heap.size + 1) (by omega) 10 (fnV 266)) (r := w.heap.size + 1) (by omega) 11 (fnV 267)) hb4)
  replace K7 := Aside.mk (CloIn.keep (CloIn.set (CloIn.set (CloIn.set (CloIn.set (CloIn.set K7.out (r := w.heap.size + 1) (by omega) 7 (clV B7)) (r := w.heap.size + 1) (by omega) 8 (fnV 264)) (r := w.heap.size + 1) (by omega) 9 (fnV 265)) (r := w.heap.size + 1) (by omega) 10 (fnV 266)) (r := w.heap.size + 1) (by omega) 11 (fnV 267)) hb4)
  have K12 : Aside (CloIn (w.heap.size + 2) 13 263 263 (clV B12) w4) := ⟨B12, Nat.le_trans (by first | omega | (simp; done) | (simp; omega)) hN12, rfl, x12, y12, z12⟩
  have hy4 : w.heap.size < w4.heap.size := by omega
  clear hN12 x12 y12 z12 hb4 c3_7 c3_8 c3_9 c3_10 c3_11 f3_7 f3_8 f3_9 f3_10 f3_11 A3 Z3 hz3 hy3 HB3
  go_wp2_with fail
  refine (both_c 12 263 263 _).mono ?_
  rintro e w5 ⟨_, rfl, ⟨B13, hN13, rfl, x13, y13, z13⟩, hb5⟩
  have A5 : ArrB w5 (w.heap.size + 1) #[.nilFunc, .nilFunc, .nilFunc, .nilFunc, fnV 260, clV B5, clV B6, clV B7, fnV 264, fnV 265, fnV 266, fnV 267, .nilFunc, .nilFunc, .nilFunc, .nilFunc] := ArrB.keep A4 hb5
  have Z5 : ArrB w5 w.heap.size #[.nilFunc, .nilFunc, .nilFunc, .nilFunc, .nilFunc, .nilFunc, .nilFunc, .nilFunc, .nilFunc, .nilFunc, .nilFunc, .nilFunc, .nilFunc, .nilFunc, .nilFunc, .nilFunc] := ArrB.keep Z4 hb5
  have hz5 : w.heap.size + 1 < w5.heap.size := by have := hb5.size; (try simp at this); omega
  have HB5 : Aside (Below w.heap.size w w5) := ⟨below_to HB4.out hb5⟩
  replace K5 := Aside.mk (CloIn.keep K5.out hb5)
  replace K6 := Aside.mk (CloIn.keep K6.out hb5)
  replace K7 := Aside.mk (CloIn.keep K7.out hb5)
  replace K12 := Aside.mk (CloIn.keep K12.out hb5)
  have K13 : Aside (CloIn (w.heap.size + 2) 12 263 263 (clV B13) w5) := ⟨B13, Nat.le_trans (by first | omega | (simp; done) | (simp; omega)) hN13, rfl, x13, y13, z13⟩
  have c5_0 : w5.cell? ⟨w.heap.size + 1, 0, none⟩ = some (.nilFunc) := A5.cells 0
  have c5_1 : w5.cell? ⟨w.heap.size + 1, 1, none⟩ = some (.nilFunc) := A5.cells 1
  have c5_2 : w5.cell? ⟨w.heap.size + 1, 2, none⟩ = some (.nilFunc) := A5.cells 2
  have c5_3 : w5.cell? ⟨w.heap.size + 1, 3, none⟩ = some (.nilFunc) := A5.cells 3
  have c5_4 : w5.cell? ⟨w.heap.size + 1, 4, none⟩ = some (fnV 260) := A5.cells 4
  have c5_5 : w5.cell? ⟨w.heap.size + 1, 5, none⟩ = some (clV B5) := A5.cells 5
  have c5_6 : w5.cell? ⟨w.heap.size + 1, 6, none⟩ = some (clV B6) := A5.cells 6
  have c5_7 : w5.cell? ⟨w.heap.size + 1, 7, none⟩ = some (clV B7) := A5.cells 7
  have c5_8 : w5.cell? ⟨w.heap.size + 1, 8, none⟩ = some (fnV 264) := A5.cells 8
  have c5_9 : w5.cell? ⟨w.heap.size + 1, 9, none⟩ = some (fnV 265) := A5.cells 9
  have c5_10 : w5.cell? ⟨w.heap.size + 1, 10, none⟩ = some (fnV 266) := A5.cells 10
  have c5_11 : w5.cell? ⟨w.heap.size + 1, 11, none⟩ = some (fnV 267) := A5.cells 11
  have c5_12 : w5.cell? ⟨w.heap.size + 1, 12, none⟩ = some (.nilFunc) := A5.cells 12
  have c5_13 : w5.cell? ⟨w.heap.size + 1, 13, none⟩ = some (.nilFunc) := A5.cells 13
  have c5_14 : w5.cell? ⟨w.heap.size + 1, 14, none⟩ = some (.nilFunc) := A5.cells 14
  have c5_15 : w5.cell? ⟨w.heap.size + 1, 15, none⟩ = some (.nilFunc) := A5.cells 15
  have f5_12 := A5.frozen 12
  have f5_13 := A5.frozen 13
  have f5_14 := A5.frozen 14
  have f5_15 := A5.frozen 15
  have d0 : w5.cell? ⟨w.heap.size, 0, none⟩ = some .nilFunc := Z5.cells 0
  have g0 := Z5.frozen 0
  have d1 : w5.cell? ⟨w.heap.size, 1, none⟩ = some .nilFunc := Z5.cells 1
  have g1 := Z5.frozen 1
  have d2 : w5.cell? ⟨w.heap.size, 2, none⟩ = some .nilFunc := Z5.cells 2
  have g2 := Z5.frozen 2
  have d3 : w5.cell? ⟨w.heap.size, 3, none⟩ = some .nilFunc := Z5.cells 3
  have g3 := Z5.frozen 3
  have d4 : w5.cell? ⟨w.heap.size, 4, none⟩ = some .nilFunc := Z5.cells 4
  have g4 := Z5.frozen 4
  have d5 : w5.cell? ⟨w.heap.size, 5, none⟩ = some .nilFunc := Z5.cells 5
  have g5 := Z5.frozen 5
  have d6 : w5.cell? ⟨w.heap.size, 6, none⟩ = some .nilFunc := Z5.cells 6
  have g6 := Z5.frozen 6
  have d7 : w5.cell? ⟨w.heap.size, 7, none⟩ = some .nilFunc := Z5.cells 7
  have g7 := Z5.frozen 7
  have d8 : w5.cell? ⟨w.heap.size, 8, none⟩ = some .nilFunc := Z5.cells 8
  have g8 := Z5.frozen 8
  have d9 : w5.cell? ⟨w.heap.size, 9, none⟩ = some .nilFunc := Z5.cells 9
  have g9 := Z5.frozen 9
  have d10 : w5.cell? ⟨w.heap.size, 10, none⟩ = some .nilFunc := Z5.cells 10
  have g10 := Z5.frozen 10
  have d11 : w5.cell? ⟨w.heap.size, 11, none⟩ = some .nilFunc := Z5.cells 11
  have g11 := Z5.frozen 11
  have d12 : w5.cell? ⟨w.heap.size, 12, none⟩ = some .nilFunc := Z5.cells 12
  have g12 := Z5.frozen 12
  have d13 : w5.cell? ⟨w.heap.size, 13, none⟩ = some .nilFunc := Z5.cells 13
  have g13 := Z5.frozen 13
  have d14 : w5.cell? ⟨w.heap.size, 14, none⟩ = some .nilFunc := Z5.cells 14
  have g14 := Z5.frozen 14
  have d15 : w5.cell? ⟨w.heap.size, 15, none⟩ = some .nilFunc := Z5.cells 15
  have g15 := Z5.frozen 15
  have hy5 : w.heap.size < w5.heap.size := by omega
  clear hN13 x13 y13 z13 hb5  A4 Z4 hz4 hy4 HB4
  go_wp2_with fail
  refine bodyPost_ret (v := .agg #[.nilFunc, .nilFunc, .nilFunc, .nilFunc, fnV 260, clV B5, clV B6, clV B7, fnV 264, fnV 265, fnV 266, fnV 267, clV B12, clV B13, fnV 268, fnV 269]) ?_ rfl ?_
  · clear K5 K6 K7 K12 K13 HB5 A5 c5_0 c5_1 c5_2 c5_3 c5_4 c5_5 c5_6 c5_7 c5_8 c5_9 c5_10 c5_11 c5_12 c5_13 c5_14 c5_15 f5_12 f5_13 f5_14 f5_15
    generalize hV : World.setCell _ _ _ = V
    have hne : w.heap.size ≠ w.heap.size + 1 := by omega
    have hF := (ArrB.set (ArrB.set (ArrB.set (ArrB.set (ArrB.set (ArrB.set (ArrB.set (ArrB.set (ArrB.set (ArrB.set (ArrB.set (ArrB.set (ArrB.set (ArrB.set (ArrB.set (ArrB.set (ArrB.far (ArrB.far (ArrB.far (ArrB.far Z5 hne 12 (clV B12)) hne 13 (clV B13)) hne 14 (fnV 268)) hne 15 (fnV 269)) 0 (.nilFunc)) 1 (.nilFunc)) 2 (.nilFunc)) 3 (.nilFunc)) 4 (fnV 260)) 5 (clV B5)) 6 (clV B6)) 7 (clV B7)) 8 (fnV 264)) 9 (fnV 265)) 10 (fnV 266)) 11 (fnV 267)) 12 (clV B12)) 13 (clV B13)) 14 (fnV 268)) 15 (fnV 269))
    simp only [List.setIfInBounds_toArray, List.set_cons_succ, List.set_cons_zero] at hF
    rw [hV] at hF
    have k0 : V.cell? ⟨w.heap.size, 0, none⟩ = some (.nilFunc) := hF.cells 0
    have k1 : V.cell? ⟨w.heap.size, 1, none⟩ = some (.nilFunc) := hF.cells 1
    have k2 : V.cell? ⟨w.heap.size, 2, none⟩ = some (.nilFunc) := hF.cells 2
    have k3 : V.cell? ⟨w.heap.size, 3, none⟩ = some (.nilFunc) := hF.cells 3
    have k4 : V.cell? ⟨w.heap.size, 4, none⟩ = some (fnV 260) := hF.cells 4
    have k5 : V.cell? ⟨w.heap.size, 5, none⟩ = some (clV B5) := hF.cells 5
    have k6 : V.cell? ⟨w.heap.size, 6, none⟩ = some (clV B6) := hF.cells 6
    have k7 : V.cell? ⟨w.heap.size, 7, none⟩ = some (clV B7) := hF.cells 7
    have k8 : V.cell? ⟨w.heap.size, 8, none⟩ = some (fnV 264) := hF.cells 8
    have k9 : V.cell? ⟨w.heap.size, 9, none⟩ = some (fnV 265) := hF.cells 9
    have k10 : V.cell? ⟨w.heap.size, 10, none⟩ = some (fnV 266) := hF.cells 10
    have k11 : V.cell? ⟨w.heap.size, 11, none⟩ = some (fnV 267) := hF.cells 11
    have k12 : V.cell? ⟨w.heap.size, 12, none⟩ = some (clV B12) := hF.cells 12
    have k13 : V.cell? ⟨w.heap.size, 13, none⟩ = some (clV B13) := hF.cells 13
    have k14 : V.cell? ⟨w.heap.size, 14, none⟩ = some (fnV 268) := hF.cells 14
    have k15 : V.cell? ⟨w.heap.size, 15, none⟩ = some (fnV 269) := hF.cells 15
    clear hF hV Z5
    exact tab_res_duals V w.heap.size _ _ _ _ _ _ _ _ _ _ _ _ _ _ _ _ _ k0 k1 k2 k3 k4 k5 k6 k7 k8 k9 k10 k11 k12 k13 k14 k15
  have hr1 : w.heap.size + 1 < w.heap.size + 2 := by omega
  have hr0 : w.heap.size < w.heap.size + 2 := by omega
  have h1le : w.heap.size ≤ w.heap.size + 1 := by omega
  exact ⟨B5, B6, B7, B12, B13, rfl, CloIn.clo (CloIn.set (CloIn.set (CloIn.set (CloIn.set (CloIn.set (CloIn.set (CloIn.set (CloIn.set (CloIn.set (CloIn.set (CloIn.set (CloIn.set (CloIn.set (CloIn.set (CloIn.set (CloIn.set (CloIn.set (CloIn.set (CloIn.set (CloIn.set K5.out hr1 12 (clV B12)) hr1 13 (clV B13)) hr1 14 (fnV 268)) hr1 15 (fnV 269)) hr0 0 (.nilFunc)) hr0 1 (.nilFunc)) hr0 2 (.nilFunc)) hr0 3 (.nilFunc)) hr0 4 (fnV 260)) hr0 5 (clV B5)) hr0 6 (clV B6)) hr0 7 (clV B7)) hr0 8 (fnV 264)) hr0 9 (fnV 265)) hr0 10 (fnV 266)) hr0 11 (fnV 267)) hr0 12 (clV B12)) hr0 13 (clV B13)) hr0 14 (fnV 268)) hr0 15 (fnV 269)), CloIn.clo (CloIn.set (CloIn.set (CloIn.set (CloIn.set (CloIn.set (CloIn.set (CloIn.set (CloIn.set (CloIn.set (CloIn.set (CloIn.set (CloIn.set (CloIn.set (CloIn.set (CloIn.set (CloIn.set (CloIn.set (CloIn.set (CloIn.set (CloIn.set K6.out hr1 12 (clV B12)) hr1 13 (clV B13)) hr1 14 (fnV 268)) hr1 15 (fnV 269)) hr0 0 (.nilFunc)) hr0 1 (.nilFunc)) hr0 2 (.nilFunc)) hr0 3 (.nilFunc)) hr0 4 (fnV 260)) hr0 5 (clV B5)) hr0 6 (clV B6)) hr0 7 (clV B7)) hr0 8 (fnV 264)) hr0 9 (fnV 265)) hr0 10 (fnV 266)) hr0 11 (fnV 267)) hr0 12 (clV B12)) hr0 13 (clV B13)) hr0 14 (fnV 268)) hr0 15 (fnV 269)), CloIn.clo (CloIn.set (CloIn.set (CloIn.set (CloIn.set (CloIn.set (CloIn.set (CloIn.set (CloIn.set (CloIn.set (CloIn.set (CloIn.set (CloIn.set (CloIn.set (CloIn.set (CloIn.set (CloIn.set (CloIn.set (CloIn.set (CloIn.set (CloIn.set K7.out hr1 12 (clV B12)) hr1 13 (clV B13)) hr1 14 (fnV 268)) hr1 15 (fnV 269)) hr0 0 (.nilFunc)) hr0 1 (.nilFunc)) hr0 2 (.nilFunc)) hr0 3 (.nilFunc)) hr0 4 (fnV 260)) hr0 5 (clV B5)) hr0 6 (clV B6)) hr0 7 (clV B7)) hr0 8 (fnV 264)) hr0 9 (fnV 265)) hr0 10 (fnV 266)) hr0 11 (fnV 267)) hr0 12 (clV B12)) hr0 13 (clV B13)) hr0 14 (fnV 268)) hr0 15 (fnV 269)), CloIn.clo (CloIn.set (CloIn.set (CloIn.set (CloIn.set (CloIn.set (CloIn.set (CloIn.set (CloIn.set (CloIn.set (CloIn.set (CloIn.set (CloIn.set (CloIn.set (CloIn.set (CloIn.set (CloIn.set (CloIn.set (CloIn.set (CloIn.set (CloIn.set K12.out hr1 12 (clV B12)) hr1 13 (clV B13)) hr1 14 (fnV 268)) hr1 15 (fnV 269)) hr0 0 (.nilFunc)) hr0 1 (.nilFunc)) hr0 2 (.nilFunc)) hr0 3 (.nilFunc)) hr0 4 (fnV 260)) hr0 5 (clV B5)) hr0 6 (clV B6)) hr0 7 (clV B7)) hr0 8 (fnV 264)) hr0 9 (fnV 265)) hr0 10 (fnV 266)) hr0 11 (fnV 267)) hr0 12 (clV B12)) hr0 13 (clV B13)) hr0 14 (fnV 268)) hr0 15 (fnV 269)), CloIn.clo (CloIn.set (CloIn.set (CloIn.set (CloIn.set (CloIn.set (CloIn.set (CloIn.set (CloIn.set (CloIn.set (CloIn.set (CloIn.set (CloIn.set (CloIn.set (CloIn.set (CloIn.set (CloIn.set (CloIn.set (CloIn.set (CloIn.set (CloIn.set K13.out hr1 12 (clV B12)) hr1 13 (clV B13)) hr1 14 (fnV 268)) hr1 15 (fnV 269)) hr0 0 (.nilFunc)) hr0 1 (.nilFunc)) hr0 2 (.nilFunc)) hr0 3 (.nilFunc)) hr0 4 (fnV 260)) hr0 5 (clV B5)) hr0 6 (clV B6)) hr0 7 (clV B7)) hr0 8 (fnV 264)) hr0 9 (fnV 265)) hr0 10 (fnV 266)) hr0 11 (fnV 267)) hr0 12 (clV B12)) hr0 13 (clV B13)) hr0 14 (fnV 268)) hr0 15 (fnV 269)), ((((((((((((((((((((HB5.out.setCell (p := ⟨w.heap.size + 1, 12, none⟩) h1le (clV B12)).setCell (p := ⟨w.heap.size + 1, 13, none⟩) h1le (clV B13)).setCell (p := ⟨w.heap.size + 1, 14, none⟩) h1le (fnV 268)).setCell (p := ⟨w.heap.size + 1, 15, none⟩) h1le (fnV 269)).setCell (p := ⟨w.heap.size, 0, none⟩) (Nat.le_refl _) (.nilFunc)).setCell (p := ⟨w.heap.size, 1, none⟩) (Nat.le_refl _) (.nilFunc)).setCell (p := ⟨w.heap.size, 2, none⟩) (Nat.le_refl _) (.nilFunc)).setCell (p := ⟨w.heap.size, 3, none⟩) (Nat.le_refl _) (.nilFunc)).setCell (p := ⟨w.heap.size, 4, none⟩) (Nat.le_refl _) (fnV 260)).setCell (p := ⟨w.heap.size, 5, none⟩) (Nat.le_refl _) (clV B5)).setCell (p := ⟨w.heap.size, 6, none⟩) (Nat.le_refl _) (clV B6)).setCell (p := ⟨w.heap.size, 7, none⟩) (Nat.le_refl _) (clV B7)).setCell (p := ⟨w.heap.size, 8, none⟩) (Nat.le_refl _) (fnV 264)).setCell (p := ⟨w.heap.size, 9, none⟩) (Nat.le_refl _) (fnV 265)).setCell (p := ⟨w.heap.size, 10, none⟩) (Nat.le_refl _) (fnV 266)).setCell (p := ⟨w.heap.size, 11, none⟩) (Nat.le_refl _) (fnV 267)).setCell (p := ⟨w.heap.size, 12, none⟩) (Nat.le_refl _) (clV B12)).setCell (p := ⟨w.heap.size, 13, none⟩) (Nat.le_refl _) (clV B13)).setCell (p := ⟨w.heap.size, 14, none⟩) (Nat.le_refl _) (fnV 268)).setCell (p := ⟨w.heap.size, 15, none⟩) (Nat.le_refl _) (fnV 269))⟩

end Go.Proofs.YtmmakkaolknbaaaGreatDoor
