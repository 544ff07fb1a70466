/- Contract of augurlaw07.known: it holds. -/
import Derived.Test.YtmmakkaolknbaaaGreatDoorLawC
namespace Go.Proofs.YtmmakkaolknbaaaGreatDoor
set_option linter.unusedVariables false
set_option linter.unusedSimpArgs false
open Go.RowKit Go.Shelf

abbrev strP : ByteArray := ⟨#[112]⟩
abbrev propP : Fm := .mk 3 strP []
abbrev knF : Fm := .mk 10 nil8 [propP]
abbrev knA : Fm := .mk 5 nil8 [T1, propP]
theorem knF_right : knF.rightE futureB = 0 := by decide
theorem knA_right : knA.rightE futureB = 0 := by decide
theorem knF_n : knF.madeE false = 0 ∧ knF.madeF false = two 12 T1 propP := by
  have h : knF.madeE false = 0 := by decide
  exact ⟨h, by unfold Fm.madeF; rw [if_pos h]; rfl⟩
theorem knF_d : knF.madeE true = 0 ∧ knF.madeF true = two 13 F1 (neg1 propP) := by
  have h : knF.madeE true = 0 := by decide
  exact ⟨h, by unfold Fm.madeF; rw [if_pos h]; rfl⟩
theorem knA_s : knA.simple = propP := by kernel_rfl
theorem kn_is : (two 12 T1 propP).isR = true ∧ (two 13 F1 (neg1 propP)).isR = true ∧ knF.isR = false := by decide
theorem prop_c (s : ByteArray) (w : World) : Calls Tryz.prog 72 #[.string s] w fun e w' => e = .returned (fv 3 s none 0 0) ∧ Below w.heap.size w w' := by
  go_enter Tryz.func72, Tryz.ntmps72
  go_wp2_with fail
  refine bodyPost_ret (v := fv 3 s none 0 0) (by simp [results, Tryz.results72, go_sem]) rfl ?_
  exact ⟨rfl, (by repeat (first | (with_reducible exact Below.refl _ _) | (with_reducible assumption) | refine below_alloc ?_ _ | refine Below.drew ?_ | refine below_drewN ?_ _))⟩
theorem IsTX.head_ {X : Nat → Prop} {W : World} {op op' : Int} {nm nm' : ByteArray} {a : Option Addr} {n c : Nat} {ks : List Fm} (h : IsTX X W op nm a n c (.mk op' nm' ks)) : op = op' ∧ nm = nm' := by
  obtain ⟨_, _, _, _, e, _⟩ := h.parts
  cases e
  exact ⟨rfl, rfl⟩

set_option maxRecDepth 100000 in
set_option maxHeartbeats 4000000 in
/-- augurlaw07.known. -/
theorem known_c (w : World) (hL : Laid w) : Calls Tryz.prog 16 #[] w fun e w' => e = .returned (.bool true) ∧ Below w.heap.size w w' := by
  have HL := Aside.mk hL
  clear hL
  go_enter Tryz.func16, Tryz.ntmps16
  go_wp2_with fail
  refine (prop_c _ _).mono ?_
  rintro e w1 ⟨rfl, hb1⟩
  have HB1 : Aside (Below w.heap.size w w1) := ⟨hb1⟩
  clear hb1
  go_wp2_with fail
  -- Normal
  have hT1 : IsT ((w1.alloc (.cells #[.int .u8 3, .string strP, .slice none 0 0] 25)).alloc (.cells #[.int .u8 10, .string nil8, .slice (some ⟨w1.heap.size, 0, none⟩) 1 1] 25)) 10 nil8 (some ⟨w1.heap.size, 0, none⟩) 1 1 knF :=
    .of_parts (by omega) (by omega) (by decide) (isS1 (o0 := 3) (n0 := strP) (a0 := none) (l0 := 0) (c0 := 0) trivial (by go_simp) (by go_simp) (by go_simp) (.leaf _ _ _ _ (by omega) (by omega) (by decide) (by omega)))
  have HT1 := Aside.mk hT1
  have HBa : Aside (Below w.heap.size w ((w1.alloc (.cells #[.int .u8 3, .string strP, .slice none 0 0] 25)).alloc (.cells #[.int .u8 10, .string nil8, .slice (some ⟨w1.heap.size, 0, none⟩) 1 1] 25))) := ⟨below_to HB1.out (by repeat (first | (with_reducible exact Below.refl _ _) | (with_reducible assumption) | refine below_alloc ?_ _ | refine Below.drew ?_ | refine below_drewN ?_ _))⟩
  clear hT1
  have HC1 := Aside.mk (Normal_ok knF 10 nil8 (some ⟨w1.heap.size, 0, none⟩) 1 1 _ (HL.out.keep HBa.out) HT1.out knF_right)
  rw [knF_n.1, knF_n.2] at HC1
  refine HC1.out.mono ?_
  rintro e w2 ⟨o2, n2, a2, l2, d2, rfl, hT2, hb2⟩
  obtain ⟨rfl, rfl⟩ := hT2.head_
  have HB2 : Aside (Below w.heap.size w w2) := ⟨below_to HBa.out hb2⟩
  have HT1b := Aside.mk (HT1.out.keep hb2)
  have HT2 := Aside.mk hT2.any
  have x0 : w2.cell? ⟨w1.heap.size + 1, 0, none⟩ = some (.int .u8 10) := cell_below hb2 (by go_simp)
  have x1 : w2.cell? ⟨w1.heap.size + 1, 1, none⟩ = some (.string nil8) := cell_below hb2 (by go_simp)
  have x2 : w2.cell? ⟨w1.heap.size + 1, 2, none⟩ = some (.slice (some ⟨w1.heap.size, 0, none⟩) 1 1) := cell_below hb2 (by go_simp)
  have xs : w1.heap.size + 1 < w2.heap.size := by have := hb2.size; simp at this; omega
  clear hT2 hb2 HC1 HT1 HBa
  go_wp2_with fail
  -- Dual
  have HBb : Aside (Below w.heap.size w (w2.alloc (.cells #[.int .u8 12, .string nil8, .slice a2 l2 d2] 25))) := ⟨below_alloc HB2.out _⟩
  have HC2 := Aside.mk (Dual_ok (X := AnyB) knF 10 nil8 (some ⟨w1.heap.size, 0, none⟩) 1 1 _ (HL.out.keep HBb.out) (HT1b.out.keep ((Below.refl _ _).alloc (Nat.le_refl _) _)) knF_right)
  rw [knF_d.1, knF_d.2] at HC2
  refine HC2.out.mono ?_
  rintro e w3 ⟨o3, n3, a3, l3, d3, rfl, hT3, hb3⟩
  obtain ⟨rfl, rfl⟩ := hT3.head_
  have HB3 : Aside (Below w.heap.size w w3) := ⟨below_to HBb.out hb3⟩
  have hb23 : Below w2.heap.size w2 w3 := below_to (by repeat (first | (with_reducible exact Below.refl _ _) | (with_reducible assumption) | refine below_alloc ?_ _ | refine Below.drew ?_ | refine below_drewN ?_ _)) hb3
  have HT1c := Aside.mk (HT1b.out.keep hb23)
  have HT2c := Aside.mk (HT2.out.keep hb23)
  have HT3 := Aside.mk hT3.any
  have y0 : w3.cell? ⟨w2.heap.size, 0, none⟩ = some (.int .u8 12) := cell_below hb3 (by go_simp)
  have y1 : w3.cell? ⟨w2.heap.size, 1, none⟩ = some (.string nil8) := cell_below hb3 (by go_simp)
  have y2 : w3.cell? ⟨w2.heap.size, 2, none⟩ = some (.slice a2 l2 d2) := cell_below hb3 (by go_simp)
  have ys : w2.heap.size < w3.heap.size := by have := hb3.size; simp at this; omega
  have x0' := cell_below hb23 x0
  have x1' := cell_below hb23 x1
  have x2' := cell_below hb23 x2
  have xs' : w1.heap.size + 1 < w3.heap.size := by omega
  clear hT3 hb3 HC2 HBb hb23 x0 x1 x2 xs HT1b HT2
  go_wp2_with fail
  refine (prop_c _ _).mono ?_
  rintro e w4 ⟨rfl, hb4⟩
  have HB4 : Aside (Below w.heap.size w w4) := ⟨below_to HB3.out (below_to (by repeat (first | (with_reducible exact Below.refl _ _) | (with_reducible assumption) | refine below_alloc ?_ _ | refine Below.drew ?_ | refine below_drewN ?_ _)) hb4)⟩
  have hb34 : Below w3.heap.size w3 w4 := below_to (by repeat (first | (with_reducible exact Below.refl _ _) | (with_reducible assumption) | refine below_alloc ?_ _ | refine Below.drew ?_ | refine below_drewN ?_ _)) hb4
  have HT1d := Aside.mk (HT1c.out.keep hb34)
  have HT2d := Aside.mk (HT2c.out.keep hb34)
  have HT3d := Aside.mk (HT3.out.keep hb34)
  have z0 : w4.cell? ⟨w3.heap.size, 0, none⟩ = some (.int .u8 13) := cell_below hb4 (by go_simp)
  have z1 : w4.cell? ⟨w3.heap.size, 1, none⟩ = some (.string nil8) := cell_below hb4 (by go_simp)
  have z2 : w4.cell? ⟨w3.heap.size, 2, none⟩ = some (.slice a3 l3 d3) := cell_below hb4 (by go_simp)
  have zs : w3.heap.size < w4.heap.size := by have := hb4.size; simp at this; omega
  have x0 := cell_below hb34 x0'
  have x1 := cell_below hb34 x1'
  have x2 := cell_below hb34 x2'
  have y0' := cell_below hb34 y0
  have y1' := cell_below hb34 y1
  have y2' := cell_below hb34 y2
  have xs : w1.heap.size + 1 < w4.heap.size := by omega
  have ys' : w2.heap.size < w4.heap.size := by omega
  clear hb4 hb34 x0' x1' x2' xs' y0 y1 y2 ys HT1c HT2c HT3
  go_wp2_with fail
  -- Simple
  have hTA : IsT (w4.alloc (.cells #[.int .u8 1, .string nil8, .slice none 0 0, .int .u8 3, .string strP, .slice none 0 0] 25)) 5 nil8 (some ⟨w4.heap.size, 0, none⟩) 2 2 knA :=
    .of_parts (by omega) (by omega) (by decide) (isS2 (o0 := 1) (n0 := nil8) (a0 := none) (l0 := 0) (c0 := 0) (o1 := 3) (n1 := strP) (a1 := none) (l1 := 0) (c1 := 0) trivial (by go_simp) (by go_simp) (by go_simp) (by go_simp) (by go_simp) (by go_simp) (.leaf _ _ _ _ (by omega) (by omega) (by decide) (by omega)) (.leaf _ _ _ _ (by omega) (by omega) (by decide) (by omega)))
  have HC3 := Aside.mk (Simple_ok knA 5 nil8 (some ⟨w4.heap.size, 0, none⟩) 2 2 _ (HL.out.keep (below_alloc HB4.out _)) hTA knA_right)
  rw [knA_s] at HC3
  refine HC3.out.mono ?_
  rintro e w5 ⟨o5, n5, a5, l5, d5, rfl, hT5, hb5⟩
  obtain ⟨rfl, rfl⟩ := hT5.head_
  have HB5 : Aside (Below w.heap.size w w5) := ⟨below_to HB4.out (below_to (by repeat (first | (with_reducible exact Below.refl _ _) | (with_reducible assumption) | refine below_alloc ?_ _ | refine Below.drew ?_ | refine below_drewN ?_ _)) hb5)⟩
  have hb45 : Below w4.heap.size w4 w5 := below_to (by repeat (first | (with_reducible exact Below.refl _ _) | (with_reducible assumption) | refine below_alloc ?_ _ | refine Below.drew ?_ | refine below_drewN ?_ _)) hb5
  have HT1e := Aside.mk (HT1d.out.keep hb45)
  have HT2e := Aside.mk (HT2d.out.keep hb45)
  have HT3e := Aside.mk (HT3d.out.keep hb45)
  have x0' := cell_below hb45 x0
  have x1' := cell_below hb45 x1
  have x2' := cell_below hb45 x2
  have y0 := cell_below hb45 y0'
  have y1 := cell_below hb45 y1'
  have y2 := cell_below hb45 y2'
  have z0' := cell_below hb45 z0
  have z1' := cell_below hb45 z1
  have z2' := cell_below hb45 z2
  have hs5 : w4.heap.size ≤ w5.heap.size := hb45.size
  have xs' : w1.heap.size + 1 < w5.heap.size := by omega
  have ys : w2.heap.size < w5.heap.size := by omega
  have zs' : w3.heap.size < w5.heap.size := by omega
  clear hb5 hb45 x0 x1 x2 xs y0' y1' y2' ys' z0 z1 z2 zs HT1d HT2d HT3d hTA hT5 HC3 hs5
  go_wp2_with fail
  -- Is, thrice
  have HB6 : Aside (Below w.heap.size w (w5.alloc (.cells #[.int .u8 3, .string strP, .slice a5 l5 d5] 25))) := ⟨below_alloc HB5.out _⟩
  have HI1 := Aside.mk (Is_c (two 12 T1 propP) 12 nil8 a2 l2 d2 _ (HL.out.keep HB6.out) (HT2e.out.keep ((Below.refl _ _).alloc (Nat.le_refl _) _)) (by decide))
  rw [kn_is.1] at HI1
  refine HI1.out.mono ?_
  rintro e w6 ⟨rfl, hb6⟩
  have HB7 : Aside (Below w.heap.size w w6) := ⟨below_to HB6.out hb6⟩
  have hb56 : Below w5.heap.size w5 w6 := below_to (by repeat (first | (with_reducible exact Below.refl _ _) | (with_reducible assumption) | refine below_alloc ?_ _ | refine Below.drew ?_ | refine below_drewN ?_ _)) hb6
  have HT1f := Aside.mk (HT1e.out.keep hb56)
  have HT3f := Aside.mk (HT3e.out.keep hb56)
  have x0 := cell_below hb56 x0'
  have x1 := cell_below hb56 x1'
  have x2 := cell_below hb56 x2'
  have z0 := cell_below hb56 z0'
  have z1 := cell_below hb56 z1'
  have z2 := cell_below hb56 z2'
  clear hb6 hb56 x0' x1' x2' z0' z1' z2' y0 y1 y2 HT1e HT2e HT3e HI1 xs' ys zs'
  go_wp2_with fail
  have HI2 := Aside.mk (Is_c (two 13 F1 (neg1 propP)) 13 nil8 a3 l3 d3 _ (HL.out.keep HB7.out) HT3f.out (by decide))
  rw [kn_is.2.1] at HI2
  refine HI2.out.mono ?_
  rintro e w7 ⟨rfl, hb7⟩
  have HB8 : Aside (Below w.heap.size w w7) := ⟨below_to HB7.out hb7⟩
  have HT1g := Aside.mk (HT1f.out.keep hb7)
  have HT3g := Aside.mk (HT3f.out.keep hb7)
  have x0' := cell_below hb7 x0
  have x1' := cell_below hb7 x1
  have x2' := cell_below hb7 x2
  have z0' := cell_below hb7 z0
  have z1' := cell_below hb7 z1
  have z2' := cell_below hb7 z2
  clear hb7 x0 x1 x2 z0 z1 z2 HT1f HT3f HI2
  go_wp2_with fail
  have HI3 := Aside.mk (Is_c knF 10 nil8 (some ⟨w1.heap.size, 0, none⟩) 1 1 _ (HL.out.keep HB8.out) HT1g.out (by decide))
  rw [kn_is.2.2] at HI3
  refine HI3.out.mono ?_
  rintro e w8 ⟨rfl, hb8⟩
  have HB9 : Aside (Below w.heap.size w w8) := ⟨below_to HB8.out hb8⟩
  have hT3h := HT3g.out.keep hb8
  have z0 := cell_below hb8 z0'
  have z1 := cell_below hb8 z1'
  have z2 := cell_below hb8 z2'
  obtain ⟨_, _, _, ks, e, hS⟩ := hT3h.parts
  obtain rfl : ks = [F1, neg1 propP] := by cases e; rfl
  obtain rfl : l3 = 2 := hS.1
  obtain ⟨b, o, rfl, hbl, x, op1, nm1, a1, n1, c1, X, q0, q1, q2, hT4⟩ := hS.at_ 1 (by omega)
  obtain rfl : x = neg1 propP := by have := X.get; simp at this; exact this.symm
  obtain ⟨rfl, rfl⟩ := hT4.head_
  simp only [Nat.one_mul] at q0 q1 q2
  clear hb8 x0' x1' x2' z0' z1' z2' HT1g HT3g HI3 hT3h hS X hT4 e
  go_wp2_with fail
  go_ret
  exact ⟨rfl, HB9.out⟩
end Go.Proofs.YtmmakkaolknbaaaGreatDoor
