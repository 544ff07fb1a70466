/- Contract of nnf.form: printed by gen_formI.py. -/
import Derived.Test.YtmmakkaolknbaaaGreatDoorFormI
namespace Go.Proofs.YtmmakkaolknbaaaGreatDoor
set_option linter.unusedVariables false
set_option linter.unusedSimpArgs false
open Go.RowKit Go.Shelf

def TabN (v : Value) (W : World) : Prop := ∃ B5 B6 B7 B12 B13 : Nat, v = .agg #[.nilFunc, .nilFunc, .nilFunc, .nilFunc, fnV 270, clV B5, clV B6, clV B7, fnV 271, fnV 272, fnV 273, fnV 274, clV B12, clV B13, fnV 275, fnV 276] ∧ Clo 5 261 261 (clV B5) W ∧ Clo 6 261 261 (clV B6) W ∧ Clo 6 263 261 (clV B7) W ∧ Clo 12 261 261 (clV B12) W ∧ Clo 13 261 261 (clV B13) W
theorem tabN_stable : Stable TabN := by
  rintro v W W' ⟨B5, B6, B7, B12, B13, e, h5, h6, h7, h12, h13⟩ hb
  exact ⟨B5, B6, B7, B12, B13, e, clo_stable _ _ _ _ W W' h5 hb, clo_stable _ _ _ _ W W' h6 hb, clo_stable _ _ _ _ W W' h7 hb, clo_stable _ _ _ _ W W' h12 hb, clo_stable _ _ _ _ W W' h13 hb⟩
theorem tabN_c (w : World) : Calls Tryz.prog 225 #[] w fun e w' => ∃ v, e = .returned v ∧ TabN v w' ∧ Below w.heap.size w w' :=
  (normals_c w).mono fun e w' ⟨B5, B6, B7, B12, B13, he, h5, h6, h7, h12, h13, hb⟩ => ⟨_, he, ⟨B5, B6, B7, B12, B13, rfl, h5, h6, h7, h12, h13⟩, hb⟩

set_option maxRecDepth 100000 in
set_option maxHeartbeats 4000000 in
/-- form of a node. -/
theorem formN_node (op : Int) (nm : ByteArray) (ks : List Fm) (h0 : 4 ≤ op) (h1 : op ≤ 15) (F : Fm) (hE : EntN op ks F) {X : Nat → Prop} (a : Option Addr) (n c : Nat) (w : World) (hS : IsSX X w a n c ks) (hn : 0 < n) :
    Calls Tryz.prog 147 #[fv op nm a n c, .bool false] w (RetX X F w) := by
  have e1 : (op == 1) = false := by simp; omega
  have e2 : (op == 2) = false := by simp; omega
  have e3 : (op == 3) = false := by simp; omega
  have en : ((n : Int) == 0) = false := by simp; omega
  have HE := Aside.mk hE
  have HS2 := Aside.mk (fun W (hW : Below w.heap.size w W) => (show IsSX (fun b => X b ∧ b < w.heap.size) W a n c ks from (hS.mono (Y := fun b => X b ∧ b < w.heap.size) fun b h1 h2 => ⟨h1, h2⟩).keep hW))
  clear hE hS
  go_enter Tryz.func147, Tryz.ntmps147
  go_wp2_with fail
  refine wp_region_mono 7 (by kernel_rfl) (by kernel_rfl) [TabN, fun v _ => v = .pointer (some ⟨w.heap.size, 0, none⟩), fun v _ => v = .int .u8 op, MkV ks F, fun v _ => v = .pointer (some ⟨w.heap.size, 2, none⟩), fun v _ => v = .slice a n c, trV (fun b => (X b ∧ b < w.heap.size) ∨ w.heap.size + 3 ≤ b) F]
    ⟨tabN_stable, stable_eq _, stable_eq _, mkV_stable _ _, stable_eq _, stable_eq _, trV_stable _ _, trivial⟩ ?_ ?_
  · simp only [List.take_succ_cons, List.take_zero]
    refine steps_cons ?_ (steps_cons ?_ (steps_cons ?_ (steps_cons ?_ (steps_cons ?_ (steps_cons ?_ (steps_cons ?_ steps_nil))))))
    all_goals intro vals W hW hv; try simp only [Act.put, List.setIfInBounds_toArray, List.set_cons_zero, List.set_cons_succ]
    · go_wp2_with fail
      refine (tabN_c W).mono ?_
      rintro e w' ⟨v, rfl, hV, hb⟩
      have HV := Aside.mk hV
      clear hV
      go_wp2_with fail
      exact ⟨rfl, _, rfl, hb, HV.out⟩
    · go_wp2_with fail
      exact ⟨rfl, _, rfl, (by repeat (first | (with_reducible exact Below.refl _ _) | (with_reducible assumption) | refine below_alloc ?_ _ | refine Below.drew ?_ | refine below_drewN ?_ _)), rfl⟩
    · have e1' : vals 1 = _ := hv ⟨1, .data⟩ (by simp) rfl
      simp only [e1']
      have hopW : W.cell? ⟨w.heap.size, 0, none⟩ = some (.int .u8 op) := cell_below hW (by go_simp)
      go_wp2_with fail
      exact ⟨rfl, _, rfl, (by repeat (first | (with_reducible exact Below.refl _ _) | (with_reducible assumption) | refine below_alloc ?_ _ | refine Below.drew ?_ | refine below_drewN ?_ _)), rfl⟩
    · obtain ⟨B5, B6, B7, B12, B13, e0, h5, h6, h7, h12, h13⟩ := hv ⟨0, .data⟩ (by simp) rfl
      have e2' : vals 2 = _ := hv ⟨2, .data⟩ (by simp) rfl
      simp only [e0, e2']
      have H5 := Aside.mk h5
      have H6 := Aside.mk h6
      have H7 := Aside.mk h7
      have H12 := Aside.mk h12
      have H13 := Aside.mk h13
      clear h5 h6 h7 h12 h13 e1 e2 e3 hv e0 e2' hW
      have hsz := szMaker
      rcases (show op = 4 ∨ op = 5 ∨ op = 6 ∨ op = 7 ∨ op = 8 ∨ op = 9 ∨ op = 10 ∨ op = 11 ∨ op = 12 ∨ op = 13 ∨ op = 14 ∨ op = 15 by omega) with rfl | rfl | rfl | rfl | rfl | rfl | rfl | rfl | rfl | rfl | rfl | rfl
      · go_wp2_with fail
        rename_i hK
        refine hK _ _ ?_
        exact ⟨rfl, _, rfl, (by repeat (first | (with_reducible exact Below.refl _ _) | (with_reducible assumption) | refine below_alloc ?_ _ | refine Below.drew ?_ | refine below_drewN ?_ _)), .inl ⟨_, rfl, HE.out⟩⟩
      · go_wp2_with fail
        rename_i hK
        refine hK _ _ ?_
        exact ⟨rfl, _, rfl, (by repeat (first | (with_reducible exact Below.refl _ _) | (with_reducible assumption) | refine below_alloc ?_ _ | refine Below.drew ?_ | refine below_drewN ?_ _)), .inr ⟨_, _, _, H5.out, HE.out⟩⟩
      · go_wp2_with fail
        rename_i hK
        refine hK _ _ ?_
        exact ⟨rfl, _, rfl, (by repeat (first | (with_reducible exact Below.refl _ _) | (with_reducible assumption) | refine below_alloc ?_ _ | refine Below.drew ?_ | refine below_drewN ?_ _)), .inr ⟨_, _, _, H6.out, HE.out⟩⟩
      · go_wp2_with fail
        rename_i hK
        refine hK _ _ ?_
        exact ⟨rfl, _, rfl, (by repeat (first | (with_reducible exact Below.refl _ _) | (with_reducible assumption) | refine below_alloc ?_ _ | refine Below.drew ?_ | refine below_drewN ?_ _)), .inr ⟨_, _, _, H7.out, HE.out⟩⟩
      · go_wp2_with fail
        rename_i hK
        refine hK _ _ ?_
        exact ⟨rfl, _, rfl, (by repeat (first | (with_reducible exact Below.refl _ _) | (with_reducible assumption) | refine below_alloc ?_ _ | refine Below.drew ?_ | refine below_drewN ?_ _)), .inl ⟨_, rfl, HE.out⟩⟩
      · go_wp2_with fail
        rename_i hK
        refine hK _ _ ?_
        exact ⟨rfl, _, rfl, (by repeat (first | (with_reducible exact Below.refl _ _) | (with_reducible assumption) | refine below_alloc ?_ _ | refine Below.drew ?_ | refine below_drewN ?_ _)), .inl ⟨_, rfl, HE.out⟩⟩
      · go_wp2_with fail
        rename_i hK
        refine hK _ _ ?_
        exact ⟨rfl, _, rfl, (by repeat (first | (with_reducible exact Below.refl _ _) | (with_reducible assumption) | refine below_alloc ?_ _ | refine Below.drew ?_ | refine below_drewN ?_ _)), .inl ⟨_, rfl, HE.out⟩⟩
      · go_wp2_with fail
        rename_i hK
        refine hK _ _ ?_
        exact ⟨rfl, _, rfl, (by repeat (first | (with_reducible exact Below.refl _ _) | (with_reducible assumption) | refine below_alloc ?_ _ | refine Below.drew ?_ | refine below_drewN ?_ _)), .inl ⟨_, rfl, HE.out⟩⟩
      · go_wp2_with fail
        rename_i hK
        refine hK _ _ ?_
        exact ⟨rfl, _, rfl, (by repeat (first | (with_reducible exact Below.refl _ _) | (with_reducible assumption) | refine below_alloc ?_ _ | refine Below.drew ?_ | refine below_drewN ?_ _)), .inr ⟨_, _, _, H12.out, HE.out⟩⟩
      · go_wp2_with fail
        rename_i hK
        refine hK _ _ ?_
        exact ⟨rfl, _, rfl, (by repeat (first | (with_reducible exact Below.refl _ _) | (with_reducible assumption) | refine below_alloc ?_ _ | refine Below.drew ?_ | refine below_drewN ?_ _)), .inr ⟨_, _, _, H13.out, HE.out⟩⟩
      · go_wp2_with fail
        rename_i hK
        refine hK _ _ ?_
        exact ⟨rfl, _, rfl, (by repeat (first | (with_reducible exact Below.refl _ _) | (with_reducible assumption) | refine below_alloc ?_ _ | refine Below.drew ?_ | refine below_drewN ?_ _)), .inl ⟨_, rfl, HE.out⟩⟩
      · go_wp2_with fail
        rename_i hK
        refine hK _ _ ?_
        exact ⟨rfl, _, rfl, (by repeat (first | (with_reducible exact Below.refl _ _) | (with_reducible assumption) | refine below_alloc ?_ _ | refine Below.drew ?_ | refine below_drewN ?_ _)), .inl ⟨_, rfl, HE.out⟩⟩
    · go_wp2_with fail
      exact ⟨rfl, _, rfl, (by repeat (first | (with_reducible exact Below.refl _ _) | (with_reducible assumption) | refine below_alloc ?_ _ | refine Below.drew ?_ | refine below_drewN ?_ _)), rfl⟩
    · have e4' : vals 4 = _ := hv ⟨4, .data⟩ (by simp) rfl
      simp only [e4']
      have hopW : W.cell? ⟨w.heap.size, 2, none⟩ = some (.slice a n c) := cell_below hW (by go_simp)
      go_wp2_with fail
      exact ⟨rfl, _, rfl, (by repeat (first | (with_reducible exact Below.refl _ _) | (with_reducible assumption) | refine below_alloc ?_ _ | refine Below.drew ?_ | refine below_drewN ?_ _)), rfl⟩
    · have e5' : vals 5 = _ := hv ⟨5, .data⟩ (by simp) rfl
      have hWB : Below w.heap.size w W := below_to (by repeat (first | (with_reducible exact Below.refl _ _) | (with_reducible assumption) | refine below_alloc ?_ _ | refine Below.drew ?_ | refine below_drewN ?_ _)) hW
      have hz : w.heap.size + 3 ≤ W.heap.size := by have := hW.size; simp at this; omega
      rcases hv ⟨3, .data⟩ (by simp) rfl with ⟨g, e3', hent, hG⟩ | ⟨q, g1, g2, ⟨B, e3', k0, k1, k2⟩, hG⟩
      · have HG := Aside.mk (hG _ a n c W (HS2.out W hWB))
        clear hG hv
        simp only [e3', e5']
        go_wp2_with fail
        refine HG.out.mono ?_
        rintro e w' ⟨o2, n2, a2, l2, d2, rfl, hT2, hb⟩
        have HT2 := Aside.mk hT2
        clear hT2
        go_wp2_with fail
        exact ⟨rfl, _, rfl, hb, o2, n2, a2, l2, d2, rfl, HT2.out.mono fun b hb2 _ => hb2.elim .inl fun hb2 => .inr (by omega)⟩
      · have HG := Aside.mk (hG _ a n c W B (HS2.out W hWB) k0 k1 k2)
        clear hG hv k0 k1 k2
        simp only [e3', e5']
        go_wp2_with fail
        refine HG.out.mono ?_
        rintro e w' ⟨o2, n2, a2, l2, d2, rfl, hT2, hb⟩
        have HT2 := Aside.mk hT2
        clear hT2
        go_wp2_with fail
        exact ⟨rfl, _, rfl, hb, o2, n2, a2, l2, d2, rfl, HT2.out.mono fun b hb2 _ => hb2.elim .inl fun hb2 => .inr (by omega)⟩
  · intro vals W hW hv
    obtain ⟨o2, n2, a2, l2, d2, e6, hT2⟩ := hv 6 (by omega)
    have HT2 := Aside.mk hT2
    have HB : Aside (Below w.heap.size w W) := ⟨below_to (by repeat (first | (with_reducible exact Below.refl _ _) | (with_reducible assumption) | refine below_alloc ?_ _ | refine Below.drew ?_ | refine below_drewN ?_ _)) hW⟩
    have hsz : w.heap.size + 1 < W.heap.size := by have := hW.size; simp at this; omega
    have r0 : W.cell? ⟨w.heap.size + 1, 0, none⟩ = some (.int .u8 0) := cell_below hW (by go_simp)
    have r1 : W.cell? ⟨w.heap.size + 1, 1, none⟩ = some (.string nil8) := cell_below hW (by go_simp)
    have r2 : W.cell? ⟨w.heap.size + 1, 2, none⟩ = some (.slice none 0 0) := cell_below hW (by go_simp)
    have f0 : W.frozen? ⟨w.heap.size + 1, 0, none⟩ = false := (hW.frozen (by simp)).trans (by go_simp)
    have f1 : W.frozen? ⟨w.heap.size + 1, 1, none⟩ = false := (hW.frozen (by simp)).trans (by go_simp)
    have f2 : W.frozen? ⟨w.heap.size + 1, 2, none⟩ = false := (hW.frozen (by simp)).trans (by go_simp)
    simp only [List.take_succ_cons, List.take_zero, List.drop_succ_cons, List.drop_zero, lexL, Act.put, List.setIfInBounds_toArray, List.set_cons_zero, List.set_cons_succ, e6]
    clear hv hT2 hW HE HS2
    go_wp2_with fail
    refine bodyPost_ret (v := fv o2 n2 a2 l2 d2) (by simp [results, Tryz.results147, go_sem, r0, r1, r2]) rfl ?_
    exact RetX.at_ (w.heap.size + 3) HT2.out HB.out (by omega) (by omega) _ _ _

def TabD (v : Value) (W : World) : Prop := ∃ B5 B6 B7 B12 B13 : Nat, v = .agg #[.nilFunc, .nilFunc, .nilFunc, .nilFunc, fnV 260, clV B5, clV B6, clV B7, fnV 264, fnV 265, fnV 266, fnV 267, clV B12, clV B13, fnV 268, fnV 269] ∧ Clo 6 263 263 (clV B5) W ∧ Clo 5 263 263 (clV B6) W ∧ Clo 5 261 263 (clV B7) W ∧ Clo 13 263 263 (clV B12) W ∧ Clo 12 263 263 (clV B13) W
theorem tabD_stable : Stable TabD := by
  rintro v W W' ⟨B5, B6, B7, B12, B13, e, h5, h6, h7, h12, h13⟩ hb
  exact ⟨B5, B6, B7, B12, B13, e, clo_stable _ _ _ _ W W' h5 hb, clo_stable _ _ _ _ W W' h6 hb, clo_stable _ _ _ _ W W' h7 hb, clo_stable _ _ _ _ W W' h12 hb, clo_stable _ _ _ _ W W' h13 hb⟩
theorem tabD_c (w : World) : Calls Tryz.prog 224 #[] w fun e w' => ∃ v, e = .returned v ∧ TabD v w' ∧ Below w.heap.size w w' :=
  (duals_c w).mono fun e w' ⟨B5, B6, B7, B12, B13, he, h5, h6, h7, h12, h13, hb⟩ => ⟨_, he, ⟨B5, B6, B7, B12, B13, rfl, h5, h6, h7, h12, h13⟩, hb⟩

set_option maxRecDepth 100000 in
set_option maxHeartbeats 4000000 in
/-- form of a node. -/
theorem formD_node (op : Int) (nm : ByteArray) (ks : List Fm) (h0 : 4 ≤ op) (h1 : op ≤ 15) (F : Fm) (hE : EntD op ks F) {X : Nat → Prop} (a : Option Addr) (n c : Nat) (w : World) (hS : IsSX X w a n c ks) (hn : 0 < n) :
    Calls Tryz.prog 147 #[fv op nm a n c, .bool true] w (RetX X F w) := by
  have e1 : (op == 1) = false := by simp; omega
  have e2 : (op == 2) = false := by simp; omega
  have e3 : (op == 3) = false := by simp; omega
  have en : ((n : Int) == 0) = false := by simp; omega
  have HE := Aside.mk hE
  have HS2 := Aside.mk (fun W (hW : Below w.heap.size w W) => (show IsSX (fun b => X b ∧ b < w.heap.size) W a n c ks from (hS.mono (Y := fun b => X b ∧ b < w.heap.size) fun b h1 h2 => ⟨h1, h2⟩).keep hW))
  clear hE hS
  go_enter Tryz.func147, Tryz.ntmps147
  go_wp2_with fail
  refine wp_region_mono 7 (by kernel_rfl) (by kernel_rfl) [TabD, fun v _ => v = .pointer (some ⟨w.heap.size, 0, none⟩), fun v _ => v = .int .u8 op, MkV ks F, fun v _ => v = .pointer (some ⟨w.heap.size, 2, none⟩), fun v _ => v = .slice a n c, trV (fun b => (X b ∧ b < w.heap.size) ∨ w.heap.size + 3 ≤ b) F]
    ⟨tabD_stable, stable_eq _, stable_eq _, mkV_stable _ _, stable_eq _, stable_eq _, trV_stable _ _, trivial⟩ ?_ ?_
  · simp only [List.take_succ_cons, List.take_zero]
    refine steps_cons ?_ (steps_cons ?_ (steps_cons ?_ (steps_cons ?_ (steps_cons ?_ (steps_cons ?_ (steps_cons ?_ steps_nil))))))
    all_goals intro vals W hW hv; try simp only [Act.put, List.setIfInBounds_toArray, List.set_cons_zero, List.set_cons_succ]
    · go_wp2_with fail
      refine (tabD_c W).mono ?_
      rintro e w' ⟨v, rfl, hV, hb⟩
      have HV := Aside.mk hV
      clear hV
      go_wp2_with fail
      exact ⟨rfl, _, rfl, hb, HV.out⟩
    · go_wp2_with fail
      exact ⟨rfl, _, rfl, (by repeat (first | (with_reducible exact Below.refl _ _) | (with_reducible assumption) | refine below_alloc ?_ _ | refine Below.drew ?_ | refine below_drewN ?_ _)), rfl⟩
    · have e1' : vals 1 = _ := hv ⟨1, .data⟩ (by simp) rfl
      simp only [e1']
      have hopW : W.cell? ⟨w.heap.size, 0, none⟩ = some (.int .u8 op) := cell_below hW (by go_simp)
      go_wp2_with fail
      exact ⟨rfl, _, rfl, (by repeat (first | (with_reducible exact Below.refl _ _) | (with_reducible assumption) | refine below_alloc ?_ _ | refine Below.drew ?_ | refine below_drewN ?_ _)), rfl⟩
    · obtain ⟨B5, B6, B7, B12, B13, e0, h5, h6, h7, h12, h13⟩ := hv ⟨0, .data⟩ (by simp) rfl
      have e2' : vals 2 = _ := hv ⟨2, .data⟩ (by simp) rfl
      simp only [e0, e2']
      have H5 := Aside.mk h5
      have H6 := Aside.mk h6
      have H7 := Aside.mk h7
      have H12 := Aside.mk h12
      have H13 := Aside.mk h13
      clear h5 h6 h7 h12 h13 e1 e2 e3 hv e0 e2' hW
      have hsz := szMaker
      rcases (show op = 4 ∨ op = 5 ∨ op = 6 ∨ op = 7 ∨ op = 8 ∨ op = 9 ∨ op = 10 ∨ op = 11 ∨ op = 12 ∨ op = 13 ∨ op = 14 ∨ op = 15 by omega) with rfl | rfl | rfl | rfl | rfl | rfl | rfl | rfl | rfl | rfl | rfl | rfl
      · go_wp2_with fail
        rename_i hK
        refine hK _ _ ?_
        exact ⟨rfl, _, rfl, (by repeat (first | (with_reducible exact Below.refl _ _) | (with_reducible assumption) | refine below_alloc ?_ _ | refine Below.drew ?_ | refine below_drewN ?_ _)), .inl ⟨_, rfl, HE.out⟩⟩
      · go_wp2_with fail
        rename_i hK
        refine hK _ _ ?_
        exact ⟨rfl, _, rfl, (by repeat (first | (with_reducible exact Below.refl _ _) | (with_reducible assumption) | refine below_alloc ?_ _ | refine Below.drew ?_ | refine below_drewN ?_ _)), .inr ⟨_, _, _, H5.out, HE.out⟩⟩
      · go_wp2_with fail
        rename_i hK
        refine hK _ _ ?_
        exact ⟨rfl, _, rfl, (by repeat (first | (with_reducible exact Below.refl _ _) | (with_reducible assumption) | refine below_alloc ?_ _ | refine Below.drew ?_ | refine below_drewN ?_ _)), .inr ⟨_, _, _, H6.out, HE.out⟩⟩
      · go_wp2_with fail
        rename_i hK
        refine hK _ _ ?_
        exact ⟨rfl, _, rfl, (by repeat (first | (with_reducible exact Below.refl _ _) | (with_reducible assumption) | refine below_alloc ?_ _ | refine Below.drew ?_ | refine below_drewN ?_ _)), .inr ⟨_, _, _, H7.out, HE.out⟩⟩
      · go_wp2_with fail
        rename_i hK
        refine hK _ _ ?_
        exact ⟨rfl, _, rfl, (by repeat (first | (with_reducible exact Below.refl _ _) | (with_reducible assumption) | refine below_alloc ?_ _ | refine Below.drew ?_ | refine below_drewN ?_ _)), .inl ⟨_, rfl, HE.out⟩⟩
      · go_wp2_with fail
        rename_i hK
        refine hK _ _ ?_
        exact ⟨rfl, _, rfl, (by repeat (first | (with_reducible exact Below.refl _ _) | (with_reducible assumption) | refine below_alloc ?_ _ | refine Below.drew ?_ | refine below_drewN ?_ _)), .inl ⟨_, rfl, HE.out⟩⟩
      · go_wp2_with fail
        rename_i hK
        refine hK _ _ ?_
        exact ⟨rfl, _, rfl, (by repeat (first | (with_reducible exact Below.refl _ _) | (with_reducible assumption) | refine below_alloc ?_ _ | refine Below.drew ?_ | refine below_drewN ?_ _)), .inl ⟨_, rfl, HE.out⟩⟩
      · go_wp2_with fail
        rename_i hK
        refine hK _ _ ?_
        exact ⟨rfl, _, rfl, (by repeat (first | (with_reducible exact Below.refl _ _) | (with_reducible assumption) | refine below_alloc ?_ _ | refine Below.drew ?_ | refine below_drewN ?_ _)), .inl ⟨_, rfl, HE.out⟩⟩
      · go_wp2_with fail
        rename_i hK
        refine hK _ _ ?_
        exact ⟨rfl, _, rfl, (by repeat (first | (with_reducible exact Below.refl _ _) | (with_reducible assumption) | refine below_alloc ?_ _ | refine Below.drew ?_ | refine below_drewN ?_ _)), .inr ⟨_, _, _, H12.out, HE.out⟩⟩
      · go_wp2_with fail
        rename_i hK
        refine hK _ _ ?_
        exact ⟨rfl, _, rfl, (by repeat (first | (with_reducible exact Below.refl _ _) | (with_reducible assumption) | refine below_alloc ?_ _ | refine Below.drew ?_ | refine below_drewN ?_ _)), .inr ⟨_, _, _, H13.out, HE.out⟩⟩
      · go_wp2_with fail
        rename_i hK
        refine hK _ _ ?_
        exact ⟨rfl, _, rfl, (by repeat (first | (with_reducible exact Below.refl _ _) | (with_reducible assumption) | refine below_alloc ?_ _ | refine Below.drew ?_ | refine below_drewN ?_ _)), .inl ⟨_, rfl, HE.out⟩⟩
      · go_wp2_with fail
        rename_i hK
        refine hK _ _ ?_
        exact ⟨rfl, _, rfl, (by repeat (first | (with_reducible exact Below.refl _ _) | (with_reducible assumption) | refine below_alloc ?_ _ | refine Below.drew ?_ | refine below_drewN ?_ _)), .inl ⟨_, rfl, HE.out⟩⟩
    · go_wp2_with fail
      exact ⟨rfl, _, rfl, (by repeat (first | (with_reducible exact Below.refl _ _) | (with_reducible assumption) | refine below_alloc ?_ _ | refine Below.drew ?_ | refine below_drewN ?_ _)), rfl⟩
    · have e4' : vals 4 = _ := hv ⟨4, .data⟩ (by simp) rfl
      simp only [e4']
      have hopW : W.cell? ⟨w.heap.size, 2, none⟩ = some (.slice a n c) := cell_below hW (by go_simp)
      go_wp2_with fail
      exact ⟨rfl, _, rfl, (by repeat (first | (with_reducible exact Below.refl _ _) | (with_reducible assumption) | refine below_alloc ?_ _ | refine Below.drew ?_ | refine below_drewN ?_ _)), rfl⟩
    · have e5' : vals 5 = _ := hv ⟨5, .data⟩ (by simp) rfl
      have hWB : Below w.heap.size w W := below_to (by repeat (first | (with_reducible exact Below.refl _ _) | (with_reducible assumption) | refine below_alloc ?_ _ | refine Below.drew ?_ | refine below_drewN ?_ _)) hW
      have hz : w.heap.size + 3 ≤ W.heap.size := by have := hW.size; simp at this; omega
      rcases hv ⟨3, .data⟩ (by simp) rfl with ⟨g, e3', hent, hG⟩ | ⟨q, g1, g2, ⟨B, e3', k0, k1, k2⟩, hG⟩
      · have HG := Aside.mk (hG _ a n c W (HS2.out W hWB))
        clear hG hv
        simp only [e3', e5']
        go_wp2_with fail
        refine HG.out.mono ?_
        rintro e w' ⟨o2, n2, a2, l2, d2, rfl, hT2, hb⟩
        have HT2 := Aside.mk hT2
        clear hT2
        go_wp2_with fail
        exact ⟨rfl, _, rfl, hb, o2, n2, a2, l2, d2, rfl, HT2.out.mono fun b hb2 _ => hb2.elim .inl fun hb2 => .inr (by omega)⟩
      · have HG := Aside.mk (hG _ a n c W B (HS2.out W hWB) k0 k1 k2)
        clear hG hv k0 k1 k2
        simp only [e3', e5']
        go_wp2_with fail
        refine HG.out.mono ?_
        rintro e w' ⟨o2, n2, a2, l2, d2, rfl, hT2, hb⟩
        have HT2 := Aside.mk hT2
        clear hT2
        go_wp2_with fail
        exact ⟨rfl, _, rfl, hb, o2, n2, a2, l2, d2, rfl, HT2.out.mono fun b hb2 _ => hb2.elim .inl fun hb2 => .inr (by omega)⟩
  · intro vals W hW hv
    obtain ⟨o2, n2, a2, l2, d2, e6, hT2⟩ := hv 6 (by omega)
    have HT2 := Aside.mk hT2
    have HB : Aside (Below w.heap.size w W) := ⟨below_to (by repeat (first | (with_reducible exact Below.refl _ _) | (with_reducible assumption) | refine below_alloc ?_ _ | refine Below.drew ?_ | refine below_drewN ?_ _)) hW⟩
    have hsz : w.heap.size + 1 < W.heap.size := by have := hW.size; simp at this; omega
    have r0 : W.cell? ⟨w.heap.size + 1, 0, none⟩ = some (.int .u8 0) := cell_below hW (by go_simp)
    have r1 : W.cell? ⟨w.heap.size + 1, 1, none⟩ = some (.string nil8) := cell_below hW (by go_simp)
    have r2 : W.cell? ⟨w.heap.size + 1, 2, none⟩ = some (.slice none 0 0) := cell_below hW (by go_simp)
    have f0 : W.frozen? ⟨w.heap.size + 1, 0, none⟩ = false := (hW.frozen (by simp)).trans (by go_simp)
    have f1 : W.frozen? ⟨w.heap.size + 1, 1, none⟩ = false := (hW.frozen (by simp)).trans (by go_simp)
    have f2 : W.frozen? ⟨w.heap.size + 1, 2, none⟩ = false := (hW.frozen (by simp)).trans (by go_simp)
    simp only [List.take_succ_cons, List.take_zero, List.drop_succ_cons, List.drop_zero, lexL, Act.put, List.setIfInBounds_toArray, List.set_cons_zero, List.set_cons_succ, e6]
    clear hv hT2 hW HE HS2
    go_wp2_with fail
    refine bodyPost_ret (v := fv o2 n2 a2 l2 d2) (by simp [results, Tryz.results147, go_sem, r0, r1, r2]) rfl ?_
    exact RetX.at_ (w.heap.size + 3) HT2.out HB.out (by omega) (by omega) _ _ _

set_option maxRecDepth 100000 in
set_option maxHeartbeats 2000000 in
/-- form of a leaf. -/
theorem form_leaf (d : Bool) (op : Int) (nm : ByteArray) (h0 : 1 ≤ op) (h1 : op ≤ 3) (hnm : nm.size ≤ 9223372036854775807) {X : Nat → Prop} (a : Option Addr) (c : Nat) (w : World) :
    Calls Tryz.prog 147 #[fv op nm a 0 c, .bool d] w (RetX X (nfLeaf op nm d) w) := by
  cases d with
  | false =>
    have hE : nfLeaf op nm false = .mk op nm [] := by simp [nfLeaf]
    rw [hE]
    rcases (show op = 1 ∨ op = 2 ∨ op = 3 by omega) with rfl | rfl | rfl
    all_goals
      clear hE h0 h1
      go_enter Tryz.func147, Tryz.ntmps147
      go_wp2_with fail
      refine bodyPost_ret (v := fv _ nm none 0 0) (by simp [results, Tryz.results147, go_sem]; rfl) rfl ?_
      refine RetX.leaf (by omega) (by omega) hnm (by omega) ?_
      exact (by repeat (first | (with_reducible exact Below.refl _ _) | (with_reducible assumption) | refine below_alloc ?_ _ | refine Below.drew ?_ | refine below_drewN ?_ _))
  | true =>
    rcases (show op = 1 ∨ op = 2 ∨ op = 3 by omega) with rfl | rfl | rfl
    · show Calls _ _ _ _ (RetX X F1 w)
      go_enter Tryz.func147, Tryz.ntmps147
      go_wp2_with fail
      refine (of_c _ _ _ _ _).mono ?_
      rintro e w2 ⟨rfl, hb2⟩
      have r0 : w2.cell? ⟨w.heap.size + 1, 0, none⟩ = some (.int .u8 0) := cell_below hb2 (by go_simp)
      have r1 : w2.cell? ⟨w.heap.size + 1, 1, none⟩ = some (.string nil8) := cell_below hb2 (by go_simp)
      have r2 : w2.cell? ⟨w.heap.size + 1, 2, none⟩ = some (.slice none 0 0) := cell_below hb2 (by go_simp)
      have f0 : w2.frozen? ⟨w.heap.size + 1, 0, none⟩ = false := (hb2.frozen (by simp)).trans (by go_simp)
      have f1 : w2.frozen? ⟨w.heap.size + 1, 1, none⟩ = false := (hb2.frozen (by simp)).trans (by go_simp)
      have f2 : w2.frozen? ⟨w.heap.size + 1, 2, none⟩ = false := (hb2.frozen (by simp)).trans (by go_simp)
      have HB : Aside (Below w.heap.size w w2) := ⟨below_to (by repeat (first | (with_reducible exact Below.refl _ _) | (with_reducible assumption) | refine below_alloc ?_ _ | refine Below.drew ?_ | refine below_drewN ?_ _)) hb2⟩
      have hsz : w.heap.size + 1 < w2.heap.size := by have := hb2.size; simp at this; omega
      clear hb2
      go_wp2_with fail
      refine bodyPost_ret (v := fv 2 nil8 none 0 0) (by simp [results, Tryz.results147, go_sem, r0, r1, r2]) rfl ?_
      exact RetX.at_ (w.heap.size + 2) (.leaf 2 nil8 none 0 (by omega) (by omega) (by decide) (by omega)) HB.out (by omega) (by omega) _ _ _
    · show Calls _ _ _ _ (RetX X T1 w)
      go_enter Tryz.func147, Tryz.ntmps147
      go_wp2_with fail
      refine (of_c _ _ _ _ _).mono ?_
      rintro e w2 ⟨rfl, hb2⟩
      have r0 : w2.cell? ⟨w.heap.size + 1, 0, none⟩ = some (.int .u8 0) := cell_below hb2 (by go_simp)
      have r1 : w2.cell? ⟨w.heap.size + 1, 1, none⟩ = some (.string nil8) := cell_below hb2 (by go_simp)
      have r2 : w2.cell? ⟨w.heap.size + 1, 2, none⟩ = some (.slice none 0 0) := cell_below hb2 (by go_simp)
      have f0 : w2.frozen? ⟨w.heap.size + 1, 0, none⟩ = false := (hb2.frozen (by simp)).trans (by go_simp)
      have f1 : w2.frozen? ⟨w.heap.size + 1, 1, none⟩ = false := (hb2.frozen (by simp)).trans (by go_simp)
      have f2 : w2.frozen? ⟨w.heap.size + 1, 2, none⟩ = false := (hb2.frozen (by simp)).trans (by go_simp)
      have HB : Aside (Below w.heap.size w w2) := ⟨below_to (by repeat (first | (with_reducible exact Below.refl _ _) | (with_reducible assumption) | refine below_alloc ?_ _ | refine Below.drew ?_ | refine below_drewN ?_ _)) hb2⟩
      have hsz : w.heap.size + 1 < w2.heap.size := by have := hb2.size; simp at this; omega
      clear hb2
      go_wp2_with fail
      refine bodyPost_ret (v := fv 1 nil8 none 0 0) (by simp [results, Tryz.results147, go_sem, r0, r1, r2]) rfl ?_
      exact RetX.at_ (w.heap.size + 2) (.leaf 1 nil8 none 0 (by omega) (by omega) (by decide) (by omega)) HB.out (by omega) (by omega) _ _ _
    · have HC := Aside.mk (fun W => not_c (X := fun _ => False) (.mk 3 nm []) 3 nm none 0 0 W (.leaf 3 nm none 0 (by omega) (by omega) hnm (by omega)))
      show Calls _ _ _ _ (RetX X (neg1 (.mk 3 nm [])) w)
      generalize neg1 (.mk 3 nm []) = F at HC ⊢
      go_enter Tryz.func147, Tryz.ntmps147
      go_wp2_with fail
      refine (HC.out _).mono ?_
      rintro e w2 ⟨o2, n2, a2, l2, d2, rfl, hT2, hb2⟩
      have r0 : w2.cell? ⟨w.heap.size + 1, 0, none⟩ = some (.int .u8 0) := cell_below hb2 (by go_simp)
      have r1 : w2.cell? ⟨w.heap.size + 1, 1, none⟩ = some (.string nil8) := cell_below hb2 (by go_simp)
      have r2 : w2.cell? ⟨w.heap.size + 1, 2, none⟩ = some (.slice none 0 0) := cell_below hb2 (by go_simp)
      have f0 : w2.frozen? ⟨w.heap.size + 1, 0, none⟩ = false := (hb2.frozen (by simp)).trans (by go_simp)
      have f1 : w2.frozen? ⟨w.heap.size + 1, 1, none⟩ = false := (hb2.frozen (by simp)).trans (by go_simp)
      have f2 : w2.frozen? ⟨w.heap.size + 1, 2, none⟩ = false := (hb2.frozen (by simp)).trans (by go_simp)
      have HT : Aside (IsTX (fun b => (X b ∧ b < w.heap.size) ∨ (w.heap.size + 2) ≤ b) w2 o2 n2 a2 l2 d2 F) := ⟨hT2.mono fun b hb _ => hb.elim False.elim (fun hb => .inr (by simp at hb; omega))⟩
      have HB : Aside (Below w.heap.size w w2) := ⟨below_to (by repeat (first | (with_reducible exact Below.refl _ _) | (with_reducible assumption) | refine below_alloc ?_ _ | refine Below.drew ?_ | refine below_drewN ?_ _)) hb2⟩
      have hsz : w.heap.size + 1 < w2.heap.size := by have := hb2.size; simp at this; omega
      clear hT2 hb2 HC
      go_wp2_with fail
      refine bodyPost_ret (v := fv o2 n2 a2 l2 d2) (by simp [results, Tryz.results147, go_sem, r0, r1, r2]) rfl ?_
      exact RetX.at_ (w.heap.size + 2) HT.out HB.out (by omega) (by omega) _ _ _

/-- nnf.form. -/
theorem form_c (f : Fm) (hw : f.Wf) : ∀ d, FormC d f := by
  induction f using Fm.ind_ with | h o ns ks ih
  intro d X op nm a n c w h
  obtain ⟨h0, h1, h2, ks_, e, hS⟩ := h.parts
  obtain ⟨rfl, rfl, rfl⟩ : op = o ∧ nm = ns ∧ ks = ks_ := by cases e; exact ⟨rfl, rfl, rfl⟩
  clear e h
  have ho := hw.op_
  have hl := hw.len
  simp only [Fm.op_mk, Fm.ks_mk] at ho hl
  by_cases h3 : op ≤ 3
  · have hn : n = 0 := by
      have := hS.1
      rcases (show op = 1 ∨ op = 2 ∨ op = 3 by omega) with rfl | rfl | rfl <;> simp [kidsOf, kidsTab] at hl <;> simp [hl] at this <;> exact this
    rw [nf_leaf op nm d h3]
    subst hn
    exact form_leaf d op nm ho.1 h3 h2 a c w
  · have hP : ∀ k ∈ ks, PosC k := fun k hk => pos_of (ih k hk (hw.kid k hk) false)
    have hN : ∀ k ∈ ks, NegC k := fun k hk => neg_of (ih k hk (hw.kid k hk) true)
    have hn : 0 < n := by
      have := hS.1
      rcases (show op = 4 ∨ op = 5 ∨ op = 6 ∨ op = 7 ∨ op = 8 ∨ op = 9 ∨ op = 10 ∨ op = 11 ∨ op = 12 ∨ op = 13 ∨ op = 14 ∨ op = 15 by omega) with rfl | rfl | rfl | rfl | rfl | rfl | rfl | rfl | rfl | rfl | rfl | rfl <;> simp [kidsOf, kidsTab] at hl <;> omega
    cases d with
    | false => exact formN_node op nm ks (by omega) ho.2 _ (entN_of op nm ks (by omega) ho.2 hl hP hN) a n c w hS hn
    | true => exact formD_node op nm ks (by omega) ho.2 _ (entD_of op nm ks (by omega) ho.2 hl hP hN) a n c w hS hn
end Go.Proofs.YtmmakkaolknbaaaGreatDoor
