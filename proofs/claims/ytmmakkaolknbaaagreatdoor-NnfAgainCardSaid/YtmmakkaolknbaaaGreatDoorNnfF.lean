/- Contracts of nnf's rules of two kids, printed by gen_simple.py: lattice. -/
import Derived.Test.YtmmakkaolknbaaaGreatDoorNnfC
namespace Go.Proofs.YtmmakkaolknbaaaGreatDoor
set_option linter.unusedVariables false
set_option linter.unusedSimpArgs false
open Go.RowKit Go.Shelf

set_option maxRecDepth 100000 in
set_option maxHeartbeats 8000000 in
theorem lat5_c {X : Nat → Prop} (f g : Fm) (op : Int) (nm : ByteArray) (a : Option Addr) (n c : Nat) (op' : Int) (nm' : ByteArray) (a' : Option Addr) (n' c' : Nat) (w : World) (h : IsTX X w op nm a n c f) (h' : IsTX X w op' nm' a' n' c' g) (hA : ArOk op n) (hA' : ArOk op' n') :
    Calls Tryz.prog 202 #[.int .u8 5, fv op nm a n c, fv op' nm' a' n' c'] w (RetX X (lat 5 2 1 6 f g) w) := by
  have hfo : f.op = op := by obtain ⟨_, _, _, _, rfl, _⟩ := h.parts; rfl
  have hgo : g.op = op' := by obtain ⟨_, _, _, _, rfl, _⟩ := h'.parts; rfl
  have HF := Aside.mk h
  have HG := Aside.mk h'
  clear h h'
  have HB := Aside.mk (env2_below w op nm a n c op' nm' a' n' c' 25)
  have E := Aside.mk (env2_start w op nm a n c op' nm' a' n' c' 25)
  by_cases c0 : op = 2
  · -- test 0 True
    have t0 : (op == 2) = true := by simp [c0]
    have hE : lat 5 2 1 6 f g = leafF 2 := by simp [lat, hfo, hgo, c0]
    rw [hE]
    clear hE hfo hgo hA hA' c0
    go_enter Tryz.func202, Tryz.ntmps202
    go_wp2_with fail
    refine (of_c _ _ _ _ _).mono ?_
    rintro e v2 ⟨rfl, hb⟩
    have E' := E.out.keep hb
    have HB' : Aside (Below w.heap.size w v2) := ⟨below_to HB.out hb⟩
    clear HB hb
    obtain ⟨x0, x1, x2, y0, y1, y2, r0, r1, r2, f0, f1, f2, sz'⟩ := E'
    go_wp2_with fail
    refine bodyPost_ret (v := fv 2 nil8 none 0 0) (by simp [results, Tryz.results202, go_sem, r0, r1, r2]) rfl ?_
    exact RetX.leaf (by omega) (by omega) (by decide) (by omega) (below_set3 HB'.out (by omega) _ _ _)
  · -- test 0 False
    have t0 : (op == 2) = false := by simp [c0]
    by_cases c1 : op' = 2
    · -- test 1 True
      have t1 : (op' == 2) = true := by simp [c1]
      have hE : lat 5 2 1 6 f g = leafF 2 := by simp [lat, hfo, hgo, c0, c1]
      rw [hE]
      clear hE hfo hgo hA hA' c0 c1
      go_enter Tryz.func202, Tryz.ntmps202
      go_wp2_with fail
      refine (of_c _ _ _ _ _).mono ?_
      rintro e v2 ⟨rfl, hb⟩
      have E' := E.out.keep hb
      have HB' : Aside (Below w.heap.size w v2) := ⟨below_to HB.out hb⟩
      clear HB hb
      obtain ⟨x0, x1, x2, y0, y1, y2, r0, r1, r2, f0, f1, f2, sz'⟩ := E'
      go_wp2_with fail
      refine bodyPost_ret (v := fv 2 nil8 none 0 0) (by simp [results, Tryz.results202, go_sem, r0, r1, r2]) rfl ?_
      exact RetX.leaf (by omega) (by omega) (by decide) (by omega) (below_set3 HB'.out (by omega) _ _ _)
    · -- test 1 False
      have t1 : (op' == 2) = false := by simp [c1]
      by_cases c2 : op = 1
      · -- test 2 True
        have t2 : (op == 1) = true := by simp [c2]
        have hE : lat 5 2 1 6 f g = g := by simp [lat, hfo, hgo, c0, c1, c2]
        rw [hE]
        clear hE hfo hgo hA hA' c0 c1 c2
        go_enter Tryz.func202, Tryz.ntmps202
        go_wp2_with fail
        refine bodyPost_ret (v := fv op' nm' a' n' c') (by simp [results, Tryz.results202, go_sem]) rfl ?_
        exact RetX.kept HG.out (by repeat (first | (with_reducible exact Below.refl _ _) | (with_reducible assumption) | refine below_alloc ?_ _ | refine Below.drew ?_ | refine below_drewN ?_ _))
      · -- test 2 False
        have t2 : (op == 1) = false := by simp [c2]
        by_cases c3 : op' = 1
        · -- test 3 True
          have t3 : (op' == 1) = true := by simp [c3]
          have hE : lat 5 2 1 6 f g = f := by simp [lat, hfo, hgo, c0, c1, c2, c3]
          rw [hE]
          clear hE hfo hgo hA hA' c0 c1 c2 c3
          go_enter Tryz.func202, Tryz.ntmps202
          go_wp2_with fail
          refine bodyPost_ret (v := fv op nm a n c) (by simp [results, Tryz.results202, go_sem]) rfl ?_
          exact RetX.kept HF.out (by repeat (first | (with_reducible exact Below.refl _ _) | (with_reducible assumption) | refine below_alloc ?_ _ | refine Below.drew ?_ | refine below_drewN ?_ _))
        · -- test 3 False
          have t3 : (op' == 1) = false := by simp [c3]
          cases c4 : f.same g with
          | true =>
            have hE : lat 5 2 1 6 f g = f := by simp [lat, hfo, hgo, c0, c1, c2, c3, c4]
            rw [hE]
            have HS4 := Aside.mk (fun W (hW : Below w.heap.size w W) => same_c f g op nm a n c op' nm' a' n' c' W (HF.out.keep hW).any (HG.out.keep hW).any)
            simp only [c4] at HS4
            clear hE hfo hgo hA hA' c0 c1 c2 c3 c4
            go_enter Tryz.func202, Tryz.ntmps202
            go_wp2_with fail
            refine (HS4.out _ HB.out).mono ?_
            rintro e w3 ⟨rfl, hb⟩
            have E' := Aside.mk (E.out.keep hb)
            have HB' : Aside (Below w.heap.size w w3) := ⟨below_to HB.out hb⟩
            clear E HB hb HS4
            obtain ⟨x0, x1, x2, y0, y1, y2, r0, r1, r2, f0, f1, f2, sz⟩ := E'.out
            have E := E'
            have HB := HB'
            clear E' HB'
            go_wp2_with fail
            refine bodyPost_ret (v := fv op nm a n c) (by simp [results, Tryz.results202, go_sem, r0, r1, r2]) rfl ?_
            exact RetX.at_ (w.heap.size + 1 + 1 + 1) (old_at _ HF.out HB.out) HB.out (by omega) (by omega) _ _ _
          | false =>
            cases c5 : f.opposite g with
            | true =>
              have hE : lat 5 2 1 6 f g = leafF 2 := by simp [lat, hfo, hgo, c0, c1, c2, c3, c4, c5]
              rw [hE]
              have HS4 := Aside.mk (fun W (hW : Below w.heap.size w W) => same_c f g op nm a n c op' nm' a' n' c' W (HF.out.keep hW).any (HG.out.keep hW).any)
              simp only [c4] at HS4
              have HO5 := Aside.mk (fun W (hW : Below w.heap.size w W) => opposite_c f g op nm a n c op' nm' a' n' c' W (HF.out.keep hW).any (HG.out.keep hW).any hA.1 hA'.1)
              simp only [c5] at HO5
              clear hE hfo hgo hA hA' c0 c1 c2 c3 c4 c5
              go_enter Tryz.func202, Tryz.ntmps202
              go_wp2_with fail
              refine (HS4.out _ HB.out).mono ?_
              rintro e w3 ⟨rfl, hb⟩
              have E' := Aside.mk (E.out.keep hb)
              have HB' : Aside (Below w.heap.size w w3) := ⟨below_to HB.out hb⟩
              clear E HB hb HS4
              obtain ⟨x0, x1, x2, y0, y1, y2, r0, r1, r2, f0, f1, f2, sz⟩ := E'.out
              have E := E'
              have HB := HB'
              clear E' HB'
              go_wp2_with fail
              refine (HO5.out _ HB.out).mono ?_
              rintro e w4 ⟨rfl, hb⟩
              have E' := Aside.mk (E.out.keep hb)
              have HB' : Aside (Below w.heap.size w w4) := ⟨below_to HB.out hb⟩
              clear E HB hb HO5 x0 x1 x2 y0 y1 y2 r0 r1 r2 f0 f1 f2 sz
              obtain ⟨x0, x1, x2, y0, y1, y2, r0, r1, r2, f0, f1, f2, sz⟩ := E'.out
              have E := E'
              have HB := HB'
              clear E' HB'
              go_wp2_with fail
              refine (of_c _ _ _ _ _).mono ?_
              rintro e v2 ⟨rfl, hb⟩
              have E' := E.out.keep hb
              have HB' : Aside (Below w.heap.size w v2) := ⟨below_to HB.out hb⟩
              clear HB hb x0 x1 x2 y0 y1 y2 r0 r1 r2 f0 f1 f2
              obtain ⟨x0, x1, x2, y0, y1, y2, r0, r1, r2, f0, f1, f2, sz'⟩ := E'
              go_wp2_with fail
              refine bodyPost_ret (v := fv 2 nil8 none 0 0) (by simp [results, Tryz.results202, go_sem, r0, r1, r2]) rfl ?_
              exact RetX.leaf (by omega) (by omega) (by decide) (by omega) (below_set3 HB'.out (by omega) _ _ _)
            | false =>
              cases c6 : f.among 6 g with
              | true =>
                have hE : lat 5 2 1 6 f g = g := by simp [lat, hfo, hgo, c0, c1, c2, c3, c4, c5, c6]
                rw [hE]
                have HS4 := Aside.mk (fun W (hW : Below w.heap.size w W) => same_c f g op nm a n c op' nm' a' n' c' W (HF.out.keep hW).any (HG.out.keep hW).any)
                simp only [c4] at HS4
                have HO5 := Aside.mk (fun W (hW : Below w.heap.size w W) => opposite_c f g op nm a n c op' nm' a' n' c' W (HF.out.keep hW).any (HG.out.keep hW).any hA.1 hA'.1)
                simp only [c5] at HO5
                have HAf6 := Aside.mk (fun W (hW : Below w.heap.size w W) => among_c f g 6 op nm a n c op' nm' a' n' c' W (HF.out.keep hW).any (HG.out.keep hW).any (fun h => hA.2.2.1 h))
                simp only [c6] at HAf6
                clear hE hfo hgo hA hA' c0 c1 c2 c3 c4 c5 c6
                go_enter Tryz.func202, Tryz.ntmps202
                go_wp2_with fail
                refine (HS4.out _ HB.out).mono ?_
                rintro e w3 ⟨rfl, hb⟩
                have E' := Aside.mk (E.out.keep hb)
                have HB' : Aside (Below w.heap.size w w3) := ⟨below_to HB.out hb⟩
                clear E HB hb HS4
                obtain ⟨x0, x1, x2, y0, y1, y2, r0, r1, r2, f0, f1, f2, sz⟩ := E'.out
                have E := E'
                have HB := HB'
                clear E' HB'
                go_wp2_with fail
                refine (HO5.out _ HB.out).mono ?_
                rintro e w4 ⟨rfl, hb⟩
                have E' := Aside.mk (E.out.keep hb)
                have HB' : Aside (Below w.heap.size w w4) := ⟨below_to HB.out hb⟩
                clear E HB hb HO5 x0 x1 x2 y0 y1 y2 r0 r1 r2 f0 f1 f2 sz
                obtain ⟨x0, x1, x2, y0, y1, y2, r0, r1, r2, f0, f1, f2, sz⟩ := E'.out
                have E := E'
                have HB := HB'
                clear E' HB'
                go_wp2_with fail
                refine (HAf6.out _ HB.out).mono ?_
                rintro e w5 ⟨rfl, hb⟩
                have E' := Aside.mk (E.out.keep hb)
                have HB' : Aside (Below w.heap.size w w5) := ⟨below_to HB.out hb⟩
                clear E HB hb HAf6 x0 x1 x2 y0 y1 y2 r0 r1 r2 f0 f1 f2 sz
                obtain ⟨x0, x1, x2, y0, y1, y2, r0, r1, r2, f0, f1, f2, sz⟩ := E'.out
                have E := E'
                have HB := HB'
                clear E' HB'
                go_wp2_with fail
                refine bodyPost_ret (v := fv op' nm' a' n' c') (by simp [results, Tryz.results202, go_sem, r0, r1, r2]) rfl ?_
                exact RetX.at_ (w.heap.size + 1 + 1 + 1) (old_at _ HG.out HB.out) HB.out (by omega) (by omega) _ _ _
              | false =>
                cases c7 : g.among 6 f with
                | true =>
                  have hE : lat 5 2 1 6 f g = f := by simp [lat, hfo, hgo, c0, c1, c2, c3, c4, c5, c6, c7]
                  rw [hE]
                  have HS4 := Aside.mk (fun W (hW : Below w.heap.size w W) => same_c f g op nm a n c op' nm' a' n' c' W (HF.out.keep hW).any (HG.out.keep hW).any)
                  simp only [c4] at HS4
                  have HO5 := Aside.mk (fun W (hW : Below w.heap.size w W) => opposite_c f g op nm a n c op' nm' a' n' c' W (HF.out.keep hW).any (HG.out.keep hW).any hA.1 hA'.1)
                  simp only [c5] at HO5
                  have HAf6 := Aside.mk (fun W (hW : Below w.heap.size w W) => among_c f g 6 op nm a n c op' nm' a' n' c' W (HF.out.keep hW).any (HG.out.keep hW).any (fun h => hA.2.2.1 h))
                  simp only [c6] at HAf6
                  have HAg7 := Aside.mk (fun W (hW : Below w.heap.size w W) => among_c g f 6 op' nm' a' n' c' op nm a n c W (HG.out.keep hW).any (HF.out.keep hW).any (fun h => hA'.2.2.1 h))
                  simp only [c7] at HAg7
                  clear hE hfo hgo hA hA' c0 c1 c2 c3 c4 c5 c6 c7
                  go_enter Tryz.func202, Tryz.ntmps202
                  go_wp2_with fail
                  refine (HS4.out _ HB.out).mono ?_
                  rintro e w3 ⟨rfl, hb⟩
                  have E' := Aside.mk (E.out.keep hb)
                  have HB' : Aside (Below w.heap.size w w3) := ⟨below_to HB.out hb⟩
                  clear E HB hb HS4
                  obtain ⟨x0, x1, x2, y0, y1, y2, r0, r1, r2, f0, f1, f2, sz⟩ := E'.out
                  have E := E'
                  have HB := HB'
                  clear E' HB'
                  go_wp2_with fail
                  refine (HO5.out _ HB.out).mono ?_
                  rintro e w4 ⟨rfl, hb⟩
                  have E' := Aside.mk (E.out.keep hb)
                  have HB' : Aside (Below w.heap.size w w4) := ⟨below_to HB.out hb⟩
                  clear E HB hb HO5 x0 x1 x2 y0 y1 y2 r0 r1 r2 f0 f1 f2 sz
                  obtain ⟨x0, x1, x2, y0, y1, y2, r0, r1, r2, f0, f1, f2, sz⟩ := E'.out
                  have E := E'
                  have HB := HB'
                  clear E' HB'
                  go_wp2_with fail
                  refine (HAf6.out _ HB.out).mono ?_
                  rintro e w5 ⟨rfl, hb⟩
                  have E' := Aside.mk (E.out.keep hb)
                  have HB' : Aside (Below w.heap.size w w5) := ⟨below_to HB.out hb⟩
                  clear E HB hb HAf6 x0 x1 x2 y0 y1 y2 r0 r1 r2 f0 f1 f2 sz
                  obtain ⟨x0, x1, x2, y0, y1, y2, r0, r1, r2, f0, f1, f2, sz⟩ := E'.out
                  have E := E'
                  have HB := HB'
                  clear E' HB'
                  go_wp2_with fail
                  refine (HAg7.out _ HB.out).mono ?_
                  rintro e w6 ⟨rfl, hb⟩
                  have E' := Aside.mk (E.out.keep hb)
                  have HB' : Aside (Below w.heap.size w w6) := ⟨below_to HB.out hb⟩
                  clear E HB hb HAg7 x0 x1 x2 y0 y1 y2 r0 r1 r2 f0 f1 f2 sz
                  obtain ⟨x0, x1, x2, y0, y1, y2, r0, r1, r2, f0, f1, f2, sz⟩ := E'.out
                  have E := E'
                  have HB := HB'
                  clear E' HB'
                  go_wp2_with fail
                  refine bodyPost_ret (v := fv op nm a n c) (by simp [results, Tryz.results202, go_sem, r0, r1, r2]) rfl ?_
                  exact RetX.at_ (w.heap.size + 1 + 1 + 1) (old_at _ HF.out HB.out) HB.out (by omega) (by omega) _ _ _
                | false =>
                  by_cases c8 : g.cmp f < 0
                  · -- test 8 True
                    have hE : lat 5 2 1 6 f g = two 5 g f := by simp [lat, hfo, hgo, c0, c1, c2, c3, c4, c5, c6, c7, c8]
                    rw [hE]
                    have HS4 := Aside.mk (fun W (hW : Below w.heap.size w W) => same_c f g op nm a n c op' nm' a' n' c' W (HF.out.keep hW).any (HG.out.keep hW).any)
                    simp only [c4] at HS4
                    have HO5 := Aside.mk (fun W (hW : Below w.heap.size w W) => opposite_c f g op nm a n c op' nm' a' n' c' W (HF.out.keep hW).any (HG.out.keep hW).any hA.1 hA'.1)
                    simp only [c5] at HO5
                    have HAf6 := Aside.mk (fun W (hW : Below w.heap.size w W) => among_c f g 6 op nm a n c op' nm' a' n' c' W (HF.out.keep hW).any (HG.out.keep hW).any (fun h => hA.2.2.1 h))
                    simp only [c6] at HAf6
                    have HAg7 := Aside.mk (fun W (hW : Below w.heap.size w W) => among_c g f 6 op' nm' a' n' c' op nm a n c W (HG.out.keep hW).any (HF.out.keep hW).any (fun h => hA'.2.2.1 h))
                    simp only [c7] at HAg7
                    have HC := Aside.mk (fun W (hW : Below w.heap.size w W) => cmp_c g op' nm' a' n' c' op nm a n c f W (HG.out.keep hW).any (HF.out.keep hW).any)
                    have hlt : g.cmp f < 0 := c8
                    clear hE hfo hgo hA hA' c0 c1 c2 c3 c4 c5 c6 c7 c8
                    go_enter Tryz.func202, Tryz.ntmps202
                    go_wp2_with fail
                    refine (HS4.out _ HB.out).mono ?_
                    rintro e w3 ⟨rfl, hb⟩
                    have E' := Aside.mk (E.out.keep hb)
                    have HB' : Aside (Below w.heap.size w w3) := ⟨below_to HB.out hb⟩
                    clear E HB hb HS4
                    obtain ⟨x0, x1, x2, y0, y1, y2, r0, r1, r2, f0, f1, f2, sz⟩ := E'.out
                    have E := E'
                    have HB := HB'
                    clear E' HB'
                    go_wp2_with fail
                    refine (HO5.out _ HB.out).mono ?_
                    rintro e w4 ⟨rfl, hb⟩
                    have E' := Aside.mk (E.out.keep hb)
                    have HB' : Aside (Below w.heap.size w w4) := ⟨below_to HB.out hb⟩
                    clear E HB hb HO5 x0 x1 x2 y0 y1 y2 r0 r1 r2 f0 f1 f2 sz
                    obtain ⟨x0, x1, x2, y0, y1, y2, r0, r1, r2, f0, f1, f2, sz⟩ := E'.out
                    have E := E'
                    have HB := HB'
                    clear E' HB'
                    go_wp2_with fail
                    refine (HAf6.out _ HB.out).mono ?_
                    rintro e w5 ⟨rfl, hb⟩
                    have E' := Aside.mk (E.out.keep hb)
                    have HB' : Aside (Below w.heap.size w w5) := ⟨below_to HB.out hb⟩
                    clear E HB hb HAf6 x0 x1 x2 y0 y1 y2 r0 r1 r2 f0 f1 f2 sz
                    obtain ⟨x0, x1, x2, y0, y1, y2, r0, r1, r2, f0, f1, f2, sz⟩ := E'.out
                    have E := E'
                    have HB := HB'
                    clear E' HB'
                    go_wp2_with fail
                    refine (HAg7.out _ HB.out).mono ?_
                    rintro e w6 ⟨rfl, hb⟩
                    have E' := Aside.mk (E.out.keep hb)
                    have HB' : Aside (Below w.heap.size w w6) := ⟨below_to HB.out hb⟩
                    clear E HB hb HAg7 x0 x1 x2 y0 y1 y2 r0 r1 r2 f0 f1 f2 sz
                    obtain ⟨x0, x1, x2, y0, y1, y2, r0, r1, r2, f0, f1, f2, sz⟩ := E'.out
                    have E := E'
                    have HB := HB'
                    clear E' HB'
                    go_wp2_with fail
                    refine (HC.out _ HB.out).mono ?_
                    rintro e w7 ⟨rfl, hb⟩
                    have E' := Aside.mk (E.out.keep hb)
                    have HB' : Aside (Below w.heap.size w w7) := ⟨below_to HB.out hb⟩
                    clear E HB hb HC x0 x1 x2 y0 y1 y2 r0 r1 r2 f0 f1 f2 sz
                    obtain ⟨x0, x1, x2, y0, y1, y2, r0, r1, r2, f0, f1, f2, sz⟩ := E'.out
                    have E := E'
                    have HB := HB'
                    clear E' HB'
                    go_wp2_with fail
                    refine (of_c _ _ _ _ _).mono ?_
                    rintro e v2 ⟨rfl, hb⟩
                    have E' := E.out.keep (below_to (below_alloc (Below.refl _ _) _) hb)
                    have HB' : Aside (Below w.heap.size w v2) := ⟨below_to (below_alloc HB.out _) hb⟩
                    have HT := Aside.mk (of2_after (q := 5) (by omega) (by omega) HB.out hb HG.out HF.out)
                    clear HB hb x0 x1 x2 y0 y1 y2 r0 r1 r2 f0 f1 f2
                    obtain ⟨x0, x1, x2, y0, y1, y2, r0, r1, r2, f0, f1, f2, sz'⟩ := E'
                    go_wp2_with fail
                    refine bodyPost_ret (v := fv 5 nil8 (some ⟨w7.heap.size, 0, none⟩) 2 2) (by simp [results, Tryz.results202, go_sem, r0, r1, r2]) rfl ?_
                    exact RetX.at_ _ HT.out HB'.out (by omega) E.out.sz _ _ _
                  · -- test 8 False
                    have hE : lat 5 2 1 6 f g = two 5 f g := by simp [lat, hfo, hgo, c0, c1, c2, c3, c4, c5, c6, c7, c8]
                    rw [hE]
                    have HS4 := Aside.mk (fun W (hW : Below w.heap.size w W) => same_c f g op nm a n c op' nm' a' n' c' W (HF.out.keep hW).any (HG.out.keep hW).any)
                    simp only [c4] at HS4
                    have HO5 := Aside.mk (fun W (hW : Below w.heap.size w W) => opposite_c f g op nm a n c op' nm' a' n' c' W (HF.out.keep hW).any (HG.out.keep hW).any hA.1 hA'.1)
                    simp only [c5] at HO5
                    have HAf6 := Aside.mk (fun W (hW : Below w.heap.size w W) => among_c f g 6 op nm a n c op' nm' a' n' c' W (HF.out.keep hW).any (HG.out.keep hW).any (fun h => hA.2.2.1 h))
                    simp only [c6] at HAf6
                    have HAg7 := Aside.mk (fun W (hW : Below w.heap.size w W) => among_c g f 6 op' nm' a' n' c' op nm a n c W (HG.out.keep hW).any (HF.out.keep hW).any (fun h => hA'.2.2.1 h))
                    simp only [c7] at HAg7
                    have HC := Aside.mk (fun W (hW : Below w.heap.size w W) => cmp_c g op' nm' a' n' c' op nm a n c f W (HG.out.keep hW).any (HF.out.keep hW).any)
                    have hlt : ¬ g.cmp f < 0 := c8
                    clear hE hfo hgo hA hA' c0 c1 c2 c3 c4 c5 c6 c7 c8
                    go_enter Tryz.func202, Tryz.ntmps202
                    go_wp2_with fail
                    refine (HS4.out _ HB.out).mono ?_
                    rintro e w3 ⟨rfl, hb⟩
                    have E' := Aside.mk (E.out.keep hb)
                    have HB' : Aside (Below w.heap.size w w3) := ⟨below_to HB.out hb⟩
                    clear E HB hb HS4
                    obtain ⟨x0, x1, x2, y0, y1, y2, r0, r1, r2, f0, f1, f2, sz⟩ := E'.out
                    have E := E'
                    have HB := HB'
                    clear E' HB'
                    go_wp2_with fail
                    refine (HO5.out _ HB.out).mono ?_
                    rintro e w4 ⟨rfl, hb⟩
                    have E' := Aside.mk (E.out.keep hb)
                    have HB' : Aside (Below w.heap.size w w4) := ⟨below_to HB.out hb⟩
                    clear E HB hb HO5 x0 x1 x2 y0 y1 y2 r0 r1 r2 f0 f1 f2 sz
                    obtain ⟨x0, x1, x2, y0, y1, y2, r0, r1, r2, f0, f1, f2, sz⟩ := E'.out
                    have E := E'
                    have HB := HB'
                    clear E' HB'
                    go_wp2_with fail
                    refine (HAf6.out _ HB.out).mono ?_
                    rintro e w5 ⟨rfl, hb⟩
                    have E' := Aside.mk (E.out.keep hb)
                    have HB' : Aside (Below w.heap.size w w5) := ⟨below_to HB.out hb⟩
                    clear E HB hb HAf6 x0 x1 x2 y0 y1 y2 r0 r1 r2 f0 f1 f2 sz
                    obtain ⟨x0, x1, x2, y0, y1, y2, r0, r1, r2, f0, f1, f2, sz⟩ := E'.out
                    have E := E'
                    have HB := HB'
                    clear E' HB'
                    go_wp2_with fail
                    refine (HAg7.out _ HB.out).mono ?_
                    rintro e w6 ⟨rfl, hb⟩
                    have E' := Aside.mk (E.out.keep hb)
                    have HB' : Aside (Below w.heap.size w w6) := ⟨below_to HB.out hb⟩
                    clear E HB hb HAg7 x0 x1 x2 y0 y1 y2 r0 r1 r2 f0 f1 f2 sz
                    obtain ⟨x0, x1, x2, y0, y1, y2, r0, r1, r2, f0, f1, f2, sz⟩ := E'.out
                    have E := E'
                    have HB := HB'
                    clear E' HB'
                    go_wp2_with fail
                    refine (HC.out _ HB.out).mono ?_
                    rintro e w7 ⟨rfl, hb⟩
                    have E' := Aside.mk (E.out.keep hb)
                    have HB' : Aside (Below w.heap.size w w7) := ⟨below_to HB.out hb⟩
                    clear E HB hb HC x0 x1 x2 y0 y1 y2 r0 r1 r2 f0 f1 f2 sz
                    obtain ⟨x0, x1, x2, y0, y1, y2, r0, r1, r2, f0, f1, f2, sz⟩ := E'.out
                    have E := E'
                    have HB := HB'
                    clear E' HB'
                    go_wp2_with fail
                    refine (of_c _ _ _ _ _).mono ?_
                    rintro e v2 ⟨rfl, hb⟩
                    have E' := E.out.keep (below_to (below_alloc (Below.refl _ _) _) hb)
                    have HB' : Aside (Below w.heap.size w v2) := ⟨below_to (below_alloc HB.out _) hb⟩
                    have HT := Aside.mk (of2_after (q := 5) (by omega) (by omega) HB.out hb HF.out HG.out)
                    clear HB hb x0 x1 x2 y0 y1 y2 r0 r1 r2 f0 f1 f2
                    obtain ⟨x0, x1, x2, y0, y1, y2, r0, r1, r2, f0, f1, f2, sz'⟩ := E'
                    go_wp2_with fail
                    refine bodyPost_ret (v := fv 5 nil8 (some ⟨w7.heap.size, 0, none⟩) 2 2) (by simp [results, Tryz.results202, go_sem, r0, r1, r2]) rfl ?_
                    exact RetX.at_ _ HT.out HB'.out (by omega) E.out.sz _ _ _

end Go.Proofs.YtmmakkaolknbaaaGreatDoor
