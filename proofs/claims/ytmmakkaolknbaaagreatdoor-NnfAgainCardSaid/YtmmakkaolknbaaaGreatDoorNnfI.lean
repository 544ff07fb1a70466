/- Contracts of nnf's rules of two kids, printed by gen_simple.py: simpleWeak, simpleStrong. -/
import Derived.Test.YtmmakkaolknbaaaGreatDoorNnfC
namespace Go.Proofs.YtmmakkaolknbaaaGreatDoor
set_option linter.unusedVariables false
set_option linter.unusedSimpArgs false
open Go.RowKit Go.Shelf

set_option maxRecDepth 100000 in
set_option maxHeartbeats 8000000 in
theorem weak_c {X : Nat → Prop} (f g : Fm) (op : Int) (nm : ByteArray) (a : Option Addr) (n c : Nat) (op' : Int) (nm' : ByteArray) (a' : Option Addr) (n' c' : Nat) (w : World) (h : IsTX X w op nm a n c f) (h' : IsTX X w op' nm' a' n' c' g) (hA : ArOk op n) (hA' : ArOk op' n') :
    Calls Tryz.prog 218 #[fv op nm a n c, fv op' nm' a' n' c'] w (RetX X (sWeak f g) w) := by
  have hfo : f.op = op := by obtain ⟨_, _, _, _, rfl, _⟩ := h.parts; rfl
  have hgo : g.op = op' := by obtain ⟨_, _, _, _, rfl, _⟩ := h'.parts; rfl
  have HF := Aside.mk h
  have HG := Aside.mk h'
  clear h h'
  have HB := Aside.mk (env2_below w op nm a n c op' nm' a' n' c' 25)
  have E := Aside.mk (env2_start w op nm a n c op' nm' a' n' c' 25)
  by_cases c0 : op = 1
  · -- test 0 True
    have t0 : (op == 1) = true := by simp [c0]
    have hE : sWeak f g = T1 := by simp [sWeak, hfo, hgo, c0]
    rw [hE]
    have HY := Aside.mk (fun W (_ : Below w.heap.size w W) => yes_c op nm a n c W)
    simp only [t0] at HY
    clear hE hfo hgo hA hA' c0
    go_enter Tryz.func218, Tryz.ntmps218
    go_wp2_with fail
    refine (HY.out _ HB.out).mono ?_
    rintro e w3 ⟨rfl, hb⟩
    have E' := Aside.mk (E.out.keep hb)
    have HB' : Aside (Below w.heap.size w w3) := ⟨below_to HB.out hb⟩
    clear E HB hb HY
    obtain ⟨x0, x1, x2, y0, y1, y2, r0, r1, r2, f0, f1, f2, sz⟩ := E'.out
    have E := E'
    have HB := HB'
    clear E' HB'
    go_wp2_with fail
    refine (of_c _ _ _ _ _).mono ?_
    rintro e v2 ⟨rfl, hb⟩
    have E' := E.out.keep hb
    have HB' : Aside (Below w.heap.size w v2) := ⟨below_to HB.out hb⟩
    clear HB hb x0 x1 x2 y0 y1 y2 r0 r1 r2 f0 f1 f2
    obtain ⟨x0, x1, x2, y0, y1, y2, r0, r1, r2, f0, f1, f2, sz'⟩ := E'
    go_wp2_with fail
    refine bodyPost_ret (v := fv 1 nil8 none 0 0) (by simp [results, Tryz.results218, go_sem, r0, r1, r2]) rfl ?_
    exact RetX.leaf (by omega) (by omega) (by decide) (by omega) (below_set3 HB'.out (by omega) _ _ _)
  · -- test 0 False
    have t0 : (op == 1) = false := by simp [c0]
    by_cases c1 : op' = 1
    · -- test 1 True
      have t1 : (op' == 1) = true := by simp [c1]
      have hE : sWeak f g = T1 := by simp [sWeak, hfo, hgo, c0, c1]
      rw [hE]
      have HY := Aside.mk (fun W (_ : Below w.heap.size w W) => yes_c op nm a n c W)
      simp only [t0] at HY
      have HYg := Aside.mk (fun W (_ : Below w.heap.size w W) => yes_c op' nm' a' n' c' W)
      simp only [t1] at HYg
      clear hE hfo hgo hA hA' c0 c1
      go_enter Tryz.func218, Tryz.ntmps218
      go_wp2_with fail
      refine (HY.out _ HB.out).mono ?_
      rintro e w3 ⟨rfl, hb⟩
      have E' := Aside.mk (E.out.keep hb)
      have HB' : Aside (Below w.heap.size w w3) := ⟨below_to HB.out hb⟩
      clear E HB hb HY
      obtain ⟨x0, x1, x2, y0, y1, y2, r0, r1, r2, f0, f1, f2, sz⟩ := E'.out
      have E := E'
      have HB := HB'
      clear E' HB'
      go_wp2_with fail
      refine (HYg.out _ HB.out).mono ?_
      rintro e w4 ⟨rfl, hb⟩
      have E' := Aside.mk (E.out.keep hb)
      have HB' : Aside (Below w.heap.size w w4) := ⟨below_to HB.out hb⟩
      clear E HB hb HYg x0 x1 x2 y0 y1 y2 r0 r1 r2 f0 f1 f2 sz
      obtain ⟨x0, x1, x2, y0, y1, y2, r0, r1, r2, f0, f1, f2, sz⟩ := E'.out
      have E := E'
      have HB := HB'
      clear E' HB'
      go_wp2_with fail
      refine (of_c _ _ _ _ _).mono ?_
      rintro e v2 ⟨rfl, hb⟩
      have E' := E.out.keep hb
      have HB' : Aside (Below w.heap.size w v2) := ⟨below_to HB.out hb⟩
      clear HB hb x0 x1 x2 y0 y1 y2 r0 r1 r2 f0 f1 f2
      obtain ⟨x0, x1, x2, y0, y1, y2, r0, r1, r2, f0, f1, f2, sz'⟩ := E'
      go_wp2_with fail
      refine bodyPost_ret (v := fv 1 nil8 none 0 0) (by simp [results, Tryz.results218, go_sem, r0, r1, r2]) rfl ?_
      exact RetX.leaf (by omega) (by omega) (by decide) (by omega) (below_set3 HB'.out (by omega) _ _ _)
    · -- test 1 False
      have t1 : (op' == 1) = false := by simp [c1]
      by_cases c2 : op = 2
      · -- test 2 True
        have t2 : (op == 2) = true := by simp [c2]
        have hE : sWeak f g = g := by simp [sWeak, hfo, hgo, c0, c1, c2]
        rw [hE]
        have HY := Aside.mk (fun W (_ : Below w.heap.size w W) => yes_c op nm a n c W)
        simp only [t0] at HY
        have HYg := Aside.mk (fun W (_ : Below w.heap.size w W) => yes_c op' nm' a' n' c' W)
        simp only [t1] at HYg
        have HN := Aside.mk (fun W (_ : Below w.heap.size w W) => no_c op nm a n c W)
        simp only [t2] at HN
        clear hE hfo hgo hA hA' c0 c1 c2
        go_enter Tryz.func218, Tryz.ntmps218
        go_wp2_with fail
        refine (HY.out _ HB.out).mono ?_
        rintro e w3 ⟨rfl, hb⟩
        have E' := Aside.mk (E.out.keep hb)
        have HB' : Aside (Below w.heap.size w w3) := ⟨below_to HB.out hb⟩
        clear E HB hb HY
        obtain ⟨x0, x1, x2, y0, y1, y2, r0, r1, r2, f0, f1, f2, sz⟩ := E'.out
        have E := E'
        have HB := HB'
        clear E' HB'
        go_wp2_with fail
        refine (HYg.out _ HB.out).mono ?_
        rintro e w4 ⟨rfl, hb⟩
        have E' := Aside.mk (E.out.keep hb)
        have HB' : Aside (Below w.heap.size w w4) := ⟨below_to HB.out hb⟩
        clear E HB hb HYg x0 x1 x2 y0 y1 y2 r0 r1 r2 f0 f1 f2 sz
        obtain ⟨x0, x1, x2, y0, y1, y2, r0, r1, r2, f0, f1, f2, sz⟩ := E'.out
        have E := E'
        have HB := HB'
        clear E' HB'
        go_wp2_with fail
        refine (HN.out _ HB.out).mono ?_
        rintro e w5 ⟨rfl, hb⟩
        have E' := Aside.mk (E.out.keep hb)
        have HB' : Aside (Below w.heap.size w w5) := ⟨below_to HB.out hb⟩
        clear E HB hb HN x0 x1 x2 y0 y1 y2 r0 r1 r2 f0 f1 f2 sz
        obtain ⟨x0, x1, x2, y0, y1, y2, r0, r1, r2, f0, f1, f2, sz⟩ := E'.out
        have E := E'
        have HB := HB'
        clear E' HB'
        go_wp2_with fail
        refine bodyPost_ret (v := fv op' nm' a' n' c') (by simp [results, Tryz.results218, go_sem, r0, r1, r2]) rfl ?_
        exact RetX.at_ (w.heap.size + 1 + 1 + 1) (old_at _ HG.out HB.out) HB.out (by omega) (by omega) _ _ _
      · -- test 2 False
        have t2 : (op == 2) = false := by simp [c2]
        by_cases c3 : op' = 2
        · -- test 3 True
          have t3 : (op' == 2) = true := by simp [c3]
          have hE : sWeak f g = f.sAlways 11 := by simp [sWeak, hfo, hgo, c0, c1, c2, c3]
          rw [hE]
          have HY := Aside.mk (fun W (_ : Below w.heap.size w W) => yes_c op nm a n c W)
          simp only [t0] at HY
          have HYg := Aside.mk (fun W (_ : Below w.heap.size w W) => yes_c op' nm' a' n' c' W)
          simp only [t1] at HYg
          have HN := Aside.mk (fun W (_ : Below w.heap.size w W) => no_c op nm a n c W)
          simp only [t2] at HN
          have HNg := Aside.mk (fun W (_ : Below w.heap.size w W) => no_c op' nm' a' n' c' W)
          simp only [t3] at HNg
          have HL := Aside.mk (fun W (hW : Below w.heap.size w W) => always_c 11 (by omega) f op nm a n c W (HF.out.old.keep hW) (fun h => hA.2.2.2.1 (by omega)))
          clear hE hfo hgo hA hA' c0 c1 c2 c3
          go_enter Tryz.func218, Tryz.ntmps218
          go_wp2_with fail
          refine (HY.out _ HB.out).mono ?_
          rintro e w3 ⟨rfl, hb⟩
          have E' := Aside.mk (E.out.keep hb)
          have HB' : Aside (Below w.heap.size w w3) := ⟨below_to HB.out hb⟩
          clear E HB hb HY
          obtain ⟨x0, x1, x2, y0, y1, y2, r0, r1, r2, f0, f1, f2, sz⟩ := E'.out
          have E := E'
          have HB := HB'
          clear E' HB'
          go_wp2_with fail
          refine (HYg.out _ HB.out).mono ?_
          rintro e w4 ⟨rfl, hb⟩
          have E' := Aside.mk (E.out.keep hb)
          have HB' : Aside (Below w.heap.size w w4) := ⟨below_to HB.out hb⟩
          clear E HB hb HYg x0 x1 x2 y0 y1 y2 r0 r1 r2 f0 f1 f2 sz
          obtain ⟨x0, x1, x2, y0, y1, y2, r0, r1, r2, f0, f1, f2, sz⟩ := E'.out
          have E := E'
          have HB := HB'
          clear E' HB'
          go_wp2_with fail
          refine (HN.out _ HB.out).mono ?_
          rintro e w5 ⟨rfl, hb⟩
          have E' := Aside.mk (E.out.keep hb)
          have HB' : Aside (Below w.heap.size w w5) := ⟨below_to HB.out hb⟩
          clear E HB hb HN x0 x1 x2 y0 y1 y2 r0 r1 r2 f0 f1 f2 sz
          obtain ⟨x0, x1, x2, y0, y1, y2, r0, r1, r2, f0, f1, f2, sz⟩ := E'.out
          have E := E'
          have HB := HB'
          clear E' HB'
          go_wp2_with fail
          refine (HNg.out _ HB.out).mono ?_
          rintro e w6 ⟨rfl, hb⟩
          have E' := Aside.mk (E.out.keep hb)
          have HB' : Aside (Below w.heap.size w w6) := ⟨below_to HB.out hb⟩
          clear E HB hb HNg x0 x1 x2 y0 y1 y2 r0 r1 r2 f0 f1 f2 sz
          obtain ⟨x0, x1, x2, y0, y1, y2, r0, r1, r2, f0, f1, f2, sz⟩ := E'.out
          have E := E'
          have HB := HB'
          clear E' HB'
          go_wp2_with fail
          refine (HL.out _ HB.out).mono ?_
          rintro e v2 ⟨o3, n3, a3, l3, d3, rfl, hT, hb⟩
          have E' := E.out.keep hb
          have HB' : Aside (Below w.heap.size w v2) := ⟨below_to HB.out hb⟩
          have HT := Aside.mk hT
          clear hT HL
          clear HB hb x0 x1 x2 y0 y1 y2 r0 r1 r2 f0 f1 f2
          obtain ⟨x0, x1, x2, y0, y1, y2, r0, r1, r2, f0, f1, f2, sz'⟩ := E'
          go_wp2_with fail
          refine bodyPost_ret (v := fv o3 n3 a3 l3 d3) (by simp [results, Tryz.results218, go_sem, r0, r1, r2]) rfl ?_
          exact RetX.at_ _ HT.out HB'.out (by omega) E.out.sz _ _ _
        · -- test 3 False
          have t3 : (op' == 2) = false := by simp [c3]
          cases c4 : f.same g with
          | true =>
            have hE : sWeak f g = f := by simp [sWeak, hfo, hgo, c0, c1, c2, c3, c4]
            rw [hE]
            have HY := Aside.mk (fun W (_ : Below w.heap.size w W) => yes_c op nm a n c W)
            simp only [t0] at HY
            have HYg := Aside.mk (fun W (_ : Below w.heap.size w W) => yes_c op' nm' a' n' c' W)
            simp only [t1] at HYg
            have HN := Aside.mk (fun W (_ : Below w.heap.size w W) => no_c op nm a n c W)
            simp only [t2] at HN
            have HNg := Aside.mk (fun W (_ : Below w.heap.size w W) => no_c op' nm' a' n' c' W)
            simp only [t3] at HNg
            have HS4 := Aside.mk (fun W (hW : Below w.heap.size w W) => same_c f g op nm a n c op' nm' a' n' c' W (HF.out.keep hW).any (HG.out.keep hW).any)
            simp only [c4] at HS4
            clear hE hfo hgo hA hA' c0 c1 c2 c3 c4
            go_enter Tryz.func218, Tryz.ntmps218
            go_wp2_with fail
            refine (HY.out _ HB.out).mono ?_
            rintro e w3 ⟨rfl, hb⟩
            have E' := Aside.mk (E.out.keep hb)
            have HB' : Aside (Below w.heap.size w w3) := ⟨below_to HB.out hb⟩
            clear E HB hb HY
            obtain ⟨x0, x1, x2, y0, y1, y2, r0, r1, r2, f0, f1, f2, sz⟩ := E'.out
            have E := E'
            have HB := HB'
            clear E' HB'
            go_wp2_with fail
            refine (HYg.out _ HB.out).mono ?_
            rintro e w4 ⟨rfl, hb⟩
            have E' := Aside.mk (E.out.keep hb)
            have HB' : Aside (Below w.heap.size w w4) := ⟨below_to HB.out hb⟩
            clear E HB hb HYg x0 x1 x2 y0 y1 y2 r0 r1 r2 f0 f1 f2 sz
            obtain ⟨x0, x1, x2, y0, y1, y2, r0, r1, r2, f0, f1, f2, sz⟩ := E'.out
            have E := E'
            have HB := HB'
            clear E' HB'
            go_wp2_with fail
            refine (HN.out _ HB.out).mono ?_
            rintro e w5 ⟨rfl, hb⟩
            have E' := Aside.mk (E.out.keep hb)
            have HB' : Aside (Below w.heap.size w w5) := ⟨below_to HB.out hb⟩
            clear E HB hb HN x0 x1 x2 y0 y1 y2 r0 r1 r2 f0 f1 f2 sz
            obtain ⟨x0, x1, x2, y0, y1, y2, r0, r1, r2, f0, f1, f2, sz⟩ := E'.out
            have E := E'
            have HB := HB'
            clear E' HB'
            go_wp2_with fail
            refine (HNg.out _ HB.out).mono ?_
            rintro e w6 ⟨rfl, hb⟩
            have E' := Aside.mk (E.out.keep hb)
            have HB' : Aside (Below w.heap.size w w6) := ⟨below_to HB.out hb⟩
            clear E HB hb HNg x0 x1 x2 y0 y1 y2 r0 r1 r2 f0 f1 f2 sz
            obtain ⟨x0, x1, x2, y0, y1, y2, r0, r1, r2, f0, f1, f2, sz⟩ := E'.out
            have E := E'
            have HB := HB'
            clear E' HB'
            go_wp2_with fail
            refine (HS4.out _ HB.out).mono ?_
            rintro e w7 ⟨rfl, hb⟩
            have E' := Aside.mk (E.out.keep hb)
            have HB' : Aside (Below w.heap.size w w7) := ⟨below_to HB.out hb⟩
            clear E HB hb HS4 x0 x1 x2 y0 y1 y2 r0 r1 r2 f0 f1 f2 sz
            obtain ⟨x0, x1, x2, y0, y1, y2, r0, r1, r2, f0, f1, f2, sz⟩ := E'.out
            have E := E'
            have HB := HB'
            clear E' HB'
            go_wp2_with fail
            refine bodyPost_ret (v := fv op nm a n c) (by simp [results, Tryz.results218, go_sem, r0, r1, r2]) rfl ?_
            exact RetX.at_ (w.heap.size + 1 + 1 + 1) (old_at _ HF.out HB.out) HB.out (by omega) (by omega) _ _ _
          | false =>
            have hE : sWeak f g = two 14 f g := by simp [sWeak, hfo, hgo, c0, c1, c2, c3, c4]
            rw [hE]
            have HY := Aside.mk (fun W (_ : Below w.heap.size w W) => yes_c op nm a n c W)
            simp only [t0] at HY
            have HYg := Aside.mk (fun W (_ : Below w.heap.size w W) => yes_c op' nm' a' n' c' W)
            simp only [t1] at HYg
            have HN := Aside.mk (fun W (_ : Below w.heap.size w W) => no_c op nm a n c W)
            simp only [t2] at HN
            have HNg := Aside.mk (fun W (_ : Below w.heap.size w W) => no_c op' nm' a' n' c' W)
            simp only [t3] at HNg
            have HS4 := Aside.mk (fun W (hW : Below w.heap.size w W) => same_c f g op nm a n c op' nm' a' n' c' W (HF.out.keep hW).any (HG.out.keep hW).any)
            simp only [c4] at HS4
            clear hE hfo hgo hA hA' c0 c1 c2 c3 c4
            go_enter Tryz.func218, Tryz.ntmps218
            go_wp2_with fail
            refine (HY.out _ HB.out).mono ?_
            rintro e w3 ⟨rfl, hb⟩
            have E' := Aside.mk (E.out.keep hb)
            have HB' : Aside (Below w.heap.size w w3) := ⟨below_to HB.out hb⟩
            clear E HB hb HY
            obtain ⟨x0, x1, x2, y0, y1, y2, r0, r1, r2, f0, f1, f2, sz⟩ := E'.out
            have E := E'
            have HB := HB'
            clear E' HB'
            go_wp2_with fail
            refine (HYg.out _ HB.out).mono ?_
            rintro e w4 ⟨rfl, hb⟩
            have E' := Aside.mk (E.out.keep hb)
            have HB' : Aside (Below w.heap.size w w4) := ⟨below_to HB.out hb⟩
            clear E HB hb HYg x0 x1 x2 y0 y1 y2 r0 r1 r2 f0 f1 f2 sz
            obtain ⟨x0, x1, x2, y0, y1, y2, r0, r1, r2, f0, f1, f2, sz⟩ := E'.out
            have E := E'
            have HB := HB'
            clear E' HB'
            go_wp2_with fail
            refine (HN.out _ HB.out).mono ?_
            rintro e w5 ⟨rfl, hb⟩
            have E' := Aside.mk (E.out.keep hb)
            have HB' : Aside (Below w.heap.size w w5) := ⟨below_to HB.out hb⟩
            clear E HB hb HN x0 x1 x2 y0 y1 y2 r0 r1 r2 f0 f1 f2 sz
            obtain ⟨x0, x1, x2, y0, y1, y2, r0, r1, r2, f0, f1, f2, sz⟩ := E'.out
            have E := E'
            have HB := HB'
            clear E' HB'
            go_wp2_with fail
            refine (HNg.out _ HB.out).mono ?_
            rintro e w6 ⟨rfl, hb⟩
            have E' := Aside.mk (E.out.keep hb)
            have HB' : Aside (Below w.heap.size w w6) := ⟨below_to HB.out hb⟩
            clear E HB hb HNg x0 x1 x2 y0 y1 y2 r0 r1 r2 f0 f1 f2 sz
            obtain ⟨x0, x1, x2, y0, y1, y2, r0, r1, r2, f0, f1, f2, sz⟩ := E'.out
            have E := E'
            have HB := HB'
            clear E' HB'
            go_wp2_with fail
            refine (HS4.out _ HB.out).mono ?_
            rintro e w7 ⟨rfl, hb⟩
            have E' := Aside.mk (E.out.keep hb)
            have HB' : Aside (Below w.heap.size w w7) := ⟨below_to HB.out hb⟩
            clear E HB hb HS4 x0 x1 x2 y0 y1 y2 r0 r1 r2 f0 f1 f2 sz
            obtain ⟨x0, x1, x2, y0, y1, y2, r0, r1, r2, f0, f1, f2, sz⟩ := E'.out
            have E := E'
            have HB := HB'
            clear E' HB'
            go_wp2_with fail
            refine (of_c _ _ _ _ _).mono ?_
            rintro e v2 ⟨rfl, hb⟩
            have E' := E.out.keep (below_to (below_alloc (Below.refl _ _) _) hb)
            have HB' : Aside (Below w.heap.size w v2) := ⟨below_to (below_alloc HB.out _) hb⟩
            have HT := Aside.mk (of2_after (q := 14) (by omega) (by omega) HB.out hb HF.out HG.out)
            clear HB hb x0 x1 x2 y0 y1 y2 r0 r1 r2 f0 f1 f2
            obtain ⟨x0, x1, x2, y0, y1, y2, r0, r1, r2, f0, f1, f2, sz'⟩ := E'
            go_wp2_with fail
            refine bodyPost_ret (v := fv 14 nil8 (some ⟨w7.heap.size, 0, none⟩) 2 2) (by simp [results, Tryz.results218, go_sem, r0, r1, r2]) rfl ?_
            exact RetX.at_ _ HT.out HB'.out (by omega) E.out.sz _ _ _

set_option maxRecDepth 100000 in
set_option maxHeartbeats 8000000 in
theorem strong_c {X : Nat → Prop} (f g : Fm) (op : Int) (nm : ByteArray) (a : Option Addr) (n c : Nat) (op' : Int) (nm' : ByteArray) (a' : Option Addr) (n' c' : Nat) (w : World) (h : IsTX X w op nm a n c f) (h' : IsTX X w op' nm' a' n' c' g) (hA : ArOk op n) (hA' : ArOk op' n') :
    Calls Tryz.prog 220 #[fv op nm a n c, fv op' nm' a' n' c'] w (RetX X (sStrong f g) w) := by
  have hfo : f.op = op := by obtain ⟨_, _, _, _, rfl, _⟩ := h.parts; rfl
  have hgo : g.op = op' := by obtain ⟨_, _, _, _, rfl, _⟩ := h'.parts; rfl
  have HF := Aside.mk h
  have HG := Aside.mk h'
  clear h h'
  have HB := Aside.mk (env2_below w op nm a n c op' nm' a' n' c' 25)
  have E := Aside.mk (env2_start w op nm a n c op' nm' a' n' c' 25)
  by_cases c0 : op = 2
  · -- test 0 True
    have t0 : (op == 2) = true := by simp [c0]
    have hE : sStrong f g = F1 := by simp [sStrong, hfo, hgo, c0]
    rw [hE]
    have HN := Aside.mk (fun W (_ : Below w.heap.size w W) => no_c op nm a n c W)
    simp only [t0] at HN
    clear hE hfo hgo hA hA' c0
    go_enter Tryz.func220, Tryz.ntmps220
    go_wp2_with fail
    refine (HN.out _ HB.out).mono ?_
    rintro e w3 ⟨rfl, hb⟩
    have E' := Aside.mk (E.out.keep hb)
    have HB' : Aside (Below w.heap.size w w3) := ⟨below_to HB.out hb⟩
    clear E HB hb HN
    obtain ⟨x0, x1, x2, y0, y1, y2, r0, r1, r2, f0, f1, f2, sz⟩ := E'.out
    have E := E'
    have HB := HB'
    clear E' HB'
    go_wp2_with fail
    refine (of_c _ _ _ _ _).mono ?_
    rintro e v2 ⟨rfl, hb⟩
    have E' := E.out.keep hb
    have HB' : Aside (Below w.heap.size w v2) := ⟨below_to HB.out hb⟩
    clear HB hb x0 x1 x2 y0 y1 y2 r0 r1 r2 f0 f1 f2
    obtain ⟨x0, x1, x2, y0, y1, y2, r0, r1, r2, f0, f1, f2, sz'⟩ := E'
    go_wp2_with fail
    refine bodyPost_ret (v := fv 2 nil8 none 0 0) (by simp [results, Tryz.results220, go_sem, r0, r1, r2]) rfl ?_
    exact RetX.leaf (by omega) (by omega) (by decide) (by omega) (below_set3 HB'.out (by omega) _ _ _)
  · -- test 0 False
    have t0 : (op == 2) = false := by simp [c0]
    by_cases c1 : op' = 2
    · -- test 1 True
      have t1 : (op' == 2) = true := by simp [c1]
      have hE : sStrong f g = F1 := by simp [sStrong, hfo, hgo, c0, c1]
      rw [hE]
      have HN := Aside.mk (fun W (_ : Below w.heap.size w W) => no_c op nm a n c W)
      simp only [t0] at HN
      have HNg := Aside.mk (fun W (_ : Below w.heap.size w W) => no_c op' nm' a' n' c' W)
      simp only [t1] at HNg
      clear hE hfo hgo hA hA' c0 c1
      go_enter Tryz.func220, Tryz.ntmps220
      go_wp2_with fail
      refine (HN.out _ HB.out).mono ?_
      rintro e w3 ⟨rfl, hb⟩
      have E' := Aside.mk (E.out.keep hb)
      have HB' : Aside (Below w.heap.size w w3) := ⟨below_to HB.out hb⟩
      clear E HB hb HN
      obtain ⟨x0, x1, x2, y0, y1, y2, r0, r1, r2, f0, f1, f2, sz⟩ := E'.out
      have E := E'
      have HB := HB'
      clear E' HB'
      go_wp2_with fail
      refine (HNg.out _ HB.out).mono ?_
      rintro e w4 ⟨rfl, hb⟩
      have E' := Aside.mk (E.out.keep hb)
      have HB' : Aside (Below w.heap.size w w4) := ⟨below_to HB.out hb⟩
      clear E HB hb HNg x0 x1 x2 y0 y1 y2 r0 r1 r2 f0 f1 f2 sz
      obtain ⟨x0, x1, x2, y0, y1, y2, r0, r1, r2, f0, f1, f2, sz⟩ := E'.out
      have E := E'
      have HB := HB'
      clear E' HB'
      go_wp2_with fail
      refine (of_c _ _ _ _ _).mono ?_
      rintro e v2 ⟨rfl, hb⟩
      have E' := E.out.keep hb
      have HB' : Aside (Below w.heap.size w v2) := ⟨below_to HB.out hb⟩
      clear HB hb x0 x1 x2 y0 y1 y2 r0 r1 r2 f0 f1 f2
      obtain ⟨x0, x1, x2, y0, y1, y2, r0, r1, r2, f0, f1, f2, sz'⟩ := E'
      go_wp2_with fail
      refine bodyPost_ret (v := fv 2 nil8 none 0 0) (by simp [results, Tryz.results220, go_sem, r0, r1, r2]) rfl ?_
      exact RetX.leaf (by omega) (by omega) (by decide) (by omega) (below_set3 HB'.out (by omega) _ _ _)
    · -- test 1 False
      have t1 : (op' == 2) = false := by simp [c1]
      by_cases c2 : op = 1
      · -- test 2 True
        have t2 : (op == 1) = true := by simp [c2]
        have hE : sStrong f g = g := by simp [sStrong, hfo, hgo, c0, c1, c2]
        rw [hE]
        have HN := Aside.mk (fun W (_ : Below w.heap.size w W) => no_c op nm a n c W)
        simp only [t0] at HN
        have HNg := Aside.mk (fun W (_ : Below w.heap.size w W) => no_c op' nm' a' n' c' W)
        simp only [t1] at HNg
        have HY := Aside.mk (fun W (_ : Below w.heap.size w W) => yes_c op nm a n c W)
        simp only [t2] at HY
        clear hE hfo hgo hA hA' c0 c1 c2
        go_enter Tryz.func220, Tryz.ntmps220
        go_wp2_with fail
        refine (HN.out _ HB.out).mono ?_
        rintro e w3 ⟨rfl, hb⟩
        have E' := Aside.mk (E.out.keep hb)
        have HB' : Aside (Below w.heap.size w w3) := ⟨below_to HB.out hb⟩
        clear E HB hb HN
        obtain ⟨x0, x1, x2, y0, y1, y2, r0, r1, r2, f0, f1, f2, sz⟩ := E'.out
        have E := E'
        have HB := HB'
        clear E' HB'
        go_wp2_with fail
        refine (HNg.out _ HB.out).mono ?_
        rintro e w4 ⟨rfl, hb⟩
        have E' := Aside.mk (E.out.keep hb)
        have HB' : Aside (Below w.heap.size w w4) := ⟨below_to HB.out hb⟩
        clear E HB hb HNg x0 x1 x2 y0 y1 y2 r0 r1 r2 f0 f1 f2 sz
        obtain ⟨x0, x1, x2, y0, y1, y2, r0, r1, r2, f0, f1, f2, sz⟩ := E'.out
        have E := E'
        have HB := HB'
        clear E' HB'
        go_wp2_with fail
        refine (HY.out _ HB.out).mono ?_
        rintro e w5 ⟨rfl, hb⟩
        have E' := Aside.mk (E.out.keep hb)
        have HB' : Aside (Below w.heap.size w w5) := ⟨below_to HB.out hb⟩
        clear E HB hb HY x0 x1 x2 y0 y1 y2 r0 r1 r2 f0 f1 f2 sz
        obtain ⟨x0, x1, x2, y0, y1, y2, r0, r1, r2, f0, f1, f2, sz⟩ := E'.out
        have E := E'
        have HB := HB'
        clear E' HB'
        go_wp2_with fail
        refine bodyPost_ret (v := fv op' nm' a' n' c') (by simp [results, Tryz.results220, go_sem, r0, r1, r2]) rfl ?_
        exact RetX.at_ (w.heap.size + 1 + 1 + 1) (old_at _ HG.out HB.out) HB.out (by omega) (by omega) _ _ _
      · -- test 2 False
        have t2 : (op == 1) = false := by simp [c2]
        by_cases c3 : op' = 1
        · -- test 3 True
          have t3 : (op' == 1) = true := by simp [c3]
          have hE : sStrong f g = f.sAlways 10 := by simp [sStrong, hfo, hgo, c0, c1, c2, c3]
          rw [hE]
          have HN := Aside.mk (fun W (_ : Below w.heap.size w W) => no_c op nm a n c W)
          simp only [t0] at HN
          have HNg := Aside.mk (fun W (_ : Below w.heap.size w W) => no_c op' nm' a' n' c' W)
          simp only [t1] at HNg
          have HY := Aside.mk (fun W (_ : Below w.heap.size w W) => yes_c op nm a n c W)
          simp only [t2] at HY
          have HYg := Aside.mk (fun W (_ : Below w.heap.size w W) => yes_c op' nm' a' n' c' W)
          simp only [t3] at HYg
          have HL := Aside.mk (fun W (hW : Below w.heap.size w W) => always_c 10 (by omega) f op nm a n c W (HF.out.old.keep hW) (fun h => hA.2.2.2.2 (by omega)))
          clear hE hfo hgo hA hA' c0 c1 c2 c3
          go_enter Tryz.func220, Tryz.ntmps220
          go_wp2_with fail
          refine (HN.out _ HB.out).mono ?_
          rintro e w3 ⟨rfl, hb⟩
          have E' := Aside.mk (E.out.keep hb)
          have HB' : Aside (Below w.heap.size w w3) := ⟨below_to HB.out hb⟩
          clear E HB hb HN
          obtain ⟨x0, x1, x2, y0, y1, y2, r0, r1, r2, f0, f1, f2, sz⟩ := E'.out
          have E := E'
          have HB := HB'
          clear E' HB'
          go_wp2_with fail
          refine (HNg.out _ HB.out).mono ?_
          rintro e w4 ⟨rfl, hb⟩
          have E' := Aside.mk (E.out.keep hb)
          have HB' : Aside (Below w.heap.size w w4) := ⟨below_to HB.out hb⟩
          clear E HB hb HNg x0 x1 x2 y0 y1 y2 r0 r1 r2 f0 f1 f2 sz
          obtain ⟨x0, x1, x2, y0, y1, y2, r0, r1, r2, f0, f1, f2, sz⟩ := E'.out
          have E := E'
          have HB := HB'
          clear E' HB'
          go_wp2_with fail
          refine (HY.out _ HB.out).mono ?_
          rintro e w5 ⟨rfl, hb⟩
          have E' := Aside.mk (E.out.keep hb)
          have HB' : Aside (Below w.heap.size w w5) := ⟨below_to HB.out hb⟩
          clear E HB hb HY x0 x1 x2 y0 y1 y2 r0 r1 r2 f0 f1 f2 sz
          obtain ⟨x0, x1, x2, y0, y1, y2, r0, r1, r2, f0, f1, f2, sz⟩ := E'.out
          have E := E'
          have HB := HB'
          clear E' HB'
          go_wp2_with fail
          refine (HYg.out _ HB.out).mono ?_
          rintro e w6 ⟨rfl, hb⟩
          have E' := Aside.mk (E.out.keep hb)
          have HB' : Aside (Below w.heap.size w w6) := ⟨below_to HB.out hb⟩
          clear E HB hb HYg x0 x1 x2 y0 y1 y2 r0 r1 r2 f0 f1 f2 sz
          obtain ⟨x0, x1, x2, y0, y1, y2, r0, r1, r2, f0, f1, f2, sz⟩ := E'.out
          have E := E'
          have HB := HB'
          clear E' HB'
          go_wp2_with fail
          refine (HL.out _ HB.out).mono ?_
          rintro e v2 ⟨o3, n3, a3, l3, d3, rfl, hT, hb⟩
          have E' := E.out.keep hb
          have HB' : Aside (Below w.heap.size w v2) := ⟨below_to HB.out hb⟩
          have HT := Aside.mk hT
          clear hT HL
          clear HB hb x0 x1 x2 y0 y1 y2 r0 r1 r2 f0 f1 f2
          obtain ⟨x0, x1, x2, y0, y1, y2, r0, r1, r2, f0, f1, f2, sz'⟩ := E'
          go_wp2_with fail
          refine bodyPost_ret (v := fv o3 n3 a3 l3 d3) (by simp [results, Tryz.results220, go_sem, r0, r1, r2]) rfl ?_
          exact RetX.at_ _ HT.out HB'.out (by omega) E.out.sz _ _ _
        · -- test 3 False
          have t3 : (op' == 1) = false := by simp [c3]
          cases c4 : f.same g with
          | true =>
            have hE : sStrong f g = f := by simp [sStrong, hfo, hgo, c0, c1, c2, c3, c4]
            rw [hE]
            have HN := Aside.mk (fun W (_ : Below w.heap.size w W) => no_c op nm a n c W)
            simp only [t0] at HN
            have HNg := Aside.mk (fun W (_ : Below w.heap.size w W) => no_c op' nm' a' n' c' W)
            simp only [t1] at HNg
            have HY := Aside.mk (fun W (_ : Below w.heap.size w W) => yes_c op nm a n c W)
            simp only [t2] at HY
            have HYg := Aside.mk (fun W (_ : Below w.heap.size w W) => yes_c op' nm' a' n' c' W)
            simp only [t3] at HYg
            have HS4 := Aside.mk (fun W (hW : Below w.heap.size w W) => same_c f g op nm a n c op' nm' a' n' c' W (HF.out.keep hW).any (HG.out.keep hW).any)
            simp only [c4] at HS4
            clear hE hfo hgo hA hA' c0 c1 c2 c3 c4
            go_enter Tryz.func220, Tryz.ntmps220
            go_wp2_with fail
            refine (HN.out _ HB.out).mono ?_
            rintro e w3 ⟨rfl, hb⟩
            have E' := Aside.mk (E.out.keep hb)
            have HB' : Aside (Below w.heap.size w w3) := ⟨below_to HB.out hb⟩
            clear E HB hb HN
            obtain ⟨x0, x1, x2, y0, y1, y2, r0, r1, r2, f0, f1, f2, sz⟩ := E'.out
            have E := E'
            have HB := HB'
            clear E' HB'
            go_wp2_with fail
            refine (HNg.out _ HB.out).mono ?_
            rintro e w4 ⟨rfl, hb⟩
            have E' := Aside.mk (E.out.keep hb)
            have HB' : Aside (Below w.heap.size w w4) := ⟨below_to HB.out hb⟩
            clear E HB hb HNg x0 x1 x2 y0 y1 y2 r0 r1 r2 f0 f1 f2 sz
            obtain ⟨x0, x1, x2, y0, y1, y2, r0, r1, r2, f0, f1, f2, sz⟩ := E'.out
            have E := E'
            have HB := HB'
            clear E' HB'
            go_wp2_with fail
            refine (HY.out _ HB.out).mono ?_
            rintro e w5 ⟨rfl, hb⟩
            have E' := Aside.mk (E.out.keep hb)
            have HB' : Aside (Below w.heap.size w w5) := ⟨below_to HB.out hb⟩
            clear E HB hb HY x0 x1 x2 y0 y1 y2 r0 r1 r2 f0 f1 f2 sz
            obtain ⟨x0, x1, x2, y0, y1, y2, r0, r1, r2, f0, f1, f2, sz⟩ := E'.out
            have E := E'
            have HB := HB'
            clear E' HB'
            go_wp2_with fail
            refine (HYg.out _ HB.out).mono ?_
            rintro e w6 ⟨rfl, hb⟩
            have E' := Aside.mk (E.out.keep hb)
            have HB' : Aside (Below w.heap.size w w6) := ⟨below_to HB.out hb⟩
            clear E HB hb HYg x0 x1 x2 y0 y1 y2 r0 r1 r2 f0 f1 f2 sz
            obtain ⟨x0, x1, x2, y0, y1, y2, r0, r1, r2, f0, f1, f2, sz⟩ := E'.out
            have E := E'
            have HB := HB'
            clear E' HB'
            go_wp2_with fail
            refine (HS4.out _ HB.out).mono ?_
            rintro e w7 ⟨rfl, hb⟩
            have E' := Aside.mk (E.out.keep hb)
            have HB' : Aside (Below w.heap.size w w7) := ⟨below_to HB.out hb⟩
            clear E HB hb HS4 x0 x1 x2 y0 y1 y2 r0 r1 r2 f0 f1 f2 sz
            obtain ⟨x0, x1, x2, y0, y1, y2, r0, r1, r2, f0, f1, f2, sz⟩ := E'.out
            have E := E'
            have HB := HB'
            clear E' HB'
            go_wp2_with fail
            refine bodyPost_ret (v := fv op nm a n c) (by simp [results, Tryz.results220, go_sem, r0, r1, r2]) rfl ?_
            exact RetX.at_ (w.heap.size + 1 + 1 + 1) (old_at _ HF.out HB.out) HB.out (by omega) (by omega) _ _ _
          | false =>
            have hE : sStrong f g = two 15 f g := by simp [sStrong, hfo, hgo, c0, c1, c2, c3, c4]
            rw [hE]
            have HN := Aside.mk (fun W (_ : Below w.heap.size w W) => no_c op nm a n c W)
            simp only [t0] at HN
            have HNg := Aside.mk (fun W (_ : Below w.heap.size w W) => no_c op' nm' a' n' c' W)
            simp only [t1] at HNg
            have HY := Aside.mk (fun W (_ : Below w.heap.size w W) => yes_c op nm a n c W)
            simp only [t2] at HY
            have HYg := Aside.mk (fun W (_ : Below w.heap.size w W) => yes_c op' nm' a' n' c' W)
            simp only [t3] at HYg
            have HS4 := Aside.mk (fun W (hW : Below w.heap.size w W) => same_c f g op nm a n c op' nm' a' n' c' W (HF.out.keep hW).any (HG.out.keep hW).any)
            simp only [c4] at HS4
            clear hE hfo hgo hA hA' c0 c1 c2 c3 c4
            go_enter Tryz.func220, Tryz.ntmps220
            go_wp2_with fail
            refine (HN.out _ HB.out).mono ?_
            rintro e w3 ⟨rfl, hb⟩
            have E' := Aside.mk (E.out.keep hb)
            have HB' : Aside (Below w.heap.size w w3) := ⟨below_to HB.out hb⟩
            clear E HB hb HN
            obtain ⟨x0, x1, x2, y0, y1, y2, r0, r1, r2, f0, f1, f2, sz⟩ := E'.out
            have E := E'
            have HB := HB'
            clear E' HB'
            go_wp2_with fail
            refine (HNg.out _ HB.out).mono ?_
            rintro e w4 ⟨rfl, hb⟩
            have E' := Aside.mk (E.out.keep hb)
            have HB' : Aside (Below w.heap.size w w4) := ⟨below_to HB.out hb⟩
            clear E HB hb HNg x0 x1 x2 y0 y1 y2 r0 r1 r2 f0 f1 f2 sz
            obtain ⟨x0, x1, x2, y0, y1, y2, r0, r1, r2, f0, f1, f2, sz⟩ := E'.out
            have E := E'
            have HB := HB'
            clear E' HB'
            go_wp2_with fail
            refine (HY.out _ HB.out).mono ?_
            rintro e w5 ⟨rfl, hb⟩
            have E' := Aside.mk (E.out.keep hb)
            have HB' : Aside (Below w.heap.size w w5) := ⟨below_to HB.out hb⟩
            clear E HB hb HY x0 x1 x2 y0 y1 y2 r0 r1 r2 f0 f1 f2 sz
            obtain ⟨x0, x1, x2, y0, y1, y2, r0, r1, r2, f0, f1, f2, sz⟩ := E'.out
            have E := E'
            have HB := HB'
            clear E' HB'
            go_wp2_with fail
            refine (HYg.out _ HB.out).mono ?_
            rintro e w6 ⟨rfl, hb⟩
            have E' := Aside.mk (E.out.keep hb)
            have HB' : Aside (Below w.heap.size w w6) := ⟨below_to HB.out hb⟩
            clear E HB hb HYg x0 x1 x2 y0 y1 y2 r0 r1 r2 f0 f1 f2 sz
            obtain ⟨x0, x1, x2, y0, y1, y2, r0, r1, r2, f0, f1, f2, sz⟩ := E'.out
            have E := E'
            have HB := HB'
            clear E' HB'
            go_wp2_with fail
            refine (HS4.out _ HB.out).mono ?_
            rintro e w7 ⟨rfl, hb⟩
            have E' := Aside.mk (E.out.keep hb)
            have HB' : Aside (Below w.heap.size w w7) := ⟨below_to HB.out hb⟩
            clear E HB hb HS4 x0 x1 x2 y0 y1 y2 r0 r1 r2 f0 f1 f2 sz
            obtain ⟨x0, x1, x2, y0, y1, y2, r0, r1, r2, f0, f1, f2, sz⟩ := E'.out
            have E := E'
            have HB := HB'
            clear E' HB'
            go_wp2_with fail
            refine (of_c _ _ _ _ _).mono ?_
            rintro e v2 ⟨rfl, hb⟩
            have E' := E.out.keep (below_to (below_alloc (Below.refl _ _) _) hb)
            have HB' : Aside (Below w.heap.size w v2) := ⟨below_to (below_alloc HB.out _) hb⟩
            have HT := Aside.mk (of2_after (q := 15) (by omega) (by omega) HB.out hb HF.out HG.out)
            clear HB hb x0 x1 x2 y0 y1 y2 r0 r1 r2 f0 f1 f2
            obtain ⟨x0, x1, x2, y0, y1, y2, r0, r1, r2, f0, f1, f2, sz'⟩ := E'
            go_wp2_with fail
            refine bodyPost_ret (v := fv 15 nil8 (some ⟨w7.heap.size, 0, none⟩) 2 2) (by simp [results, Tryz.results220, go_sem, r0, r1, r2]) rfl ?_
            exact RetX.at_ _ HT.out HB'.out (by omega) E.out.sz _ _ _

end Go.Proofs.YtmmakkaolknbaaaGreatDoor
