/- Contracts of nnf's rules of two kids, printed by gen_simple.py: until. -/
import Derived.Test.YtmmakkaolknbaaaGreatDoorNnfC
namespace Go.Proofs.YtmmakkaolknbaaaGreatDoor
set_option linter.unusedVariables false
set_option linter.unusedSimpArgs false
open Go.RowKit Go.Shelf

set_option maxRecDepth 100000 in
set_option maxHeartbeats 8000000 in
theorem unt12_c {X : Nat → Prop} (f g : Fm) (op : Int) (nm : ByteArray) (a : Option Addr) (n c : Nat) (op' : Int) (nm' : ByteArray) (a' : Option Addr) (n' c' : Nat) (w : World) (h : IsTX X w op nm a n c f) (h' : IsTX X w op' nm' a' n' c' g) (hA : ArOk op n) (hA' : ArOk op' n') :
    Calls Tryz.prog 215 #[.int .u8 12, fv op nm a n c, fv op' nm' a' n' c'] w (RetX X (unt 12 1 2 10 f g) w) := by
  have hfo : f.op = op := by obtain ⟨_, _, _, _, rfl, _⟩ := h.parts; rfl
  have hgo : g.op = op' := by obtain ⟨_, _, _, _, rfl, _⟩ := h'.parts; rfl
  have HF := Aside.mk h
  have HG := Aside.mk h'
  clear h h'
  have HB := Aside.mk (env2_below w op nm a n c op' nm' a' n' c' 25)
  have E := Aside.mk (env2_start w op nm a n c op' nm' a' n' c' 25)
  cases c0 : sureB op' with
  | true =>
    have hE : unt 12 1 2 10 f g = g := by simp [unt, hfo, hgo, c0]
    rw [hE]
    have HU0 := Aside.mk (fun W (_ : Below w.heap.size w W) => sure_c op' nm' a' n' c' W)
    simp only [c0] at HU0
    clear hE hfo hgo hA hA' c0
    go_enter Tryz.func215, Tryz.ntmps215
    go_wp2_with fail
    refine (HU0.out _ HB.out).mono ?_
    rintro e w3 ⟨rfl, hb⟩
    have E' := Aside.mk (E.out.keep hb)
    have HB' : Aside (Below w.heap.size w w3) := ⟨below_to HB.out hb⟩
    clear E HB hb HU0
    obtain ⟨x0, x1, x2, y0, y1, y2, r0, r1, r2, f0, f1, f2, sz⟩ := E'.out
    have E := E'
    have HB := HB'
    clear E' HB'
    go_wp2_with fail
    refine bodyPost_ret (v := fv op' nm' a' n' c') (by simp [results, Tryz.results215, go_sem, r0, r1, r2]) rfl ?_
    exact RetX.at_ (w.heap.size + 1 + 1 + 1) (old_at _ HG.out HB.out) HB.out (by omega) (by omega) _ _ _
  | false =>
    by_cases c1 : op = 1
    · -- test 1 True
      have t1 : (op == 1) = true := by simp [c1]
      have hE : unt 12 1 2 10 f g = g.sAlways 10 := by simp [unt, hfo, hgo, c0, c1]
      rw [hE]
      have HU0 := Aside.mk (fun W (_ : Below w.heap.size w W) => sure_c op' nm' a' n' c' W)
      simp only [c0] at HU0
      have HL := Aside.mk (fun W (hW : Below w.heap.size w W) => always_c 10 (by omega) g op' nm' a' n' c' W (HG.out.old.keep hW) (fun h => hA'.2.2.2.2 (by omega)))
      clear hE hfo hgo hA hA' c0 c1
      go_enter Tryz.func215, Tryz.ntmps215
      go_wp2_with fail
      refine (HU0.out _ HB.out).mono ?_
      rintro e w3 ⟨rfl, hb⟩
      have E' := Aside.mk (E.out.keep hb)
      have HB' : Aside (Below w.heap.size w w3) := ⟨below_to HB.out hb⟩
      clear E HB hb HU0
      obtain ⟨x0, x1, x2, y0, y1, y2, r0, r1, r2, f0, f1, f2, sz⟩ := E'.out
      have E := E'
      have HB := HB'
      clear E' HB'
      go_wp2_with fail
      refine (HL.out _ HB.out).mono ?_
      rintro e v2 ⟨o3, n3, a3, l3, d3, rfl, hT, hb⟩
      have E' := E.out.keep hb
      have HB' : Aside (Below w.heap.size w v2) := ⟨below_to HB.out hb⟩
      have HT := Aside.mk hT
      clear hT HL
      clear HB hb x0 x1 x2 y0 y1 y2 r0 r1 r2 f0 f1 f2
      obtain ⟨x0, x1, x2, y0, y1, y2, r0, r1, r2, f0, f1, f2, sz'⟩ := E'
      go_wp2_with fail
      refine bodyPost_ret (v := fv o3 n3 a3 l3 d3) (by simp [results, Tryz.results215, go_sem, r0, r1, r2]) rfl ?_
      exact RetX.at_ _ HT.out HB'.out (by omega) E.out.sz _ _ _
    · -- test 1 False
      have t1 : (op == 1) = false := by simp [c1]
      by_cases c2 : op = 2
      · -- test 2 True
        have t2 : (op == 2) = true := by simp [c2]
        have hE : unt 12 1 2 10 f g = g := by simp [unt, hfo, hgo, c0, c1, c2]
        rw [hE]
        have HU0 := Aside.mk (fun W (_ : Below w.heap.size w W) => sure_c op' nm' a' n' c' W)
        simp only [c0] at HU0
        clear hE hfo hgo hA hA' c0 c1 c2
        go_enter Tryz.func215, Tryz.ntmps215
        go_wp2_with fail
        refine (HU0.out _ HB.out).mono ?_
        rintro e w3 ⟨rfl, hb⟩
        have E' := Aside.mk (E.out.keep hb)
        have HB' : Aside (Below w.heap.size w w3) := ⟨below_to HB.out hb⟩
        clear E HB hb HU0
        obtain ⟨x0, x1, x2, y0, y1, y2, r0, r1, r2, f0, f1, f2, sz⟩ := E'.out
        have E := E'
        have HB := HB'
        clear E' HB'
        go_wp2_with fail
        refine bodyPost_ret (v := fv op' nm' a' n' c') (by simp [results, Tryz.results215, go_sem, r0, r1, r2]) rfl ?_
        exact RetX.at_ (w.heap.size + 1 + 1 + 1) (old_at _ HG.out HB.out) HB.out (by omega) (by omega) _ _ _
      · -- test 2 False
        have t2 : (op == 2) = false := by simp [c2]
        cases c3 : f.same g with
        | true =>
          have hE : unt 12 1 2 10 f g = f := by simp [unt, hfo, hgo, c0, c1, c2, c3]
          rw [hE]
          have HU0 := Aside.mk (fun W (_ : Below w.heap.size w W) => sure_c op' nm' a' n' c' W)
          simp only [c0] at HU0
          have HS3 := Aside.mk (fun W (hW : Below w.heap.size w W) => same_c f g op nm a n c op' nm' a' n' c' W (HF.out.keep hW).any (HG.out.keep hW).any)
          simp only [c3] at HS3
          clear hE hfo hgo hA hA' c0 c1 c2 c3
          go_enter Tryz.func215, Tryz.ntmps215
          go_wp2_with fail
          refine (HU0.out _ HB.out).mono ?_
          rintro e w3 ⟨rfl, hb⟩
          have E' := Aside.mk (E.out.keep hb)
          have HB' : Aside (Below w.heap.size w w3) := ⟨below_to HB.out hb⟩
          clear E HB hb HU0
          obtain ⟨x0, x1, x2, y0, y1, y2, r0, r1, r2, f0, f1, f2, sz⟩ := E'.out
          have E := E'
          have HB := HB'
          clear E' HB'
          go_wp2_with fail
          refine (HS3.out _ HB.out).mono ?_
          rintro e w4 ⟨rfl, hb⟩
          have E' := Aside.mk (E.out.keep hb)
          have HB' : Aside (Below w.heap.size w w4) := ⟨below_to HB.out hb⟩
          clear E HB hb HS3 x0 x1 x2 y0 y1 y2 r0 r1 r2 f0 f1 f2 sz
          obtain ⟨x0, x1, x2, y0, y1, y2, r0, r1, r2, f0, f1, f2, sz⟩ := E'.out
          have E := E'
          have HB := HB'
          clear E' HB'
          go_wp2_with fail
          refine bodyPost_ret (v := fv op nm a n c) (by simp [results, Tryz.results215, go_sem, r0, r1, r2]) rfl ?_
          exact RetX.at_ (w.heap.size + 1 + 1 + 1) (old_at _ HF.out HB.out) HB.out (by omega) (by omega) _ _ _
        | false =>
          by_cases c4 : op' = 10
          · -- test 4 True
            have t4 : (op' == 10) = true := by simp [c4]
            have hE : unt 12 1 2 10 f g = g := by simp [unt, hfo, hgo, c0, c1, c2, c3, c4]
            rw [hE]
            have HU0 := Aside.mk (fun W (_ : Below w.heap.size w W) => sure_c op' nm' a' n' c' W)
            simp only [c0] at HU0
            have HS3 := Aside.mk (fun W (hW : Below w.heap.size w W) => same_c f g op nm a n c op' nm' a' n' c' W (HF.out.keep hW).any (HG.out.keep hW).any)
            simp only [c3] at HS3
            clear hE hfo hgo hA hA' c0 c1 c2 c3 c4
            go_enter Tryz.func215, Tryz.ntmps215
            go_wp2_with fail
            refine (HU0.out _ HB.out).mono ?_
            rintro e w3 ⟨rfl, hb⟩
            have E' := Aside.mk (E.out.keep hb)
            have HB' : Aside (Below w.heap.size w w3) := ⟨below_to HB.out hb⟩
            clear E HB hb HU0
            obtain ⟨x0, x1, x2, y0, y1, y2, r0, r1, r2, f0, f1, f2, sz⟩ := E'.out
            have E := E'
            have HB := HB'
            clear E' HB'
            go_wp2_with fail
            refine (HS3.out _ HB.out).mono ?_
            rintro e w4 ⟨rfl, hb⟩
            have E' := Aside.mk (E.out.keep hb)
            have HB' : Aside (Below w.heap.size w w4) := ⟨below_to HB.out hb⟩
            clear E HB hb HS3 x0 x1 x2 y0 y1 y2 r0 r1 r2 f0 f1 f2 sz
            obtain ⟨x0, x1, x2, y0, y1, y2, r0, r1, r2, f0, f1, f2, sz⟩ := E'.out
            have E := E'
            have HB := HB'
            clear E' HB'
            go_wp2_with fail
            refine bodyPost_ret (v := fv op' nm' a' n' c') (by simp [results, Tryz.results215, go_sem, r0, r1, r2]) rfl ?_
            exact RetX.at_ (w.heap.size + 1 + 1 + 1) (old_at _ HG.out HB.out) HB.out (by omega) (by omega) _ _ _
          · -- test 4 False
            have t4 : (op' == 10) = false := by simp [c4]
            have hE : unt 12 1 2 10 f g = two 12 f g := by simp [unt, hfo, hgo, c0, c1, c2, c3, c4]
            rw [hE]
            have HU0 := Aside.mk (fun W (_ : Below w.heap.size w W) => sure_c op' nm' a' n' c' W)
            simp only [c0] at HU0
            have HS3 := Aside.mk (fun W (hW : Below w.heap.size w W) => same_c f g op nm a n c op' nm' a' n' c' W (HF.out.keep hW).any (HG.out.keep hW).any)
            simp only [c3] at HS3
            clear hE hfo hgo hA hA' c0 c1 c2 c3 c4
            go_enter Tryz.func215, Tryz.ntmps215
            go_wp2_with fail
            refine (HU0.out _ HB.out).mono ?_
            rintro e w3 ⟨rfl, hb⟩
            have E' := Aside.mk (E.out.keep hb)
            have HB' : Aside (Below w.heap.size w w3) := ⟨below_to HB.out hb⟩
            clear E HB hb HU0
            obtain ⟨x0, x1, x2, y0, y1, y2, r0, r1, r2, f0, f1, f2, sz⟩ := E'.out
            have E := E'
            have HB := HB'
            clear E' HB'
            go_wp2_with fail
            refine (HS3.out _ HB.out).mono ?_
            rintro e w4 ⟨rfl, hb⟩
            have E' := Aside.mk (E.out.keep hb)
            have HB' : Aside (Below w.heap.size w w4) := ⟨below_to HB.out hb⟩
            clear E HB hb HS3 x0 x1 x2 y0 y1 y2 r0 r1 r2 f0 f1 f2 sz
            obtain ⟨x0, x1, x2, y0, y1, y2, r0, r1, r2, f0, f1, f2, sz⟩ := E'.out
            have E := E'
            have HB := HB'
            clear E' HB'
            go_wp2_with fail
            refine (of_c _ _ _ _ _).mono ?_
            rintro e v2 ⟨rfl, hb⟩
            have E' := E.out.keep (below_to (below_alloc (Below.refl _ _) _) hb)
            have HB' : Aside (Below w.heap.size w v2) := ⟨below_to (below_alloc HB.out _) hb⟩
            have HT := Aside.mk (of2_after (q := 12) (by omega) (by omega) HB.out hb HF.out HG.out)
            clear HB hb x0 x1 x2 y0 y1 y2 r0 r1 r2 f0 f1 f2
            obtain ⟨x0, x1, x2, y0, y1, y2, r0, r1, r2, f0, f1, f2, sz'⟩ := E'
            go_wp2_with fail
            refine bodyPost_ret (v := fv 12 nil8 (some ⟨w4.heap.size, 0, none⟩) 2 2) (by simp [results, Tryz.results215, go_sem, r0, r1, r2]) rfl ?_
            exact RetX.at_ _ HT.out HB'.out (by omega) E.out.sz _ _ _

set_option maxRecDepth 100000 in
set_option maxHeartbeats 8000000 in
theorem unt13_c {X : Nat → Prop} (f g : Fm) (op : Int) (nm : ByteArray) (a : Option Addr) (n c : Nat) (op' : Int) (nm' : ByteArray) (a' : Option Addr) (n' c' : Nat) (w : World) (h : IsTX X w op nm a n c f) (h' : IsTX X w op' nm' a' n' c' g) (hA : ArOk op n) (hA' : ArOk op' n') :
    Calls Tryz.prog 215 #[.int .u8 13, fv op nm a n c, fv op' nm' a' n' c'] w (RetX X (unt 13 2 1 11 f g) w) := by
  have hfo : f.op = op := by obtain ⟨_, _, _, _, rfl, _⟩ := h.parts; rfl
  have hgo : g.op = op' := by obtain ⟨_, _, _, _, rfl, _⟩ := h'.parts; rfl
  have HF := Aside.mk h
  have HG := Aside.mk h'
  clear h h'
  have HB := Aside.mk (env2_below w op nm a n c op' nm' a' n' c' 25)
  have E := Aside.mk (env2_start w op nm a n c op' nm' a' n' c' 25)
  cases c0 : sureB op' with
  | true =>
    have hE : unt 13 2 1 11 f g = g := by simp [unt, hfo, hgo, c0]
    rw [hE]
    have HU0 := Aside.mk (fun W (_ : Below w.heap.size w W) => sure_c op' nm' a' n' c' W)
    simp only [c0] at HU0
    clear hE hfo hgo hA hA' c0
    go_enter Tryz.func215, Tryz.ntmps215
    go_wp2_with fail
    refine (HU0.out _ HB.out).mono ?_
    rintro e w3 ⟨rfl, hb⟩
    have E' := Aside.mk (E.out.keep hb)
    have HB' : Aside (Below w.heap.size w w3) := ⟨below_to HB.out hb⟩
    clear E HB hb HU0
    obtain ⟨x0, x1, x2, y0, y1, y2, r0, r1, r2, f0, f1, f2, sz⟩ := E'.out
    have E := E'
    have HB := HB'
    clear E' HB'
    go_wp2_with fail
    refine bodyPost_ret (v := fv op' nm' a' n' c') (by simp [results, Tryz.results215, go_sem, r0, r1, r2]) rfl ?_
    exact RetX.at_ (w.heap.size + 1 + 1 + 1) (old_at _ HG.out HB.out) HB.out (by omega) (by omega) _ _ _
  | false =>
    by_cases c1 : op = 2
    · -- test 1 True
      have t1 : (op == 2) = true := by simp [c1]
      have hE : unt 13 2 1 11 f g = g.sAlways 11 := by simp [unt, hfo, hgo, c0, c1]
      rw [hE]
      have HU0 := Aside.mk (fun W (_ : Below w.heap.size w W) => sure_c op' nm' a' n' c' W)
      simp only [c0] at HU0
      have HL := Aside.mk (fun W (hW : Below w.heap.size w W) => always_c 11 (by omega) g op' nm' a' n' c' W (HG.out.old.keep hW) (fun h => hA'.2.2.2.1 (by omega)))
      clear hE hfo hgo hA hA' c0 c1
      go_enter Tryz.func215, Tryz.ntmps215
      go_wp2_with fail
      refine (HU0.out _ HB.out).mono ?_
      rintro e w3 ⟨rfl, hb⟩
      have E' := Aside.mk (E.out.keep hb)
      have HB' : Aside (Below w.heap.size w w3) := ⟨below_to HB.out hb⟩
      clear E HB hb HU0
      obtain ⟨x0, x1, x2, y0, y1, y2, r0, r1, r2, f0, f1, f2, sz⟩ := E'.out
      have E := E'
      have HB := HB'
      clear E' HB'
      go_wp2_with fail
      refine (HL.out _ HB.out).mono ?_
      rintro e v2 ⟨o3, n3, a3, l3, d3, rfl, hT, hb⟩
      have E' := E.out.keep hb
      have HB' : Aside (Below w.heap.size w v2) := ⟨below_to HB.out hb⟩
      have HT := Aside.mk hT
      clear hT HL
      clear HB hb x0 x1 x2 y0 y1 y2 r0 r1 r2 f0 f1 f2
      obtain ⟨x0, x1, x2, y0, y1, y2, r0, r1, r2, f0, f1, f2, sz'⟩ := E'
      go_wp2_with fail
      refine bodyPost_ret (v := fv o3 n3 a3 l3 d3) (by simp [results, Tryz.results215, go_sem, r0, r1, r2]) rfl ?_
      exact RetX.at_ _ HT.out HB'.out (by omega) E.out.sz _ _ _
    · -- test 1 False
      have t1 : (op == 2) = false := by simp [c1]
      by_cases c2 : op = 1
      · -- test 2 True
        have t2 : (op == 1) = true := by simp [c2]
        have hE : unt 13 2 1 11 f g = g := by simp [unt, hfo, hgo, c0, c1, c2]
        rw [hE]
        have HU0 := Aside.mk (fun W (_ : Below w.heap.size w W) => sure_c op' nm' a' n' c' W)
        simp only [c0] at HU0
        clear hE hfo hgo hA hA' c0 c1 c2
        go_enter Tryz.func215, Tryz.ntmps215
        go_wp2_with fail
        refine (HU0.out _ HB.out).mono ?_
        rintro e w3 ⟨rfl, hb⟩
        have E' := Aside.mk (E.out.keep hb)
        have HB' : Aside (Below w.heap.size w w3) := ⟨below_to HB.out hb⟩
        clear E HB hb HU0
        obtain ⟨x0, x1, x2, y0, y1, y2, r0, r1, r2, f0, f1, f2, sz⟩ := E'.out
        have E := E'
        have HB := HB'
        clear E' HB'
        go_wp2_with fail
        refine bodyPost_ret (v := fv op' nm' a' n' c') (by simp [results, Tryz.results215, go_sem, r0, r1, r2]) rfl ?_
        exact RetX.at_ (w.heap.size + 1 + 1 + 1) (old_at _ HG.out HB.out) HB.out (by omega) (by omega) _ _ _
      · -- test 2 False
        have t2 : (op == 1) = false := by simp [c2]
        cases c3 : f.same g with
        | true =>
          have hE : unt 13 2 1 11 f g = f := by simp [unt, hfo, hgo, c0, c1, c2, c3]
          rw [hE]
          have HU0 := Aside.mk (fun W (_ : Below w.heap.size w W) => sure_c op' nm' a' n' c' W)
          simp only [c0] at HU0
          have HS3 := Aside.mk (fun W (hW : Below w.heap.size w W) => same_c f g op nm a n c op' nm' a' n' c' W (HF.out.keep hW).any (HG.out.keep hW).any)
          simp only [c3] at HS3
          clear hE hfo hgo hA hA' c0 c1 c2 c3
          go_enter Tryz.func215, Tryz.ntmps215
          go_wp2_with fail
          refine (HU0.out _ HB.out).mono ?_
          rintro e w3 ⟨rfl, hb⟩
          have E' := Aside.mk (E.out.keep hb)
          have HB' : Aside (Below w.heap.size w w3) := ⟨below_to HB.out hb⟩
          clear E HB hb HU0
          obtain ⟨x0, x1, x2, y0, y1, y2, r0, r1, r2, f0, f1, f2, sz⟩ := E'.out
          have E := E'
          have HB := HB'
          clear E' HB'
          go_wp2_with fail
          refine (HS3.out _ HB.out).mono ?_
          rintro e w4 ⟨rfl, hb⟩
          have E' := Aside.mk (E.out.keep hb)
          have HB' : Aside (Below w.heap.size w w4) := ⟨below_to HB.out hb⟩
          clear E HB hb HS3 x0 x1 x2 y0 y1 y2 r0 r1 r2 f0 f1 f2 sz
          obtain ⟨x0, x1, x2, y0, y1, y2, r0, r1, r2, f0, f1, f2, sz⟩ := E'.out
          have E := E'
          have HB := HB'
          clear E' HB'
          go_wp2_with fail
          refine bodyPost_ret (v := fv op nm a n c) (by simp [results, Tryz.results215, go_sem, r0, r1, r2]) rfl ?_
          exact RetX.at_ (w.heap.size + 1 + 1 + 1) (old_at _ HF.out HB.out) HB.out (by omega) (by omega) _ _ _
        | false =>
          by_cases c4 : op' = 11
          · -- test 4 True
            have t4 : (op' == 11) = true := by simp [c4]
            have hE : unt 13 2 1 11 f g = g := by simp [unt, hfo, hgo, c0, c1, c2, c3, c4]
            rw [hE]
            have HU0 := Aside.mk (fun W (_ : Below w.heap.size w W) => sure_c op' nm' a' n' c' W)
            simp only [c0] at HU0
            have HS3 := Aside.mk (fun W (hW : Below w.heap.size w W) => same_c f g op nm a n c op' nm' a' n' c' W (HF.out.keep hW).any (HG.out.keep hW).any)
            simp only [c3] at HS3
            clear hE hfo hgo hA hA' c0 c1 c2 c3 c4
            go_enter Tryz.func215, Tryz.ntmps215
            go_wp2_with fail
            refine (HU0.out _ HB.out).mono ?_
            rintro e w3 ⟨rfl, hb⟩
            have E' := Aside.mk (E.out.keep hb)
            have HB' : Aside (Below w.heap.size w w3) := ⟨below_to HB.out hb⟩
            clear E HB hb HU0
            obtain ⟨x0, x1, x2, y0, y1, y2, r0, r1, r2, f0, f1, f2, sz⟩ := E'.out
            have E := E'
            have HB := HB'
            clear E' HB'
            go_wp2_with fail
            refine (HS3.out _ HB.out).mono ?_
            rintro e w4 ⟨rfl, hb⟩
            have E' := Aside.mk (E.out.keep hb)
            have HB' : Aside (Below w.heap.size w w4) := ⟨below_to HB.out hb⟩
            clear E HB hb HS3 x0 x1 x2 y0 y1 y2 r0 r1 r2 f0 f1 f2 sz
            obtain ⟨x0, x1, x2, y0, y1, y2, r0, r1, r2, f0, f1, f2, sz⟩ := E'.out
            have E := E'
            have HB := HB'
            clear E' HB'
            go_wp2_with fail
            refine bodyPost_ret (v := fv op' nm' a' n' c') (by simp [results, Tryz.results215, go_sem, r0, r1, r2]) rfl ?_
            exact RetX.at_ (w.heap.size + 1 + 1 + 1) (old_at _ HG.out HB.out) HB.out (by omega) (by omega) _ _ _
          · -- test 4 False
            have t4 : (op' == 11) = false := by simp [c4]
            have hE : unt 13 2 1 11 f g = two 13 f g := by simp [unt, hfo, hgo, c0, c1, c2, c3, c4]
            rw [hE]
            have HU0 := Aside.mk (fun W (_ : Below w.heap.size w W) => sure_c op' nm' a' n' c' W)
            simp only [c0] at HU0
            have HS3 := Aside.mk (fun W (hW : Below w.heap.size w W) => same_c f g op nm a n c op' nm' a' n' c' W (HF.out.keep hW).any (HG.out.keep hW).any)
            simp only [c3] at HS3
            clear hE hfo hgo hA hA' c0 c1 c2 c3 c4
            go_enter Tryz.func215, Tryz.ntmps215
            go_wp2_with fail
            refine (HU0.out _ HB.out).mono ?_
            rintro e w3 ⟨rfl, hb⟩
            have E' := Aside.mk (E.out.keep hb)
            have HB' : Aside (Below w.heap.size w w3) := ⟨below_to HB.out hb⟩
            clear E HB hb HU0
            obtain ⟨x0, x1, x2, y0, y1, y2, r0, r1, r2, f0, f1, f2, sz⟩ := E'.out
            have E := E'
            have HB := HB'
            clear E' HB'
            go_wp2_with fail
            refine (HS3.out _ HB.out).mono ?_
            rintro e w4 ⟨rfl, hb⟩
            have E' := Aside.mk (E.out.keep hb)
            have HB' : Aside (Below w.heap.size w w4) := ⟨below_to HB.out hb⟩
            clear E HB hb HS3 x0 x1 x2 y0 y1 y2 r0 r1 r2 f0 f1 f2 sz
            obtain ⟨x0, x1, x2, y0, y1, y2, r0, r1, r2, f0, f1, f2, sz⟩ := E'.out
            have E := E'
            have HB := HB'
            clear E' HB'
            go_wp2_with fail
            refine (of_c _ _ _ _ _).mono ?_
            rintro e v2 ⟨rfl, hb⟩
            have E' := E.out.keep (below_to (below_alloc (Below.refl _ _) _) hb)
            have HB' : Aside (Below w.heap.size w v2) := ⟨below_to (below_alloc HB.out _) hb⟩
            have HT := Aside.mk (of2_after (q := 13) (by omega) (by omega) HB.out hb HF.out HG.out)
            clear HB hb x0 x1 x2 y0 y1 y2 r0 r1 r2 f0 f1 f2
            obtain ⟨x0, x1, x2, y0, y1, y2, r0, r1, r2, f0, f1, f2, sz'⟩ := E'
            go_wp2_with fail
            refine bodyPost_ret (v := fv 13 nil8 (some ⟨w4.heap.size, 0, none⟩) 2 2) (by simp [results, Tryz.results215, go_sem, r0, r1, r2]) rfl ?_
            exact RetX.at_ _ HT.out HB'.out (by omega) E.out.sz _ _ _

end Go.Proofs.YtmmakkaolknbaaaGreatDoor
