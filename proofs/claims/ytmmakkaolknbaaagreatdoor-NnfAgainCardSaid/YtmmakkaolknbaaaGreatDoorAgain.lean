/- Contract of augurlaw07.NnfAgain: it holds. Printed by gen_again.py. -/
import Derived.Test.YtmmakkaolknbaaaGreatDoorKnown
namespace Go.Proofs.YtmmakkaolknbaaaGreatDoor
set_option linter.unusedVariables false
set_option linter.unusedSimpArgs false
open Go.RowKit Go.Shelf

/-! The names, as a set. -/
mutual
theorem Fm.flat_nms : ∀ (f : Fm) (s : ByteArray), s ∈ f.nms ↔ ∃ x ∈ f.flat, x.1 = 3 ∧ x.2 = s
  | .mk o n ks, s => by
    simp only [Fm.nms, Fm.flat, List.mem_append, List.mem_cons, Fm.flatL_nms ks s]
    constructor
    · rintro (h | ⟨x, hx, h⟩)
      · by_cases e : o = 3
        · rw [if_pos e] at h
          exact ⟨(o, n), .inl rfl, e, (List.mem_singleton.1 h).symm⟩
        · rw [if_neg e] at h; cases h
      · exact ⟨x, .inr hx, h⟩
    · rintro ⟨x, rfl | hx, h1, h2⟩
      · left; simp only at h1 h2; rw [if_pos h1, h2]; simp
      · exact .inr ⟨x, hx, h1, h2⟩
theorem Fm.flatL_nms : ∀ (ks : List Fm) (s : ByteArray), s ∈ Fm.nmsL ks ↔ ∃ x ∈ Fm.flatL ks, x.1 = 3 ∧ x.2 = s
  | [], s => by simp [Fm.nmsL, Fm.flatL]
  | k :: ks, s => by
    simp only [Fm.nmsL, Fm.flatL, List.mem_append, Fm.flat_nms k s, Fm.flatL_nms ks s]
    constructor
    · rintro (⟨x, hx, h⟩ | ⟨x, hx, h⟩)
      · exact ⟨x, .inl hx, h⟩
      · exact ⟨x, .inr hx, h⟩
    · rintro ⟨x, hx | hx, h⟩
      · exact .inl ⟨x, hx, h⟩
      · exact .inr ⟨x, hx, h⟩
end
theorem nmStep_mem (L : List ByteArray) (x : Int × ByteArray) (s : ByteArray) : s ∈ nmStep L x ↔ s ∈ L ∨ (x.1 = 3 ∧ x.2 = s) := by
  unfold nmStep
  split
  · rename_i h
    simp only [List.mem_append, List.mem_singleton]
    exact ⟨fun e => e.imp id fun e => ⟨h.1, e.symm⟩, fun e => e.imp id fun e => e.2.symm⟩
  · rename_i h
    refine ⟨.inl, fun e => e.elim id fun e => ?_⟩
    by_cases hm : x.2 ∈ L
    · rw [← e.2]; exact hm
    · exact absurd ⟨e.1, hm⟩ h
theorem nmFold_mem (l : List (Int × ByteArray)) (s : ByteArray) : ∀ L, s ∈ l.foldl nmStep L ↔ s ∈ L ∨ ∃ x ∈ l, x.1 = 3 ∧ x.2 = s := by
  induction l with
  | nil => intro L; simp
  | cons y l ih =>
    intro L
    rw [List.foldl_cons, ih, nmStep_mem]
    constructor
    · rintro ((h | h) | ⟨x, hx, h⟩)
      · exact .inl h
      · exact .inr ⟨y, by simp, h⟩
      · exact .inr ⟨x, by simp [hx], h⟩
    · rintro (h | ⟨x, hx, h⟩)
      · exact .inl (.inl h)
      · rcases List.mem_cons.1 hx with rfl | hx
        · exact .inl (.inr h)
        · exact .inr ⟨x, hx, h⟩
theorem names_mem (f : Fm) (s : ByteArray) : s ∈ f.names ↔ s ∈ f.nms := by
  unfold Fm.names nmsOf
  rw [nmFold_mem, Fm.flat_nms]
  simp
theorem names_sub {f g : Fm} (h : ∀ s ∈ f.nms, s ∈ g.nms) : subB f.names g.names = true := subB_iff.2 fun s hs => (names_mem g s).2 (h s ((names_mem f s).1 hs))

/-- A box that holds a tree. -/
structure BoxT (B : Nat) (op : Int) (nm : ByteArray) (a : Option Addr) (n c : Nat) (t : Fm) (W : World) : Prop where
  c0 : W.cell? ⟨B, 0, none⟩ = some (.int .u8 op)
  c1 : W.cell? ⟨B, 1, none⟩ = some (.string nm)
  c2 : W.cell? ⟨B, 2, none⟩ = some (.slice a n c)
  lt : B < W.heap.size
  t : IsT W op nm a n c t
theorem BoxT.keep {B : Nat} {op : Int} {nm : ByteArray} {a : Option Addr} {n c : Nat} {t : Fm} {W W' : World} (h : BoxT B op nm a n c t W) (hb : Below W.heap.size W W') : BoxT B op nm a n c t W' :=
  ⟨cell_below hb h.c0, cell_below hb h.c1, cell_below hb h.c2, Nat.lt_of_lt_of_le h.lt hb.size, h.t.keep hb⟩
theorem BoxT.new {op : Int} {nm : ByteArray} {a : Option Addr} {n c : Nat} {t : Fm} {W : World} (h : IsT W op nm a n c t) : BoxT W.heap.size op nm a n c t (W.alloc (.cells #[.int .u8 op, .string nm, .slice a n c] 25)) :=
  ⟨by simp, by simp, by simp, by simp, h.keep ((Below.refl _ _).alloc (Nat.le_refl _) _)⟩
def strV (L : List ByteArray) (v : Value) (W : World) : Prop := ∃ a c, v = .slice a L.length c ∧ IsStr W a L.length L
theorem strV_stable (L : List ByteArray) : Stable (strV L) := by
  rintro v W W' ⟨a, c, e, h⟩ hb
  exact ⟨a, c, e, h.keep hb⟩

set_option maxRecDepth 100000 in
set_option maxHeartbeats 8000000 in
/-- Up to the first drawn region, where the tree is no formula. -/
theorem again_no (f : Fm) (op : Int) (nm : ByteArray) (a : Option Addr) (n c : Nat) (w : World) (hL : Laid w) (h : IsT w op nm a n c f) (hb : f.NmB) (hr : f.rightE futureB ≠ 0) :
    Calls Tryz.prog 3 #[fv op nm a n c] w fun e w' => e = .returned (.bool true) ∧ Below w.heap.size w w' := by
  have HL := Aside.mk hL
  have HW := Aside.mk (fun W (hW : Below w.heap.size w W) => Weight_c f op nm a n c W (h.keep hW) hb)
  have HS := Aside.mk (fun W (hW : Below w.heap.size w W) (hs : f.size ≤ 4611686018427387904) => Simple_no (X := AnyB) f op nm a n c W (hL.keep hW) (h.keep hW) hs hr)
  have HR := Aside.mk (fun W (hW : Below w.heap.size w W) (hs : f.size ≤ 4611686018427387904) => Right_c f op nm a n c W (hL.keep hW) (h.keep hW) hs)
  have hr' : (f.rightE futureB != 0) = true := by simpa using hr
  generalize f.rightE futureB = E at hr' HR
  clear hL h hb hr
  go_enter Tryz.func3, Tryz.ntmps3
  go_wp2_with fail
  refine (HW.out _ (by repeat (first | (with_reducible exact Below.refl _ _) | (with_reducible assumption) | refine below_alloc ?_ _ | refine Below.drew ?_ | refine below_drewN ?_ _))).mono ?_
  rintro e w1 ⟨⟨r, rfl, hr1, hr2, hr3⟩, hb1⟩
  have HB1 : Aside (Below w.heap.size w w1) := ⟨below_to (by repeat (first | (with_reducible exact Below.refl _ _) | (with_reducible assumption) | refine below_alloc ?_ _ | refine Below.drew ?_ | refine below_drewN ?_ _)) hb1⟩
  have x0 : w1.cell? ⟨w.heap.size, 0, none⟩ = some (.int .u8 op) := cell_below hb1 (by go_simp)
  have x1 : w1.cell? ⟨w.heap.size, 1, none⟩ = some (.string nm) := cell_below hb1 (by go_simp)
  have x2 : w1.cell? ⟨w.heap.size, 2, none⟩ = some (.slice a n c) := cell_below hb1 (by go_simp)
  have HR3 := Aside.mk hr3
  clear hb1 hr3
  by_cases hg : (100000 : Int) < r
  · go_wp2_with fail
    go_ret
    exact ⟨rfl, HB1.out⟩
  · have hsz : f.size ≤ 4611686018427387904 := by have := HR3.out (by omega); omega
    go_wp2_with fail
    refine (known_c _ (HL.out.keep HB1.out)).mono ?_
    rintro e w2 ⟨rfl, hb2⟩
    have HB2 : Aside (Below w.heap.size w w2) := ⟨below_to HB1.out hb2⟩
    have y0 := cell_below hb2 x0
    have y1 := cell_below hb2 x1
    have y2 := cell_below hb2 x2
    clear hb2 x0 x1 x2
    go_wp2_with fail
    refine (HS.out _ HB2.out hsz).mono ?_
    rintro e w3 ⟨o3, n3, a3, l3, d3, rfl, hT3, hb3⟩
    obtain ⟨rfl, rfl⟩ := hT3.head_
    obtain ⟨_, _, _, ks, ek, hS3⟩ := hT3.parts
    obtain rfl : ks = [] := by cases ek; rfl
    obtain rfl : l3 = 0 := hS3.1
    have HB3 : Aside (Below w.heap.size w w3) := ⟨below_to HB2.out hb3⟩
    have x0 := cell_below hb3 y0
    have x1 := cell_below hb3 y1
    have x2 := cell_below hb3 y2
    have hz : w.heap.size < w3.heap.size := World.block_lt_of_cell? w3 _ x0
    clear hb3 hT3 hS3 ek y0 y1 y2
    go_wp2_with fail
    refine (HR.out _ (below_alloc HB3.out _) hsz).mono ?_
    rintro e w4 ⟨rfl, hb4⟩
    have HB4 : Aside (Below w.heap.size w w4) := ⟨below_to (below_alloc HB3.out _) hb4⟩
    have z0 : w4.cell? ⟨w3.heap.size, 0, none⟩ = some (.int .u8 0) := cell_below hb4 (by go_simp)
    have z2 : w4.cell? ⟨w3.heap.size, 2, none⟩ = some (.slice a3 0 d3) := cell_below hb4 (by go_simp)
    clear hb4
    go_wp2_with fail
    go_ret
    exact ⟨rfl, HB4.out⟩

/-- A right tree in the form: its form is it. -/
theorem made_again {g : Fm} (hn : g.Nn) (hr : g.rightE futureB = 0) (hi : g.isN = true) : g.madeE false = 0 ∧ g.madeF false = g := by
  have hw := formed_wf g hn (rightE_ok hr).1
  have he := isN_nf g hw (rightE_ok hr).1 hi
  have h0 : g.madeE false = 0 := by
    rw [madeE_eq false g hn hr, he, if_neg (by have := rightE_ok hr; omega)]
  exact ⟨h0, by unfold Fm.madeF; rw [if_pos h0, he]⟩

set_option maxRecDepth 100000 in
set_option maxHeartbeats 16000000 in
/-- Where the tree is a formula. -/
theorem again_ok (f : Fm) (op : Int) (nm : ByteArray) (a : Option Addr) (n c : Nat) (w : World) (hL : Laid w) (h : IsT w op nm a n c f) (hb : f.NmB) (hr : f.rightE futureB = 0) :
    Calls Tryz.prog 3 #[fv op nm a n c] w fun e w' => e = .returned (.bool true) ∧ Below w.heap.size w w' := by
  have hnn := h.nn
  have hw := formed_wf f hnn (rightE_ok hr).1
  have hfs : f.size ≤ 1000 := (rightE_ok hr).2.1
  have hfd : f.depth ≤ 100 := (rightE_ok hr).2.2
  obtain ⟨S, hSe⟩ : ∃ S, f.simple = S := ⟨_, rfl⟩
  have hSb := simple_bd f hw
  have HSR : Aside (S.rightE futureB = 0) := ⟨by rw [← hSe]; exact simple_right f hnn hr⟩
  have HSS : Aside (S.simple = S) := ⟨by rw [← hSe]; exact simple_again f⟩
  have HWS : Aside S.Wf := ⟨by rw [← hSe]; exact wfSimple f hw⟩
  have HWF : Aside f.Wf := ⟨hw⟩
  have HNF0 : Aside f.Nn := ⟨hnn⟩
  have HFR : Aside (f.rightE futureB = 0) := ⟨hr⟩
  have HSF : Aside (subB S.names f.names = true) := ⟨by rw [← hSe]; exact names_sub (simple_nms f)⟩
  rw [hSe] at hSb
  have hS1 : S.size ≤ f.size := hSb.1
  have hS2 : S.depth ≤ f.depth := hSb.2
  have hn1 : decide (f.size < S.size) = false := decide_eq_false (by omega)
  have hn2 : decide (f.depth < S.depth) = false := decide_eq_false (by omega)
  have HL := Aside.mk hL
  have HWt := Aside.mk (fun W (hW : Below w.heap.size w W) => Weight_c f op nm a n c W (h.keep hW) hb)
  have HS1 := Aside.mk (fun W (hW : Below w.heap.size w W) => Simple_ok (X := AnyB) f op nm a n c W (hL.keep hW) (h.keep hW) hr)
  rw [hSe] at HS1
  have HF := Aside.mk h
  clear hL h hb hr hnn hw hSe hSb
  go_enter Tryz.func3, Tryz.ntmps3
  go_wp2_with fail
  refine (HWt.out _ (by repeat (first | (with_reducible exact Below.refl _ _) | (with_reducible assumption) | refine below_alloc ?_ _ | refine Below.drew ?_ | refine below_drewN ?_ _))).mono ?_
  rintro e w1 ⟨⟨r, rfl, hr1, hr2, hr3⟩, hb1⟩
  have HB1 : Aside (Below w.heap.size w w1) := ⟨below_to (by repeat (first | (with_reducible exact Below.refl _ _) | (with_reducible assumption) | refine below_alloc ?_ _ | refine Below.drew ?_ | refine below_drewN ?_ _)) hb1⟩
  have x0 : w1.cell? ⟨w.heap.size, 0, none⟩ = some (.int .u8 op) := cell_below hb1 (by go_simp)
  have x1 : w1.cell? ⟨w.heap.size, 1, none⟩ = some (.string nm) := cell_below hb1 (by go_simp)
  have x2 : w1.cell? ⟨w.heap.size, 2, none⟩ = some (.slice a n c) := cell_below hb1 (by go_simp)
  have hz1 : w.heap.size < w1.heap.size := World.block_lt_of_cell? w1 _ x0
  have BF1 := Aside.mk (BoxT.mk (t := f) x0 x1 x2 hz1 (HF.out.keep HB1.out))
  clear hb1 hr3 HWt hr2
  by_cases hg : (100000 : Int) < r
  · go_wp2_with fail
    go_ret
    exact ⟨rfl, HB1.out⟩
  go_wp2_with fail
  refine (known_c _ (HL.out.keep HB1.out)).mono ?_
  rintro e w2 ⟨rfl, hb2⟩
  have HB2 : Aside (Below w.heap.size w w2) := ⟨below_to HB1.out hb2⟩
  have BF2 := Aside.mk (BF1.out.keep hb2)
  clear hb2 x0 x1 x2 BF1 hz1 HB1
  have x0 := BF2.out.c0
  have x1 := BF2.out.c1
  have x2 := BF2.out.c2
  go_wp2_with fail
  refine (HS1.out _ HB2.out).mono ?_
  rintro e w3 ⟨o4, n4, a4, l4, d4, rfl, hT3, hb3⟩
  clear x0 x1 x2
  go_wp2_with fail
  have hbx : Below w3.heap.size w3 (w3.alloc (.cells #[.int .u8 o4, .string n4, .slice a4 l4 d4] 25)) := (Below.refl _ _).alloc (Nat.le_refl _) _
  have HB4 := Aside.mk (below_to HB2.out (below_to hb3 hbx))
  have BF4 := Aside.mk ((BF2.out.keep hb3).keep hbx)
  have BS4 := Aside.mk (BoxT.new hT3.any)
  clear hb3 hT3 BF2 HB2 HS1 hbx
  generalize hX : w3.alloc (.cells #[.int .u8 o4, .string n4, .slice a4 l4 d4] 25) = W4 at HB4 BF4 BS4 ⊢
  clear hX
  have HS2 := Aside.mk (Simple_ok (X := AnyB) S o4 n4 a4 l4 d4 W4 (HL.out.keep HB4.out) BS4.out.t HSR.out)
  rw [HSS.out] at HS2
  refine HS2.out.mono ?_
  rintro e w5 ⟨o6, n6, a6, l6, d6, rfl, hT5, hb5⟩
  go_wp2_with fail
  have hbx : Below w5.heap.size w5 (w5.alloc (.cells #[.int .u8 o6, .string n6, .slice a6 l6 d6] 25)) := (Below.refl _ _).alloc (Nat.le_refl _) _
  have HB := Aside.mk (below_to HB4.out (below_to hb5 hbx))
  have BF := (BF4.out.keep hb5).keep hbx
  have BS := (BS4.out.keep hb5).keep hbx
  have BT := BoxT.new hT5.any
  clear hb5 hT5 HS2 hbx BF4 BS4 HB4
  generalize hX : w5.alloc (.cells #[.int .u8 o6, .string n6, .slice a6 l6 d6] 25) = W6 at HB BF BS BT ⊢
  clear hX
  refine wp_region_mono 30 (by kernel_rfl) (by kernel_rfl) [fun v _ => v = .int .i64 0, fun v _ => v = .bool false, fun v _ => v = .bool false, fun v _ => v = fv o4 n4 a4 l4 d4, fun v _ => v = fv o6 n6 a6 l6 d6, fun v _ => v = .int .i64 0, fun v _ => v = .bool false, fun v _ => v = .bool false, fun v _ => v = .bool false, fun v _ => v = fv o4 n4 a4 l4 d4, fun v _ => v = .int .i64 (S.size : Int), fun v _ => v = fv op nm a n c, fun v _ => v = .int .i64 (f.size : Int), fun v _ => v = .bool false, fun v _ => v = .bool false, fun v _ => v = .bool false, fun v _ => v = fv o4 n4 a4 l4 d4, fun v _ => v = .int .i64 (S.depth : Int), fun v _ => v = fv op nm a n c, fun v _ => v = .int .i64 (f.depth : Int), fun v _ => v = .bool false, fun v _ => v = .bool false, fun v _ => v = .bool false, fun v _ => v = fv o4 n4 a4 l4 d4, strV S.names, fun v _ => v = fv op nm a n c, strV f.names, fun v _ => v = .bool true, fun v _ => v = .bool false, fun v _ => v = .bool false]
    ⟨stable_eq _, stable_eq _, stable_eq _, stable_eq _, stable_eq _, stable_eq _, stable_eq _, stable_eq _, stable_eq _, stable_eq _, stable_eq _, stable_eq _, stable_eq _, stable_eq _, stable_eq _, stable_eq _, stable_eq _, stable_eq _, stable_eq _, stable_eq _, stable_eq _, stable_eq _, stable_eq _, stable_eq _, strV_stable _, stable_eq _, strV_stable _, stable_eq _, stable_eq _, stable_eq _, trivial⟩ ?_ ?_
  · simp only [List.take_succ_cons, List.take_zero]
    refine steps_cons ?_ (steps_cons ?_ (steps_cons ?_ (steps_cons ?_ (steps_cons ?_ (steps_cons ?_ (steps_cons ?_ (steps_cons ?_ (steps_cons ?_ (steps_cons ?_ (steps_cons ?_ (steps_cons ?_ (steps_cons ?_ (steps_cons ?_ (steps_cons ?_ (steps_cons ?_ (steps_cons ?_ (steps_cons ?_ (steps_cons ?_ (steps_cons ?_ (steps_cons ?_ (steps_cons ?_ (steps_cons ?_ (steps_cons ?_ (steps_cons ?_ (steps_cons ?_ (steps_cons ?_ (steps_cons ?_ (steps_cons ?_ (steps_cons ?_ steps_nil)))))))))))))))))))))))))))))
    all_goals intro vals W hW hv; try simp only [Act.put, List.setIfInBounds_toArray, List.set_cons_zero, List.set_cons_succ]
    · clear hv
      go_wp2_with fail
      exact ⟨rfl, _, rfl, Below.refl _ _, rfl⟩
    · have e0 : vals 0 = _ := hv ⟨0, .data⟩ (by simp) rfl
      simp only [e0]
      clear hv
      go_wp2_with fail
      exact ⟨rfl, _, rfl, Below.refl _ _, rfl⟩
    · have e1 : vals 1 = _ := hv ⟨1, .data⟩ (by simp) rfl
      simp only [e1]
      clear hv
      go_wp2_with fail
      exact ⟨rfl, _, rfl, Below.refl _ _, rfl⟩
    · have e2 : vals 2 = _ := hv ⟨2, .guard⟩ (by simp) rfl
      simp only [e2]
      have bx := BS.keep hW
      have z0 := bx.c0
      have z1 := bx.c1
      have z2 := bx.c2
      clear hv bx
      go_wp2_with fail
      exact ⟨rfl, _, rfl, Below.refl _ _, rfl⟩
    · have e2 : vals 2 = _ := hv ⟨2, .guard⟩ (by simp) rfl
      simp only [e2]
      have bx := BT.keep hW
      have z0 := bx.c0
      have z1 := bx.c1
      have z2 := bx.c2
      clear hv bx
      go_wp2_with fail
      exact ⟨rfl, _, rfl, Below.refl _ _, rfl⟩
    · have e3 : vals 3 = _ := hv ⟨3, .data⟩ (by simp) rfl
      have e4 : vals 4 = _ := hv ⟨4, .data⟩ (by simp) rfl
      have e2 : vals 2 = _ := hv ⟨2, .guard⟩ (by simp) rfl
      simp only [e3, e4, e2]
      have HC := Aside.mk (cmp_c S _ _ _ _ _ _ _ _ _ _ S W (BS.keep hW).t (BT.keep hW).t)
      rw [Fm.cmp_self] at HC
      clear hv
      go_wp2_with fail
      refine HC.out.mono ?_
      rintro e w' ⟨rfl, hb⟩
      go_wp2_with fail
      exact ⟨rfl, _, rfl, hb, rfl⟩
    · have e5 : vals 5 = _ := hv ⟨5, .data⟩ (by simp) rfl
      have e2 : vals 2 = _ := hv ⟨2, .guard⟩ (by simp) rfl
      simp only [e5, e2]
      clear hv
      go_wp2_with fail
      exact ⟨rfl, _, rfl, Below.refl _ _, rfl⟩
    · have e2 : vals 2 = _ := hv ⟨2, .data⟩ (by simp) rfl
      have e6 : vals 6 = _ := hv ⟨6, .data⟩ (by simp) rfl
      simp only [e2, e6]
      clear hv
      go_wp2_with fail
      exact ⟨rfl, _, rfl, Below.refl _ _, rfl⟩
    · have e7 : vals 7 = _ := hv ⟨7, .data⟩ (by simp) rfl
      simp only [e7]
      clear hv
      go_wp2_with fail
      exact ⟨rfl, _, rfl, Below.refl _ _, rfl⟩
    · have e8 : vals 8 = _ := hv ⟨8, .guard⟩ (by simp) rfl
      simp only [e8]
      have bx := BS.keep hW
      have z0 := bx.c0
      have z1 := bx.c1
      have z2 := bx.c2
      clear hv bx
      go_wp2_with fail
      exact ⟨rfl, _, rfl, Below.refl _ _, rfl⟩
    · have e9 : vals 9 = _ := hv ⟨9, .data⟩ (by simp) rfl
      have e8 : vals 8 = _ := hv ⟨8, .guard⟩ (by simp) rfl
      simp only [e9, e8]
      have HC := Aside.mk (size_c S _ _ _ _ _ W (BS.keep hW).t (by omega))
      clear hv
      go_wp2_with fail
      refine HC.out.mono ?_
      rintro e w' ⟨rfl, hb⟩
      go_wp2_with fail
      exact ⟨rfl, _, rfl, hb, rfl⟩
    · have e8 : vals 8 = _ := hv ⟨8, .guard⟩ (by simp) rfl
      simp only [e8]
      have bx := BF.keep hW
      have z0 := bx.c0
      have z1 := bx.c1
      have z2 := bx.c2
      clear hv bx
      go_wp2_with fail
      exact ⟨rfl, _, rfl, Below.refl _ _, rfl⟩
    · have e11 : vals 11 = _ := hv ⟨11, .data⟩ (by simp) rfl
      have e8 : vals 8 = _ := hv ⟨8, .guard⟩ (by simp) rfl
      simp only [e11, e8]
      have HC := Aside.mk (size_c f _ _ _ _ _ W (BF.keep hW).t (by omega))
      clear hv
      go_wp2_with fail
      refine HC.out.mono ?_
      rintro e w' ⟨rfl, hb⟩
      go_wp2_with fail
      exact ⟨rfl, _, rfl, hb, rfl⟩
    · have e10 : vals 10 = _ := hv ⟨10, .data⟩ (by simp) rfl
      have e12 : vals 12 = _ := hv ⟨12, .data⟩ (by simp) rfl
      have e8 : vals 8 = _ := hv ⟨8, .guard⟩ (by simp) rfl
      simp only [e10, e12, e8]
      clear hv
      go_wp2_with fail
      exact ⟨rfl, _, rfl, Below.refl _ _, rfl⟩
    · have e8 : vals 8 = _ := hv ⟨8, .data⟩ (by simp) rfl
      have e13 : vals 13 = _ := hv ⟨13, .data⟩ (by simp) rfl
      simp only [e8, e13]
      clear hv
      go_wp2_with fail
      exact ⟨rfl, _, rfl, Below.refl _ _, rfl⟩
    · have e14 : vals 14 = _ := hv ⟨14, .data⟩ (by simp) rfl
      simp only [e14]
      clear hv
      go_wp2_with fail
      exact ⟨rfl, _, rfl, Below.refl _ _, rfl⟩
    · have e15 : vals 15 = _ := hv ⟨15, .guard⟩ (by simp) rfl
      simp only [e15]
      have bx := BS.keep hW
      have z0 := bx.c0
      have z1 := bx.c1
      have z2 := bx.c2
      clear hv bx
      go_wp2_with fail
      exact ⟨rfl, _, rfl, Below.refl _ _, rfl⟩
    · have e16 : vals 16 = _ := hv ⟨16, .data⟩ (by simp) rfl
      have e15 : vals 15 = _ := hv ⟨15, .guard⟩ (by simp) rfl
      simp only [e16, e15]
      have HC := Aside.mk (depth_c S _ _ _ _ _ W (BS.keep hW).t (by omega))
      clear hv
      go_wp2_with fail
      refine HC.out.mono ?_
      rintro e w' ⟨rfl, hb⟩
      go_wp2_with fail
      exact ⟨rfl, _, rfl, hb, rfl⟩
    · have e15 : vals 15 = _ := hv ⟨15, .guard⟩ (by simp) rfl
      simp only [e15]
      have bx := BF.keep hW
      have z0 := bx.c0
      have z1 := bx.c1
      have z2 := bx.c2
      clear hv bx
      go_wp2_with fail
      exact ⟨rfl, _, rfl, Below.refl _ _, rfl⟩
    · have e18 : vals 18 = _ := hv ⟨18, .data⟩ (by simp) rfl
      have e15 : vals 15 = _ := hv ⟨15, .guard⟩ (by simp) rfl
      simp only [e18, e15]
      have HC := Aside.mk (depth_c f _ _ _ _ _ W (BF.keep hW).t (by omega))
      clear hv
      go_wp2_with fail
      refine HC.out.mono ?_
      rintro e w' ⟨rfl, hb⟩
      go_wp2_with fail
      exact ⟨rfl, _, rfl, hb, rfl⟩
    · have e17 : vals 17 = _ := hv ⟨17, .data⟩ (by simp) rfl
      have e19 : vals 19 = _ := hv ⟨19, .data⟩ (by simp) rfl
      have e15 : vals 15 = _ := hv ⟨15, .guard⟩ (by simp) rfl
      simp only [e17, e19, e15]
      clear hv
      go_wp2_with fail
      exact ⟨rfl, _, rfl, Below.refl _ _, rfl⟩
    · have e15 : vals 15 = _ := hv ⟨15, .data⟩ (by simp) rfl
      have e20 : vals 20 = _ := hv ⟨20, .data⟩ (by simp) rfl
      simp only [e15, e20]
      clear hv
      go_wp2_with fail
      exact ⟨rfl, _, rfl, Below.refl _ _, rfl⟩
    · have e21 : vals 21 = _ := hv ⟨21, .data⟩ (by simp) rfl
      simp only [e21]
      clear hv
      go_wp2_with fail
      exact ⟨rfl, _, rfl, Below.refl _ _, rfl⟩
    · have e22 : vals 22 = _ := hv ⟨22, .guard⟩ (by simp) rfl
      simp only [e22]
      have bx := BS.keep hW
      have z0 := bx.c0
      have z1 := bx.c1
      have z2 := bx.c2
      clear hv bx
      go_wp2_with fail
      exact ⟨rfl, _, rfl, Below.refl _ _, rfl⟩
    · have e23 : vals 23 = _ := hv ⟨23, .data⟩ (by simp) rfl
      have e22 : vals 22 = _ := hv ⟨22, .guard⟩ (by simp) rfl
      simp only [e23, e22]
      have HC := Aside.mk (names_c S _ _ _ _ _ W (BS.keep hW).t HWS.out (by omega) (by omega))
      clear hv
      go_wp2_with fail
      refine HC.out.mono ?_
      rintro e w' ⟨a', c', rfl, hS, hb⟩
      have HS := Aside.mk hS
      clear hS
      go_wp2_with fail
      exact ⟨rfl, _, rfl, hb, a', c', rfl, HS.out⟩
    · have e22 : vals 22 = _ := hv ⟨22, .guard⟩ (by simp) rfl
      simp only [e22]
      have bx := BF.keep hW
      have z0 := bx.c0
      have z1 := bx.c1
      have z2 := bx.c2
      clear hv bx
      go_wp2_with fail
      exact ⟨rfl, _, rfl, Below.refl _ _, rfl⟩
    · have e25 : vals 25 = _ := hv ⟨25, .data⟩ (by simp) rfl
      have e22 : vals 22 = _ := hv ⟨22, .guard⟩ (by simp) rfl
      simp only [e25, e22]
      have HC := Aside.mk (names_c f _ _ _ _ _ W (BF.keep hW).t HWF.out (by omega) (by omega))
      clear hv
      go_wp2_with fail
      refine HC.out.mono ?_
      rintro e w' ⟨a', c', rfl, hS, hb⟩
      have HS := Aside.mk hS
      clear hS
      go_wp2_with fail
      exact ⟨rfl, _, rfl, hb, a', c', rfl, HS.out⟩
    · obtain ⟨a24, c24, e24, s24⟩ := hv ⟨24, .data⟩ (by simp) rfl
      obtain ⟨a26, c26, e26, s26⟩ := hv ⟨26, .data⟩ (by simp) rfl
      have e22 : vals 22 = _ := hv ⟨22, .guard⟩ (by simp) rfl
      simp only [e24, e26, e22]
      have HC := Aside.mk (among_s S.names f.names a24 _ c24 a26 _ c26 W s24 s26)
      rw [HSF.out] at HC
      clear hv s24 s26
      go_wp2_with fail
      refine HC.out.mono ?_
      rintro e w' ⟨rfl, hb⟩
      go_wp2_with fail
      exact ⟨rfl, _, rfl, hb, rfl⟩
    · have e27 : vals 27 = _ := hv ⟨27, .data⟩ (by simp) rfl
      have e22 : vals 22 = _ := hv ⟨22, .guard⟩ (by simp) rfl
      simp only [e27, e22]
      clear hv
      go_wp2_with fail
      exact ⟨rfl, _, rfl, Below.refl _ _, rfl⟩
    · have e22 : vals 22 = _ := hv ⟨22, .data⟩ (by simp) rfl
      have e28 : vals 28 = _ := hv ⟨28, .data⟩ (by simp) rfl
      simp only [e22, e28]
      clear hv
      go_wp2_with fail
      exact ⟨rfl, _, rfl, Below.refl _ _, rfl⟩
  · intro vals W hW hv
    have eL : vals 29 = _ := hv 29 (by omega)
    simp only [List.take_succ_cons, List.take_zero, List.drop_succ_cons, List.drop_zero, lexL, Act.put, List.setIfInBounds_toArray, List.set_cons_zero, List.set_cons_succ, Nat.zero_add, Nat.reduceAdd, eL]
    clear hv
    have HB7 : Aside (Below w.heap.size w W) := ⟨below_to HB.out hW⟩
    have BF7 := Aside.mk (BF.keep hW)
    clear hW BF BS BT HB hn1 hn2 HSR HSS HWS HSF hS1 hS2
    have HN1 := Aside.mk (Normal_ok (X := AnyB) f op nm a n c W (HL.out.keep HB7.out) BF7.out.t HFR.out)
    have BF7_c0 := BF7.out.c0
    have BF7_c1 := BF7.out.c1
    have BF7_c2 := BF7.out.c2
    have BF7_lt := BF7.out.lt
    go_wp2_with fail
    refine HN1.out.mono ?_
    rintro e w8 ⟨o8, n8, a8, l8, d8, rfl, hT8, hb8⟩
    clear BF7_c0 BF7_c1 BF7_c2 BF7_lt
    have BFw := Aside.mk (BF7.out.keep hb8)
    have BFw_c0 := BFw.out.c0
    have BFw_c1 := BFw.out.c1
    have BFw_c2 := BFw.out.c2
    have BFw_lt := BFw.out.lt
    go_wp2_with fail
    clear BFw_c0 BFw_c1 BFw_c2 BFw_lt
    have hbx : Below w8.heap.size w8 (w8.alloc (.cells #[.int .u8 o8, .string n8, .slice a8 l8 d8] 25)) := (Below.refl _ _).alloc (Nat.le_refl _) _
    have HB8 := Aside.mk (below_to HB7.out (below_to hb8 hbx))
    have BF8 := Aside.mk ((BF7.out.keep hb8).keep hbx)
    have BN8 := Aside.mk (BoxT.new hT8.any)
    clear hb8 hT8 HN1 hbx BF7 HB7 BFw
    generalize hX : w8.alloc (.cells #[.int .u8 o8, .string n8, .slice a8 l8 d8] 25) = W8 at HB8 BF8 BN8 ⊢
    clear hX
    have HD1 := Aside.mk (Dual_ok (X := AnyB) f op nm a n c W8 (HL.out.keep HB8.out) BF8.out.t HFR.out)
    refine HD1.out.mono ?_
    rintro e w9 ⟨o10, n10, a10, l10, d10, rfl, hT9, hb9⟩
    have BNw := Aside.mk (BN8.out.keep hb9)
    rcases madeE_or false f HNF0.out HFR.out with hE1 | hE1
    · -- Normal has answered
      have HNR0 := Aside.mk (made_right false f HNF0.out HFR.out hE1)
      have HMF : Aside (f.madeF false = f.nf false) := ⟨by unfold Fm.madeF; rw [if_pos hE1]⟩
      have HFN := Aside.mk (names_sub (nms_nf f HWF.out false))
      have HNF := Aside.mk (names_sub (nf_nms_sub f HWF.out false))
      have HIN := Aside.mk (nf_isN f HWF.out false)
      have HNN := Aside.mk (nf_nn f HNF0.out HWF.out false)
      have HIF := Aside.mk (isN_iff f HNF0.out (rightE_ok HFR.out).1)
      have HTU := Aside.mk (fun (hi : f.iffs = false) => nf_turn f HWF.out (rightE_ok HFR.out).1 hi true)
      rw [Bool.not_true] at HTU
      rw [hE1]
      have BNw_c0 := BNw.out.c0
      have BNw_c1 := BNw.out.c1
      have BNw_c2 := BNw.out.c2
      have BNw_lt := BNw.out.lt
      go_wp2_with fail
      clear BNw_c0 BNw_c1 BNw_c2 BNw_lt
      have hbx : Below w9.heap.size w9 (w9.alloc (.cells #[.int .u8 o10, .string n10, .slice a10 l10 d10] 25)) := (Below.refl _ _).alloc (Nat.le_refl _) _
      have HB9 := Aside.mk (below_to HB8.out (below_to hb9 hbx))
      have BF9 := Aside.mk ((BF8.out.keep hb9).keep hbx)
      have BN9 := Aside.mk ((BN8.out.keep hb9).keep hbx)
      have BD9 := Aside.mk (BoxT.new hT9.any)
      clear hb9 hT9 HD1 hbx BF8 BN8 HB8 BNw
      generalize hX : w9.alloc (.cells #[.int .u8 o10, .string n10, .slice a10 l10 d10] 25) = W9 at HB9 BF9 BN9 BD9 ⊢
      clear hX
      rw [HMF.out] at BN9
      clear hE1 HMF
      generalize f.nf false = N at HNR0 HFN HNF HIN HNN HIF BN9 HTU
      have hN1 : N.size ≤ 1000 := (rightE_ok HNR0.out).2.1
      have hN2 : N.depth ≤ 100 := (rightE_ok HNR0.out).2.2
      have HWN := Aside.mk (formed_wf N HNN.out (rightE_ok HNR0.out).1)
      have HNR : Aside (N.isR = true) := ⟨by unfold Fm.isR; rw [HNR0.out, HIN.out]; rfl⟩
      have HMA := Aside.mk (made_again HNN.out HNR0.out HIN.out)
      obtain ⟨bI, hbI⟩ : ∃ b, f.isR = b := ⟨_, rfl⟩
      obtain ⟨cv, hcv⟩ : ∃ b, f.cmp N = b := ⟨_, rfl⟩
      have hcb : (cv == 0) = bI := by
        have h1 := HIF.out
        rw [hcv] at h1
        rw [← hbI]
        unfold Fm.isR
        rw [HFR.out, h1]
        simp [BEq.beq]
      have HBI := Aside.mk (And.intro hbI hcv)
      have HN2 := Aside.mk (Normal_ok (X := AnyB) N o8 n8 a8 l8 d8 W9 (HL.out.keep HB9.out) BN9.out.t HNR0.out)
      rw [HMA.out.1, HMA.out.2] at HN2
      clear hbI hcv HIF
      refine HN2.out.mono ?_
      rintro e w11 ⟨o12, n12, a12, l12, d12, rfl, hT11, hb11⟩
      go_wp2_with fail
      have hbx : Below w11.heap.size w11 (w11.alloc (.cells #[.int .u8 o12, .string n12, .slice a12 l12 d12] 25)) := (Below.refl _ _).alloc (Nat.le_refl _) _
      have HB := Aside.mk (below_to HB9.out (below_to hb11 hbx))
      have BF := (BF9.out.keep hb11).keep hbx
      have BN := (BN9.out.keep hb11).keep hbx
      have BD := Aside.mk ((BD9.out.keep hb11).keep hbx)
      have BM := BoxT.new hT11.any
      clear hb11 hT11 HN2 hbx BF9 BN9 BD9 HB9
      generalize hX : w11.alloc (.cells #[.int .u8 o12, .string n12, .slice a12 l12 d12] 25) = W12 at HB BF BN BD BM ⊢
      clear hX
      refine wp_region_mono 38 (by kernel_rfl) (by kernel_rfl) [fun v _ => v = .int .i64 0, fun v _ => v = .bool false, fun v _ => v = .bool false, fun v _ => v = fv o12 n12 a12 l12 d12, fun v _ => v = fv o8 n8 a8 l8 d8, fun v _ => v = .int .i64 0, fun v _ => v = .bool false, fun v _ => v = .bool false, fun v _ => v = .bool false, fun v _ => v = fv o8 n8 a8 l8 d8, fun v _ => v = .bool true, fun v _ => v = .bool false, fun v _ => v = .bool false, fun v _ => v = .bool false, fun v _ => v = fv op nm a n c, strV f.names, fun v _ => v = fv o8 n8 a8 l8 d8, strV N.names, fun v _ => v = .bool true, fun v _ => v = .bool false, fun v _ => v = .bool false, fun v _ => v = .bool false, fun v _ => v = fv o8 n8 a8 l8 d8, strV N.names, fun v _ => v = fv op nm a n c, strV f.names, fun v _ => v = .bool true, fun v _ => v = .bool false, fun v _ => v = .bool false, fun v _ => v = .bool false, fun v _ => v = fv op nm a n c, fun v _ => v = .bool bI, fun v _ => v = fv op nm a n c, fun v _ => v = fv o8 n8 a8 l8 d8, fun v _ => v = .int .i64 cv, fun v _ => v = .bool bI, fun v _ => v = .bool false, fun v _ => v = .bool false]
        ⟨stable_eq _, stable_eq _, stable_eq _, stable_eq _, stable_eq _, stable_eq _, stable_eq _, stable_eq _, stable_eq _, stable_eq _, stable_eq _, stable_eq _, stable_eq _, stable_eq _, stable_eq _, strV_stable _, stable_eq _, strV_stable _, stable_eq _, stable_eq _, stable_eq _, stable_eq _, stable_eq _, strV_stable _, stable_eq _, strV_stable _, stable_eq _, stable_eq _, stable_eq _, stable_eq _, stable_eq _, stable_eq _, stable_eq _, stable_eq _, stable_eq _, stable_eq _, stable_eq _, stable_eq _, trivial⟩ ?_ ?_
      · simp only [List.take_succ_cons, List.take_zero]
        refine steps_cons ?_ (steps_cons ?_ (steps_cons ?_ (steps_cons ?_ (steps_cons ?_ (steps_cons ?_ (steps_cons ?_ (steps_cons ?_ (steps_cons ?_ (steps_cons ?_ (steps_cons ?_ (steps_cons ?_ (steps_cons ?_ (steps_cons ?_ (steps_cons ?_ (steps_cons ?_ (steps_cons ?_ (steps_cons ?_ (steps_cons ?_ (steps_cons ?_ (steps_cons ?_ (steps_cons ?_ (steps_cons ?_ (steps_cons ?_ (steps_cons ?_ (steps_cons ?_ (steps_cons ?_ (steps_cons ?_ (steps_cons ?_ (steps_cons ?_ (steps_cons ?_ (steps_cons ?_ (steps_cons ?_ (steps_cons ?_ (steps_cons ?_ (steps_cons ?_ (steps_cons ?_ (steps_cons ?_ steps_nil)))))))))))))))))))))))))))))))))))))
        all_goals intro vals W hW hv; try simp only [Act.put, List.setIfInBounds_toArray, List.set_cons_zero, List.set_cons_succ]
        · clear hv
          go_wp2_with fail
          exact ⟨rfl, _, rfl, Below.refl _ _, rfl⟩
        · have e0 : vals 0 = _ := hv ⟨0, .data⟩ (by simp) rfl
          simp only [e0]
          clear hv
          go_wp2_with fail
          exact ⟨rfl, _, rfl, Below.refl _ _, rfl⟩
        · have e1 : vals 1 = _ := hv ⟨1, .data⟩ (by simp) rfl
          simp only [e1]
          clear hv
          go_wp2_with fail
          exact ⟨rfl, _, rfl, Below.refl _ _, rfl⟩
        · have e2 : vals 2 = _ := hv ⟨2, .guard⟩ (by simp) rfl
          simp only [e2]
          have bx := BM.keep hW
          have z0 := bx.c0
          have z1 := bx.c1
          have z2 := bx.c2
          clear hv bx
          go_wp2_with fail
          exact ⟨rfl, _, rfl, Below.refl _ _, rfl⟩
        · have e2 : vals 2 = _ := hv ⟨2, .guard⟩ (by simp) rfl
          simp only [e2]
          have bx := BN.keep hW
          have z0 := bx.c0
          have z1 := bx.c1
          have z2 := bx.c2
          clear hv bx
          go_wp2_with fail
          exact ⟨rfl, _, rfl, Below.refl _ _, rfl⟩
        · have e3 : vals 3 = _ := hv ⟨3, .data⟩ (by simp) rfl
          have e4 : vals 4 = _ := hv ⟨4, .data⟩ (by simp) rfl
          have e2 : vals 2 = _ := hv ⟨2, .guard⟩ (by simp) rfl
          simp only [e3, e4, e2]
          have HC := Aside.mk (cmp_c N _ _ _ _ _ _ _ _ _ _ N W (BM.keep hW).t (BN.keep hW).t)
          rw [Fm.cmp_self] at HC
          clear hv
          go_wp2_with fail
          refine HC.out.mono ?_
          rintro e w' ⟨rfl, hb⟩
          go_wp2_with fail
          exact ⟨rfl, _, rfl, hb, rfl⟩
        · have e5 : vals 5 = _ := hv ⟨5, .data⟩ (by simp) rfl
          have e2 : vals 2 = _ := hv ⟨2, .guard⟩ (by simp) rfl
          simp only [e5, e2]
          clear hv
          go_wp2_with fail
          exact ⟨rfl, _, rfl, Below.refl _ _, rfl⟩
        · have e2 : vals 2 = _ := hv ⟨2, .data⟩ (by simp) rfl
          have e6 : vals 6 = _ := hv ⟨6, .data⟩ (by simp) rfl
          simp only [e2, e6]
          clear hv
          go_wp2_with fail
          exact ⟨rfl, _, rfl, Below.refl _ _, rfl⟩
        · have e7 : vals 7 = _ := hv ⟨7, .data⟩ (by simp) rfl
          simp only [e7]
          clear hv
          go_wp2_with fail
          exact ⟨rfl, _, rfl, Below.refl _ _, rfl⟩
        · have e8 : vals 8 = _ := hv ⟨8, .guard⟩ (by simp) rfl
          simp only [e8]
          have bx := BN.keep hW
          have z0 := bx.c0
          have z1 := bx.c1
          have z2 := bx.c2
          clear hv bx
          go_wp2_with fail
          exact ⟨rfl, _, rfl, Below.refl _ _, rfl⟩
        · have e9 : vals 9 = _ := hv ⟨9, .data⟩ (by simp) rfl
          have e8 : vals 8 = _ := hv ⟨8, .guard⟩ (by simp) rfl
          simp only [e9, e8]
          have HC := Aside.mk (Is_c N _ _ _ _ _ W (HL.out.keep (below_to HB.out hW)) (BN.keep hW).t (by omega))
          rw [HNR.out] at HC
          clear hv
          go_wp2_with fail
          refine HC.out.mono ?_
          rintro e w' ⟨rfl, hb⟩
          go_wp2_with fail
          exact ⟨rfl, _, rfl, hb, rfl⟩
        · have e10 : vals 10 = _ := hv ⟨10, .data⟩ (by simp) rfl
          have e8 : vals 8 = _ := hv ⟨8, .guard⟩ (by simp) rfl
          simp only [e10, e8]
          clear hv
          go_wp2_with fail
          exact ⟨rfl, _, rfl, Below.refl _ _, rfl⟩
        · have e8 : vals 8 = _ := hv ⟨8, .data⟩ (by simp) rfl
          have e11 : vals 11 = _ := hv ⟨11, .data⟩ (by simp) rfl
          simp only [e8, e11]
          clear hv
          go_wp2_with fail
          exact ⟨rfl, _, rfl, Below.refl _ _, rfl⟩
        · have e12 : vals 12 = _ := hv ⟨12, .data⟩ (by simp) rfl
          simp only [e12]
          clear hv
          go_wp2_with fail
          exact ⟨rfl, _, rfl, Below.refl _ _, rfl⟩
        · have e13 : vals 13 = _ := hv ⟨13, .guard⟩ (by simp) rfl
          simp only [e13]
          have bx := BF.keep hW
          have z0 := bx.c0
          have z1 := bx.c1
          have z2 := bx.c2
          clear hv bx
          go_wp2_with fail
          exact ⟨rfl, _, rfl, Below.refl _ _, rfl⟩
        · have e14 : vals 14 = _ := hv ⟨14, .data⟩ (by simp) rfl
          have e13 : vals 13 = _ := hv ⟨13, .guard⟩ (by simp) rfl
          simp only [e14, e13]
          have HC := Aside.mk (names_c f _ _ _ _ _ W (BF.keep hW).t HWF.out (by omega) (by omega))
          clear hv
          go_wp2_with fail
          refine HC.out.mono ?_
          rintro e w' ⟨a', c', rfl, hS, hb⟩
          have HS := Aside.mk hS
          clear hS
          go_wp2_with fail
          exact ⟨rfl, _, rfl, hb, a', c', rfl, HS.out⟩
        · have e13 : vals 13 = _ := hv ⟨13, .guard⟩ (by simp) rfl
          simp only [e13]
          have bx := BN.keep hW
          have z0 := bx.c0
          have z1 := bx.c1
          have z2 := bx.c2
          clear hv bx
          go_wp2_with fail
          exact ⟨rfl, _, rfl, Below.refl _ _, rfl⟩
        · have e16 : vals 16 = _ := hv ⟨16, .data⟩ (by simp) rfl
          have e13 : vals 13 = _ := hv ⟨13, .guard⟩ (by simp) rfl
          simp only [e16, e13]
          have HC := Aside.mk (names_c N _ _ _ _ _ W (BN.keep hW).t HWN.out (by omega) (by omega))
          clear hv
          go_wp2_with fail
          refine HC.out.mono ?_
          rintro e w' ⟨a', c', rfl, hS, hb⟩
          have HS := Aside.mk hS
          clear hS
          go_wp2_with fail
          exact ⟨rfl, _, rfl, hb, a', c', rfl, HS.out⟩
        · obtain ⟨a15, c15, e15, s15⟩ := hv ⟨15, .data⟩ (by simp) rfl
          obtain ⟨a17, c17, e17, s17⟩ := hv ⟨17, .data⟩ (by simp) rfl
          have e13 : vals 13 = _ := hv ⟨13, .guard⟩ (by simp) rfl
          simp only [e15, e17, e13]
          have HC := Aside.mk (among_s f.names N.names a15 _ c15 a17 _ c17 W s15 s17)
          rw [HFN.out] at HC
          clear hv s15 s17
          go_wp2_with fail
          refine HC.out.mono ?_
          rintro e w' ⟨rfl, hb⟩
          go_wp2_with fail
          exact ⟨rfl, _, rfl, hb, rfl⟩
        · have e18 : vals 18 = _ := hv ⟨18, .data⟩ (by simp) rfl
          have e13 : vals 13 = _ := hv ⟨13, .guard⟩ (by simp) rfl
          simp only [e18, e13]
          clear hv
          go_wp2_with fail
          exact ⟨rfl, _, rfl, Below.refl _ _, rfl⟩
        · have e13 : vals 13 = _ := hv ⟨13, .data⟩ (by simp) rfl
          have e19 : vals 19 = _ := hv ⟨19, .data⟩ (by simp) rfl
          simp only [e13, e19]
          clear hv
          go_wp2_with fail
          exact ⟨rfl, _, rfl, Below.refl _ _, rfl⟩
        · have e20 : vals 20 = _ := hv ⟨20, .data⟩ (by simp) rfl
          simp only [e20]
          clear hv
          go_wp2_with fail
          exact ⟨rfl, _, rfl, Below.refl _ _, rfl⟩
        · have e21 : vals 21 = _ := hv ⟨21, .guard⟩ (by simp) rfl
          simp only [e21]
          have bx := BN.keep hW
          have z0 := bx.c0
          have z1 := bx.c1
          have z2 := bx.c2
          clear hv bx
          go_wp2_with fail
          exact ⟨rfl, _, rfl, Below.refl _ _, rfl⟩
        · have e22 : vals 22 = _ := hv ⟨22, .data⟩ (by simp) rfl
          have e21 : vals 21 = _ := hv ⟨21, .guard⟩ (by simp) rfl
          simp only [e22, e21]
          have HC := Aside.mk (names_c N _ _ _ _ _ W (BN.keep hW).t HWN.out (by omega) (by omega))
          clear hv
          go_wp2_with fail
          refine HC.out.mono ?_
          rintro e w' ⟨a', c', rfl, hS, hb⟩
          have HS := Aside.mk hS
          clear hS
          go_wp2_with fail
          exact ⟨rfl, _, rfl, hb, a', c', rfl, HS.out⟩
        · have e21 : vals 21 = _ := hv ⟨21, .guard⟩ (by simp) rfl
          simp only [e21]
          have bx := BF.keep hW
          have z0 := bx.c0
          have z1 := bx.c1
          have z2 := bx.c2
          clear hv bx
          go_wp2_with fail
          exact ⟨rfl, _, rfl, Below.refl _ _, rfl⟩
        · have e24 : vals 24 = _ := hv ⟨24, .data⟩ (by simp) rfl
          have e21 : vals 21 = _ := hv ⟨21, .guard⟩ (by simp) rfl
          simp only [e24, e21]
          have HC := Aside.mk (names_c f _ _ _ _ _ W (BF.keep hW).t HWF.out (by omega) (by omega))
          clear hv
          go_wp2_with fail
          refine HC.out.mono ?_
          rintro e w' ⟨a', c', rfl, hS, hb⟩
          have HS := Aside.mk hS
          clear hS
          go_wp2_with fail
          exact ⟨rfl, _, rfl, hb, a', c', rfl, HS.out⟩
        · obtain ⟨a23, c23, e23, s23⟩ := hv ⟨23, .data⟩ (by simp) rfl
          obtain ⟨a25, c25, e25, s25⟩ := hv ⟨25, .data⟩ (by simp) rfl
          have e21 : vals 21 = _ := hv ⟨21, .guard⟩ (by simp) rfl
          simp only [e23, e25, e21]
          have HC := Aside.mk (among_s N.names f.names a23 _ c23 a25 _ c25 W s23 s25)
          rw [HNF.out] at HC
          clear hv s23 s25
          go_wp2_with fail
          refine HC.out.mono ?_
          rintro e w' ⟨rfl, hb⟩
          go_wp2_with fail
          exact ⟨rfl, _, rfl, hb, rfl⟩
        · have e26 : vals 26 = _ := hv ⟨26, .data⟩ (by simp) rfl
          have e21 : vals 21 = _ := hv ⟨21, .guard⟩ (by simp) rfl
          simp only [e26, e21]
          clear hv
          go_wp2_with fail
          exact ⟨rfl, _, rfl, Below.refl _ _, rfl⟩
        · have e21 : vals 21 = _ := hv ⟨21, .data⟩ (by simp) rfl
          have e27 : vals 27 = _ := hv ⟨27, .data⟩ (by simp) rfl
          simp only [e21, e27]
          clear hv
          go_wp2_with fail
          exact ⟨rfl, _, rfl, Below.refl _ _, rfl⟩
        · have e28 : vals 28 = _ := hv ⟨28, .data⟩ (by simp) rfl
          simp only [e28]
          clear hv
          go_wp2_with fail
          exact ⟨rfl, _, rfl, Below.refl _ _, rfl⟩
        · have e29 : vals 29 = _ := hv ⟨29, .guard⟩ (by simp) rfl
          simp only [e29]
          have bx := BF.keep hW
          have z0 := bx.c0
          have z1 := bx.c1
          have z2 := bx.c2
          clear hv bx
          go_wp2_with fail
          exact ⟨rfl, _, rfl, Below.refl _ _, rfl⟩
        · have e30 : vals 30 = _ := hv ⟨30, .data⟩ (by simp) rfl
          have e29 : vals 29 = _ := hv ⟨29, .guard⟩ (by simp) rfl
          simp only [e30, e29]
          have HC := Aside.mk (Is_c f _ _ _ _ _ W (HL.out.keep (below_to HB.out hW)) (BF.keep hW).t (by omega))
          rw [HBI.out.1] at HC
          clear hv
          go_wp2_with fail
          refine HC.out.mono ?_
          rintro e w' ⟨rfl, hb⟩
          go_wp2_with fail
          exact ⟨rfl, _, rfl, hb, rfl⟩
        · have e29 : vals 29 = _ := hv ⟨29, .guard⟩ (by simp) rfl
          simp only [e29]
          have bx := BF.keep hW
          have z0 := bx.c0
          have z1 := bx.c1
          have z2 := bx.c2
          clear hv bx
          go_wp2_with fail
          exact ⟨rfl, _, rfl, Below.refl _ _, rfl⟩
        · have e29 : vals 29 = _ := hv ⟨29, .guard⟩ (by simp) rfl
          simp only [e29]
          have bx := BN.keep hW
          have z0 := bx.c0
          have z1 := bx.c1
          have z2 := bx.c2
          clear hv bx
          go_wp2_with fail
          exact ⟨rfl, _, rfl, Below.refl _ _, rfl⟩
        · have e32 : vals 32 = _ := hv ⟨32, .data⟩ (by simp) rfl
          have e33 : vals 33 = _ := hv ⟨33, .data⟩ (by simp) rfl
          have e29 : vals 29 = _ := hv ⟨29, .guard⟩ (by simp) rfl
          simp only [e32, e33, e29]
          have HC := Aside.mk (cmp_c f _ _ _ _ _ _ _ _ _ _ N W (BF.keep hW).t (BN.keep hW).t)
          rw [HBI.out.2] at HC
          clear hv
          go_wp2_with fail
          refine HC.out.mono ?_
          rintro e w' ⟨rfl, hb⟩
          go_wp2_with fail
          exact ⟨rfl, _, rfl, hb, rfl⟩
        · have e34 : vals 34 = _ := hv ⟨34, .data⟩ (by simp) rfl
          have e29 : vals 29 = _ := hv ⟨29, .guard⟩ (by simp) rfl
          simp only [e34, e29]
          clear hv
          go_wp2_with fail
          exact ⟨rfl, _, rfl, Below.refl _ _, rfl⟩
        · have e31 : vals 31 = _ := hv ⟨31, .data⟩ (by simp) rfl
          have e35 : vals 35 = _ := hv ⟨35, .data⟩ (by simp) rfl
          have e29 : vals 29 = _ := hv ⟨29, .guard⟩ (by simp) rfl
          simp only [e31, e35, e29]
          clear hv
          go_wp2_with fail
          exact ⟨rfl, _, rfl, Below.refl _ _, rfl⟩
        · have e29 : vals 29 = _ := hv ⟨29, .data⟩ (by simp) rfl
          have e36 : vals 36 = _ := hv ⟨36, .data⟩ (by simp) rfl
          simp only [e29, e36]
          clear hv
          go_wp2_with fail
          exact ⟨rfl, _, rfl, Below.refl _ _, rfl⟩
      · intro vals W hW hv
        have eL : vals 37 = _ := hv 37 (by omega)
        simp only [List.take_succ_cons, List.take_zero, List.drop_succ_cons, List.drop_zero, lexL, Act.put, List.setIfInBounds_toArray, List.set_cons_zero, List.set_cons_succ, Nat.zero_add, Nat.reduceAdd, eL]
        clear hv
        have HB13 : Aside (Below w.heap.size w W) := ⟨below_to HB.out hW⟩
        have BF13 := Aside.mk (BF.keep hW)
        have BN13 := Aside.mk (BN.keep hW)
        have BD13 := Aside.mk (BD.out.keep hW)
        clear hW BF BN BM BD HB HBI hcb HFN HNF HMA
        rcases madeE_or true f HNF0.out HFR.out with hE2 | hE2
        · have HDR0 := Aside.mk (made_right true f HNF0.out HFR.out hE2)
          have HMF : Aside (f.madeF true = f.nf true) := ⟨by unfold Fm.madeF; rw [if_pos hE2]⟩
          have HDI := Aside.mk (nf_isN f HWF.out true)
          have HDN := Aside.mk (nf_nn f HNF0.out HWF.out true)
          rw [HMF.out] at BD13
          rw [hE2]
          clear hE2 HMF
          generalize f.nf true = D at HDR0 HDI HDN BD13 HTU
          have HDR : Aside (D.isR = true) := ⟨by unfold Fm.isR; rw [HDR0.out, HDI.out]; rfl⟩
          have hD1 : D.size ≤ 1000 := (rightE_ok HDR0.out).2.1
          have HD2 := Aside.mk (Dual_ok (X := AnyB) D o10 n10 a10 l10 d10 W (HL.out.keep HB13.out) BD13.out.t HDR0.out)
          have BD13_c0 := BD13.out.c0
          have BD13_c1 := BD13.out.c1
          have BD13_c2 := BD13.out.c2
          have BD13_lt := BD13.out.lt
          go_wp2_with fail
          refine HD2.out.mono ?_
          rintro e w14 ⟨o14, n14, a14, l14, d14, rfl, hT14, hb14⟩
          clear BD13_c0 BD13_c1 BD13_c2 BD13_lt
          have BFw := Aside.mk (BF13.out.keep hb14)
          have BFw_c0 := BFw.out.c0
          have BFw_c1 := BFw.out.c1
          have BFw_c2 := BFw.out.c2
          have BFw_lt := BFw.out.lt
          go_wp2_with fail
          clear BFw_c0 BFw_c1 BFw_c2 BFw_lt
          have hbx : Below w14.heap.size w14 (w14.alloc (.cells #[.int .u8 o14, .string n14, .slice a14 l14 d14] 25)) := (Below.refl _ _).alloc (Nat.le_refl _) _
          have HB14 := Aside.mk (below_to HB13.out (below_to hb14 hbx))
          have BF14 := Aside.mk ((BF13.out.keep hb14).keep hbx)
          have BN14 := Aside.mk ((BN13.out.keep hb14).keep hbx)
          have BD14 := Aside.mk ((BD13.out.keep hb14).keep hbx)
          have BX14 := Aside.mk (BoxT.new hT14.any)
          clear hb14 hT14 HD2 hbx BF13 BN13 BD13 HB13 BFw
          generalize hX : w14.alloc (.cells #[.int .u8 o14, .string n14, .slice a14 l14 d14] 25) = W14 at HB14 BF14 BN14 BD14 BX14 ⊢
          clear hX
          have HIff := Aside.mk (iffs_c f op nm a n c W14 BF14.out.t)
          refine HIff.out.mono ?_
          rintro e w15 ⟨rfl, hb15⟩
          have HB15 := Aside.mk (below_to HB14.out hb15)
          have BN15 := Aside.mk (BN14.out.keep hb15)
          have BD15 := Aside.mk (BD14.out.keep hb15)
          have BX15 := Aside.mk (BX14.out.keep hb15)
          clear hb15 HIff BF14 BN14 BD14 BX14 HB14
          have HID := Aside.mk (Is_c D o10 n10 a10 l10 d10 w15 (HL.out.keep HB15.out) BD15.out.t (by omega))
          rw [HDR.out] at HID
          have HE3 := Aside.mk (madeE_or true D HDN.out HDR0.out)
          cases hif : f.iffs with
          | true =>
            clear hif
            generalize D.madeE true = E3 at HE3 ⊢
            have BD15_c0 := BD15.out.c0
            have BD15_c1 := BD15.out.c1
            have BD15_c2 := BD15.out.c2
            have BD15_lt := BD15.out.lt
            rcases HE3.out with rfl | rfl
            all_goals
              clear HE3
              go_wp2_with fail
              refine HID.out.mono ?_
              rintro e w16 ⟨rfl, hb16⟩
              have HB16 := Aside.mk (below_to HB15.out hb16)
              clear hb16
              go_wp2_with fail
              go_ret
              exact ⟨rfl, HB16.out⟩
          | false =>
            have hDN := HTU.out hif
            have hE3 : D.madeE true = 0 := by
              rw [madeE_eq true D HDN.out HDR0.out, hDN, if_neg (by omega)]
            have hX3 : D.madeF true = N := by unfold Fm.madeF; rw [if_pos hE3, hDN]
            rw [hX3] at BX15
            rw [hE3]
            clear hif hDN hE3 hX3 HE3
            have BD15_c0 := BD15.out.c0
            have BD15_c1 := BD15.out.c1
            have BD15_c2 := BD15.out.c2
            have BD15_lt := BD15.out.lt
            go_wp2_with fail
            refine HID.out.mono ?_
            rintro e w16 ⟨rfl, hb16⟩
            have HB16 := Aside.mk (below_to HB15.out hb16)
            have BN16 := Aside.mk (BN15.out.keep hb16)
            have BX16 := Aside.mk (BX15.out.keep hb16)
            have HCm := Aside.mk (cmp_c N o14 n14 a14 l14 d14 o8 n8 a8 l8 d8 N w16 BX16.out.t BN16.out.t)
            rw [Fm.cmp_self] at HCm
            clear BD15_c0 BD15_c1 BD15_c2 BD15_lt
            clear hb16
            have BN16_c0 := BN16.out.c0
            have BN16_c1 := BN16.out.c1
            have BN16_c2 := BN16.out.c2
            have BN16_lt := BN16.out.lt
            have BX16_c0 := BX16.out.c0
            have BX16_c1 := BX16.out.c1
            have BX16_c2 := BX16.out.c2
            have BX16_lt := BX16.out.lt
            go_wp2_with fail
            refine HCm.out.mono ?_
            rintro e w17 ⟨rfl, hb17⟩
            have HB17 := Aside.mk (below_to HB16.out hb17)
            clear hb17
            go_wp2_with fail
            go_ret
            exact ⟨rfl, HB17.out⟩
        · rw [hE2]
          clear hE2
          go_wp2_with fail
          go_ret
          exact ⟨rfl, HB13.out⟩
    · rw [hE1]
      have HB9 := Aside.mk (below_to HB8.out hb9)
      clear hE1 hb9
      go_wp2_with fail
      go_ret
      exact ⟨rfl, below_alloc HB9.out _⟩
end Go.Proofs.YtmmakkaolknbaaaGreatDoor
