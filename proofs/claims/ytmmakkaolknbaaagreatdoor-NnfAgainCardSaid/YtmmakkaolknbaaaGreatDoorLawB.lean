/- Contracts: nnf.Simple, made, Normal, Dual. -/
import Derived.Test.YtmmakkaolknbaaaGreatDoorFormJ
import Derived.Test.YtmmakkaolknbaaaGreatDoorLawA
namespace Go.Proofs.YtmmakkaolknbaaaGreatDoor
set_option linter.unusedVariables false
set_option linter.unusedSimpArgs false
open Go.RowKit Go.Shelf

/-- What a call owes that answers a tree and a number. -/
def Ret2X (X : Nat → Prop) (f : Fm) (E : Int) (w : World) (e : Ending) (w' : World) : Prop :=
  ∃ op nm a n c, e = .returned (.tuple #[fv op nm a n c, .int .i64 E]) ∧ IsTX (fun b => X b ∨ w.heap.size ≤ b) w' op nm a n c f ∧ Below w.heap.size w w'
def Fm.zero : Fm := .mk 0 nil8 []
theorem Ret2X.at_ {X : Nat → Prop} {f : Fm} {E : Int} {w w2 : World} {op : Int} {nm : ByteArray} {a : Option Addr} {n c r : Nat} (N : Nat) (h : IsTX (fun b => (X b ∧ b < w.heap.size) ∨ N ≤ b) w2 op nm a n c f) (hb : Below w.heap.size w w2) (h1 : w.heap.size ≤ r) (h2 : r < N) (v0 v1 v2 : Value) :
    Ret2X X f E w (.returned (.tuple #[fv op nm a n c, .int .i64 E])) (World.setCell (World.setCell (World.setCell w2 ⟨r, 0, none⟩ v0) ⟨r, 1, none⟩ v1) ⟨r, 2, none⟩ v2) := by
  obtain ⟨op', nm', a', n', c', e, hT, hB⟩ := RetX.at_ (X := X) (r := r) N h hb h1 h2 v0 v1 v2
  cases e
  exact ⟨_, _, _, _, _, rfl, hT, hB⟩
theorem Ret2X.zero (X : Nat → Prop) (E : Int) {w w2 : World} (hb : Below w.heap.size w w2) : Ret2X X Fm.zero E w (.returned (.tuple #[fv 0 nil8 none 0 0, .int .i64 E])) w2 :=
  ⟨0, nil8, none, 0, 0, rfl, .leaf _ _ _ _ (by omega) (by omega) (by decide) (by omega), hb⟩
/-- A parameter's box and a result's cell, in a world that has grown. -/
theorem simp_of {w wr : World} {op : Int} {nm : ByteArray} {a : Option Addr} {n c : Nat} (h : Below (w.heap.size + 2) (simpW w op nm a n c) wr) :
    (wr.cell? ⟨w.heap.size, 0, none⟩ = some (.int .u8 op) ∧ wr.cell? ⟨w.heap.size, 1, none⟩ = some (.string nm) ∧ wr.cell? ⟨w.heap.size, 2, none⟩ = some (.slice a n c)) ∧
    (wr.cell? ⟨w.heap.size + 1, 0, none⟩ = some (.int .u8 0) ∧ wr.cell? ⟨w.heap.size + 1, 1, none⟩ = some (.string nil8) ∧ wr.cell? ⟨w.heap.size + 1, 2, none⟩ = some (.slice none 0 0)) ∧
    (wr.frozen? ⟨w.heap.size + 1, 0, none⟩ = false ∧ wr.frozen? ⟨w.heap.size + 1, 1, none⟩ = false ∧ wr.frozen? ⟨w.heap.size + 1, 2, none⟩ = false) ∧ Below w.heap.size w wr ∧ w.heap.size + 1 < wr.heap.size :=
  ⟨⟨(h.cell (p := ⟨w.heap.size, 0, none⟩) (by simp)).trans (by simp [simpW]), (h.cell (p := ⟨w.heap.size, 1, none⟩) (by simp)).trans (by simp [simpW]), (h.cell (p := ⟨w.heap.size, 2, none⟩) (by simp)).trans (by simp [simpW])⟩,
   ⟨(h.cell (p := ⟨w.heap.size + 1, 0, none⟩) (by simp)).trans (by simp [simpW]), (h.cell (p := ⟨w.heap.size + 1, 1, none⟩) (by simp)).trans (by simp [simpW]), (h.cell (p := ⟨w.heap.size + 1, 2, none⟩) (by simp)).trans (by simp [simpW])⟩,
   ⟨(h.frozen (p := ⟨w.heap.size + 1, 0, none⟩) (by simp)).trans (by simp [simpW]), (h.frozen (p := ⟨w.heap.size + 1, 1, none⟩) (by simp)).trans (by simp [simpW]), (h.frozen (p := ⟨w.heap.size + 1, 2, none⟩) (by simp)).trans (by simp [simpW])⟩,
   (simpW_below w op nm a n c).trans (h.mono (by omega)), by have := h.size; simp [simpW] at this; omega⟩

set_option maxHeartbeats 1000000 in
theorem Simple_no {X : Nat → Prop} (f : Fm) (op : Int) (nm : ByteArray) (a : Option Addr) (n c : Nat) (w : World) (hL : Laid w) (h : IsT w op nm a n c f) (hs : f.size ≤ 4611686018427387904) (hr : f.rightE futureB ≠ 0) :
    Calls Tryz.prog 17 #[fv op nm a n c] w (Ret2X X Fm.zero 70 w) := by
  have HC := Aside.mk (fun W (hW : Below w.heap.size w W) => Right_c f op nm a n c W (hL.keep hW) (h.keep hW) hs)
  have hr' : (f.rightE futureB != 0) = true := by simpa using hr
  generalize f.rightE futureB = E at hr' HC
  clear hL h hs hr
  go_enter Tryz.func17, Tryz.ntmps17
  go_wp2_with fail
  refine (HC.out _ ?_).mono ?_
  · exact (by repeat (first | (with_reducible exact Below.refl _ _) | (with_reducible assumption) | refine below_alloc ?_ _ | refine Below.drew ?_ | refine below_drewN ?_ _))
  rintro e w2 ⟨rfl, hb2⟩
  obtain ⟨⟨c0, c1, c2⟩, ⟨r0, r1, r2⟩, ⟨f0, f1, f2⟩, hB, hsz⟩ := simp_of (w := w) (op := op) (nm := nm) (a := a) (n := n) (c := c) (by simpa using hb2)
  have HB := Aside.mk hB
  clear hb2 hB
  go_wp2_with fail
  refine bodyPost_ret (v := .tuple #[fv 0 nil8 none 0 0, .int .i64 70]) (by simp [results, Tryz.results17, go_sem, r0, r1, r2]) rfl ?_
  exact Ret2X.zero X 70 (below_set3 HB.out (by omega) _ _ _)
set_option maxHeartbeats 1000000 in
theorem Simple_ok {X : Nat → Prop} (f : Fm) (op : Int) (nm : ByteArray) (a : Option Addr) (n c : Nat) (w : World) (hL : Laid w) (h : IsTX X w op nm a n c f) (hr : f.rightE futureB = 0) :
    Calls Tryz.prog 17 #[fv op nm a n c] w (Ret2X X f.simple 0 w) := by
  have HC := Aside.mk (fun W (hW : Below w.heap.size w W) => Right_c f op nm a n c W (hL.keep hW) (h.any.keep hW) (by have := (rightE_ok hr).2.1; omega))
  have HD := Aside.mk (fun W (hW : Below w.heap.size w W) => simple1_c f (fun b => X b ∧ b < w.heap.size) op nm a n c W (h.old.keep hW) (formed_wf f h.nn (rightE_ok hr).1))
  rw [hr] at HC
  generalize f.simple = F at HD ⊢
  clear hL h hr
  go_enter Tryz.func17, Tryz.ntmps17
  go_wp2_with fail
  refine (HC.out _ ?_).mono ?_
  · exact (by repeat (first | (with_reducible exact Below.refl _ _) | (with_reducible assumption) | refine below_alloc ?_ _ | refine Below.drew ?_ | refine below_drewN ?_ _))
  rintro e w2 ⟨rfl, hb2⟩
  have HQ : Aside (Below (w.heap.size + 2) (simpW w op nm a n c) w2) := ⟨by simpa using hb2⟩
  obtain ⟨⟨c0, c1, c2⟩, ⟨r0, r1, r2⟩, ⟨f0, f1, f2⟩, hB, hsz⟩ := simp_of HQ.out
  have HB := Aside.mk hB
  clear hb2 hB r0 r1 r2 f0 f1 f2
  go_wp2_with fail
  refine (HD.out _ HB.out).mono ?_
  rintro e w3 ⟨o3, n3, a3, l3, d3, rfl, hT3, hb3⟩
  obtain ⟨_, ⟨r0, r1, r2⟩, ⟨f0, f1, f2⟩, hB3, hsz3⟩ := simp_of (HQ.out.trans (hb3.mono (by omega)))
  have HB3 := Aside.mk hB3
  have HT : Aside (IsTX (fun b => (X b ∧ b < w.heap.size) ∨ (w.heap.size + 2) ≤ b) w3 o3 n3 a3 l3 d3 F) := ⟨hT3.mono fun b hb _ => hb.elim .inl (fun hb => .inr (by omega))⟩
  clear hT3 hb3 hB3 HC HD
  go_wp2_with fail
  refine bodyPost_ret (v := .tuple #[fv o3 n3 a3 l3 d3, .int .i64 0]) (by simp [results, Tryz.results17, go_sem, r0, r1, r2]) rfl ?_
  exact Ret2X.at_ (w.heap.size + 2) HT.out HB3.out (by omega) (by omega) _ _ _

set_option maxHeartbeats 1000000 in
theorem made_no {X : Nat → Prop} (d : Bool) (f : Fm) (op : Int) (nm : ByteArray) (a : Option Addr) (n c : Nat) (w : World) (hL : Laid w) (h : IsT w op nm a n c f) (hs : f.size ≤ 4611686018427387904) (hr : f.rightE futureB ≠ 0) :
    Calls Tryz.prog 81 #[fv op nm a n c, .bool d] w (Ret2X X Fm.zero 70 w) := by
  have HC := Aside.mk (fun W (hW : Below w.heap.size w W) => Right_c f op nm a n c W (hL.keep hW) (h.keep hW) hs)
  have hr' : (f.rightE futureB != 0) = true := by simpa using hr
  generalize f.rightE futureB = E at hr' HC
  clear hL h hs hr
  go_enter Tryz.func81, Tryz.ntmps81
  go_wp2_with fail
  refine (HC.out _ ?_).mono ?_
  · exact (by repeat (first | (with_reducible exact Below.refl _ _) | (with_reducible assumption) | refine below_alloc ?_ _ | refine Below.drew ?_ | refine below_drewN ?_ _))
  rintro e w2 ⟨rfl, hb2⟩
  obtain ⟨⟨c0, c1, c2⟩, ⟨r0, r1, r2⟩, ⟨f0, f1, f2⟩, hB, hsz⟩ := simp_of (w := w) (op := op) (nm := nm) (a := a) (n := n) (c := c) (by simpa using hb2)
  have HB := Aside.mk hB
  clear hb2 hB
  go_wp2_with fail
  refine bodyPost_ret (v := .tuple #[fv 0 nil8 none 0 0, .int .i64 70]) (by simp [results, Tryz.results81, go_sem, r0, r1, r2]) rfl ?_
  exact Ret2X.zero X 70 (below_set3 HB.out (by omega) _ _ _)

/-- What made answers of a right tree. -/
def Fm.madeF (d : Bool) (f : Fm) : Fm := if f.madeE d = 0 then f.nf d else Fm.zero
set_option maxRecDepth 100000 in
set_option maxHeartbeats 2000000 in
theorem made_ok {X : Nat → Prop} (d : Bool) (f : Fm) (op : Int) (nm : ByteArray) (a : Option Addr) (n c : Nat) (w : World) (hL : Laid w) (h : IsTX X w op nm a n c f) (hr : f.rightE futureB = 0) :
    Calls Tryz.prog 81 #[fv op nm a n c, .bool d] w (Ret2X X (f.madeF d) (f.madeE d) w) := by
  have hw := formed_wf f h.nn (rightE_ok hr).1
  have HC := Aside.mk (fun W (hW : Below w.heap.size w W) => Right_c f op nm a n c W (hL.keep hW) (h.any.keep hW) (by have := (rightE_ok hr).2.1; omega))
  have HN := Aside.mk (fun W (hW : Below w.heap.size w W) => counts_c f op nm a n c W (h.any.keep hW) hw)
  have HD := Aside.mk (fun W (hW : Below w.heap.size w W) => form_c f hw d (fun b => X b ∧ b < w.heap.size) op nm a n c W (h.old.keep hW))
  have hM : f.madeE d = if 1000 < (if d = true then f.cnt.2 else f.cnt.1).1 ∨ 100 < (if d = true then f.cnt.2 else f.cnt.1).2 then 31 else 0 := by
    unfold Fm.madeE; rw [if_pos hr]
  have HF : Aside (f.madeF d = if f.madeE d = 0 then f.nf d else Fm.zero) := ⟨rfl⟩
  generalize f.madeF d = R at HF ⊢
  generalize f.nf d = F at HD HF
  generalize f.madeE d = E at hM HF ⊢
  rcases hc : f.cnt with ⟨⟨x1, x2⟩, y1, y2⟩
  rw [hc] at HN hM
  rw [hr] at HC
  clear hL h hr hw hc
  simp only at HN hM
  by_cases hbig : 1000 < (if d = true then (y1, y2) else (x1, x2)).1 ∨ 100 < (if d = true then (y1, y2) else (x1, x2)).2
  · rw [if_pos hbig] at hM
    subst hM
    have HR : Aside (R = Fm.zero) := ⟨by rw [HF.out]; rfl⟩
    rw [HR.out]
    have hbig2 : (1000 < (if d = true then (y1, y2) else (x1, x2)).1) ∨ (¬ 1000 < (if d = true then (y1, y2) else (x1, x2)).1 ∧ 100 < (if d = true then (y1, y2) else (x1, x2)).2) := by
      by_cases h : 1000 < (if d = true then (y1, y2) else (x1, x2)).1
      · exact .inl h
      · exact .inr ⟨h, hbig.resolve_left h⟩
    clear hbig HF HR HD
    cases d with
    | false =>
      simp only [if_true, Bool.false_eq_true, if_false] at hbig2
      rcases hbig2 with hg | ⟨hg', hg⟩
      · have hi : (1000 : Int) < ((x1 : Nat) : Int) := by omega
        go_enter Tryz.func81, Tryz.ntmps81
        go_wp2_with fail
        refine (HC.out _ ?_).mono ?_
        · exact (by repeat (first | (with_reducible exact Below.refl _ _) | (with_reducible assumption) | refine below_alloc ?_ _ | refine Below.drew ?_ | refine below_drewN ?_ _))
        rintro e w2 ⟨rfl, hb2⟩
        have HQ : Aside (Below (w.heap.size + 2) (simpW w op nm a n c) w2) := ⟨by simpa using hb2⟩
        obtain ⟨⟨c0, c1, c2⟩, ⟨r0, r1, r2⟩, ⟨f0, f1, f2⟩, hB, hsz⟩ := simp_of HQ.out
        have HB := Aside.mk hB
        clear hb2 hB r0 r1 r2 f0 f1 f2
        go_wp2_with fail
        refine (HN.out _ HB.out).mono ?_
        rintro e w3 ⟨rfl, hb3⟩
        obtain ⟨_, ⟨r0, r1, r2⟩, ⟨f0, f1, f2⟩, hB3, hsz3⟩ := simp_of (HQ.out.trans (hb3.mono (by omega)))
        have HB3 := Aside.mk hB3
        have hsz4 : w.heap.size + 1 < w3.heap.size + 1 := by omega
        have hsz5 : w.heap.size + 1 < w3.heap.size + 1 + 1 := by omega
        clear hb3 hB3 HC HN
        go_wp2_with fail
        refine bodyPost_ret (v := .tuple #[fv 0 nil8 none 0 0, .int .i64 31]) (by simp [results, Tryz.results81, go_sem, r0, r1, r2, hsz3, hsz4, hsz5]) rfl ?_
        exact Ret2X.zero X 31 (((below_set3 HB3.out (r := w.heap.size + 1) (by omega) _ _ _).alloc (by simp; omega) _).alloc (by simp; omega) _)
      · have hi' : ¬ (1000 : Int) < ((x1 : Nat) : Int) := by omega
        have hi : (100 : Int) < ((x2 : Nat) : Int) := by omega
        go_enter Tryz.func81, Tryz.ntmps81
        go_wp2_with fail
        refine (HC.out _ ?_).mono ?_
        · exact (by repeat (first | (with_reducible exact Below.refl _ _) | (with_reducible assumption) | refine below_alloc ?_ _ | refine Below.drew ?_ | refine below_drewN ?_ _))
        rintro e w2 ⟨rfl, hb2⟩
        have HQ : Aside (Below (w.heap.size + 2) (simpW w op nm a n c) w2) := ⟨by simpa using hb2⟩
        obtain ⟨⟨c0, c1, c2⟩, ⟨r0, r1, r2⟩, ⟨f0, f1, f2⟩, hB, hsz⟩ := simp_of HQ.out
        have HB := Aside.mk hB
        clear hb2 hB r0 r1 r2 f0 f1 f2
        go_wp2_with fail
        refine (HN.out _ HB.out).mono ?_
        rintro e w3 ⟨rfl, hb3⟩
        obtain ⟨_, ⟨r0, r1, r2⟩, ⟨f0, f1, f2⟩, hB3, hsz3⟩ := simp_of (HQ.out.trans (hb3.mono (by omega)))
        have HB3 := Aside.mk hB3
        have hsz4 : w.heap.size + 1 < w3.heap.size + 1 := by omega
        have hsz5 : w.heap.size + 1 < w3.heap.size + 1 + 1 := by omega
        clear hb3 hB3 HC HN
        go_wp2_with fail
        refine bodyPost_ret (v := .tuple #[fv 0 nil8 none 0 0, .int .i64 31]) (by simp [results, Tryz.results81, go_sem, r0, r1, r2, hsz3, hsz4, hsz5]) rfl ?_
        exact Ret2X.zero X 31 (((below_set3 HB3.out (r := w.heap.size + 1) (by omega) _ _ _).alloc (by simp; omega) _).alloc (by simp; omega) _)
    | true =>
      simp only [if_true, Bool.false_eq_true, if_false] at hbig2
      rcases hbig2 with hg | ⟨hg', hg⟩
      · have hi : (1000 : Int) < ((y1 : Nat) : Int) := by omega
        go_enter Tryz.func81, Tryz.ntmps81
        go_wp2_with fail
        refine (HC.out _ ?_).mono ?_
        · exact (by repeat (first | (with_reducible exact Below.refl _ _) | (with_reducible assumption) | refine below_alloc ?_ _ | refine Below.drew ?_ | refine below_drewN ?_ _))
        rintro e w2 ⟨rfl, hb2⟩
        have HQ : Aside (Below (w.heap.size + 2) (simpW w op nm a n c) w2) := ⟨by simpa using hb2⟩
        obtain ⟨⟨c0, c1, c2⟩, ⟨r0, r1, r2⟩, ⟨f0, f1, f2⟩, hB, hsz⟩ := simp_of HQ.out
        have HB := Aside.mk hB
        clear hb2 hB r0 r1 r2 f0 f1 f2
        go_wp2_with fail
        refine (HN.out _ HB.out).mono ?_
        rintro e w3 ⟨rfl, hb3⟩
        obtain ⟨_, ⟨r0, r1, r2⟩, ⟨f0, f1, f2⟩, hB3, hsz3⟩ := simp_of (HQ.out.trans (hb3.mono (by omega)))
        have HB3 := Aside.mk hB3
        have hsz4 : w.heap.size + 1 < w3.heap.size + 1 := by omega
        have hsz5 : w.heap.size + 1 < w3.heap.size + 1 + 1 := by omega
        clear hb3 hB3 HC HN
        go_wp2_with fail
        refine bodyPost_ret (v := .tuple #[fv 0 nil8 none 0 0, .int .i64 31]) (by simp [results, Tryz.results81, go_sem, r0, r1, r2, hsz3, hsz4, hsz5]) rfl ?_
        exact Ret2X.zero X 31 (((below_set3 HB3.out (r := w.heap.size + 1) (by omega) _ _ _).alloc (by simp; omega) _).alloc (by simp; omega) _)
      · have hi' : ¬ (1000 : Int) < ((y1 : Nat) : Int) := by omega
        have hi : (100 : Int) < ((y2 : Nat) : Int) := by omega
        go_enter Tryz.func81, Tryz.ntmps81
        go_wp2_with fail
        refine (HC.out _ ?_).mono ?_
        · exact (by repeat (first | (with_reducible exact Below.refl _ _) | (with_reducible assumption) | refine below_alloc ?_ _ | refine Below.drew ?_ | refine below_drewN ?_ _))
        rintro e w2 ⟨rfl, hb2⟩
        have HQ : Aside (Below (w.heap.size + 2) (simpW w op nm a n c) w2) := ⟨by simpa using hb2⟩
        obtain ⟨⟨c0, c1, c2⟩, ⟨r0, r1, r2⟩, ⟨f0, f1, f2⟩, hB, hsz⟩ := simp_of HQ.out
        have HB := Aside.mk hB
        clear hb2 hB r0 r1 r2 f0 f1 f2
        go_wp2_with fail
        refine (HN.out _ HB.out).mono ?_
        rintro e w3 ⟨rfl, hb3⟩
        obtain ⟨_, ⟨r0, r1, r2⟩, ⟨f0, f1, f2⟩, hB3, hsz3⟩ := simp_of (HQ.out.trans (hb3.mono (by omega)))
        have HB3 := Aside.mk hB3
        have hsz4 : w.heap.size + 1 < w3.heap.size + 1 := by omega
        have hsz5 : w.heap.size + 1 < w3.heap.size + 1 + 1 := by omega
        clear hb3 hB3 HC HN
        go_wp2_with fail
        refine bodyPost_ret (v := .tuple #[fv 0 nil8 none 0 0, .int .i64 31]) (by simp [results, Tryz.results81, go_sem, r0, r1, r2, hsz3, hsz4, hsz5]) rfl ?_
        exact Ret2X.zero X 31 (((below_set3 HB3.out (r := w.heap.size + 1) (by omega) _ _ _).alloc (by simp; omega) _).alloc (by simp; omega) _)
  · rw [if_neg hbig] at hM
    subst hM
    have HR : Aside (R = F) := ⟨by rw [HF.out]; rfl⟩
    rw [HR.out]
    have hn1 : ¬ 1000 < (if d = true then (y1, y2) else (x1, x2)).1 := fun h => hbig (.inl h)
    have hn2 : ¬ 100 < (if d = true then (y1, y2) else (x1, x2)).2 := fun h => hbig (.inr h)
    clear hbig HF HR
    cases d with
    | false =>
      simp only [if_true, Bool.false_eq_true, if_false] at hn1 hn2
      have hi : ¬ (1000 : Int) < ((x1 : Nat) : Int) := by omega
      have hi' : ¬ (100 : Int) < ((x2 : Nat) : Int) := by omega
      go_enter Tryz.func81, Tryz.ntmps81
      go_wp2_with fail
      refine (HC.out _ ?_).mono ?_
      · exact (by repeat (first | (with_reducible exact Below.refl _ _) | (with_reducible assumption) | refine below_alloc ?_ _ | refine Below.drew ?_ | refine below_drewN ?_ _))
      rintro e w2 ⟨rfl, hb2⟩
      have HQ : Aside (Below (w.heap.size + 2) (simpW w op nm a n c) w2) := ⟨by simpa using hb2⟩
      obtain ⟨⟨c0, c1, c2⟩, ⟨r0, r1, r2⟩, ⟨f0, f1, f2⟩, hB, hsz⟩ := simp_of HQ.out
      have HB := Aside.mk hB
      clear hb2 hB r0 r1 r2 f0 f1 f2
      go_wp2_with fail
      refine (HN.out _ HB.out).mono ?_
      rintro e w3 ⟨rfl, hb3⟩
      have HQ3 : Aside (Below (w.heap.size + 2) (simpW w op nm a n c) w3) := ⟨HQ.out.trans (hb3.mono (by omega))⟩
      obtain ⟨⟨c0', c1', c2'⟩, ⟨r0, r1, r2⟩, ⟨f0, f1, f2⟩, hB3, hsz3⟩ := simp_of HQ3.out
      have HB3 := Aside.mk hB3
      have hsz4 : w.heap.size < w3.heap.size := by omega
      have hsz5 : w.heap.size < w3.heap.size + 1 := by omega
      have hsz6 : w.heap.size < w3.heap.size + 1 + 1 := by omega
      clear hb3 hB3 HC HN c0 c1 c2 r0 r1 r2 f0 f1 f2
      go_wp2_with fail
      refine (HD.out _ ?_).mono ?_
      · exact ((HB3.out.alloc (by have := HB3.out.size; omega) _).alloc (by have := HB3.out.size; simp; omega) _)
      rintro e w5 ⟨o3, n3, a3, l3, d3, rfl, hT3, hb5⟩
      have HQ5 : Aside (Below (w.heap.size + 2) (simpW w op nm a n c) w5) := ⟨((HQ3.out.alloc (by omega) _).alloc (by simp; omega) _).trans (hb5.mono (by simp; omega))⟩
      obtain ⟨_, ⟨r0, r1, r2⟩, ⟨f0, f1, f2⟩, hB5, hsz5⟩ := simp_of HQ5.out
      have HB5 := Aside.mk hB5
      have HT : Aside (IsTX (fun b => (X b ∧ b < w.heap.size) ∨ (w.heap.size + 2) ≤ b) w5 o3 n3 a3 l3 d3 F) := ⟨hT3.mono fun b hb _ => hb.elim .inl (fun hb => .inr (by simp at hb; omega))⟩
      clear hT3 hb5 hB5 HD
      go_wp2_with fail
      refine bodyPost_ret (v := .tuple #[fv o3 n3 a3 l3 d3, .int .i64 0]) (by simp [results, Tryz.results81, go_sem, r0, r1, r2]) rfl ?_
      exact Ret2X.at_ (w.heap.size + 2) HT.out HB5.out (by omega) (by omega) _ _ _
    | true =>
      simp only [if_true, Bool.false_eq_true, if_false] at hn1 hn2
      have hi : ¬ (1000 : Int) < ((y1 : Nat) : Int) := by omega
      have hi' : ¬ (100 : Int) < ((y2 : Nat) : Int) := by omega
      go_enter Tryz.func81, Tryz.ntmps81
      go_wp2_with fail
      refine (HC.out _ ?_).mono ?_
      · exact (by repeat (first | (with_reducible exact Below.refl _ _) | (with_reducible assumption) | refine below_alloc ?_ _ | refine Below.drew ?_ | refine below_drewN ?_ _))
      rintro e w2 ⟨rfl, hb2⟩
      have HQ : Aside (Below (w.heap.size + 2) (simpW w op nm a n c) w2) := ⟨by simpa using hb2⟩
      obtain ⟨⟨c0, c1, c2⟩, ⟨r0, r1, r2⟩, ⟨f0, f1, f2⟩, hB, hsz⟩ := simp_of HQ.out
      have HB := Aside.mk hB
      clear hb2 hB r0 r1 r2 f0 f1 f2
      go_wp2_with fail
      refine (HN.out _ HB.out).mono ?_
      rintro e w3 ⟨rfl, hb3⟩
      have HQ3 : Aside (Below (w.heap.size + 2) (simpW w op nm a n c) w3) := ⟨HQ.out.trans (hb3.mono (by omega))⟩
      obtain ⟨⟨c0', c1', c2'⟩, ⟨r0, r1, r2⟩, ⟨f0, f1, f2⟩, hB3, hsz3⟩ := simp_of HQ3.out
      have HB3 := Aside.mk hB3
      have hsz4 : w.heap.size < w3.heap.size := by omega
      have hsz5 : w.heap.size < w3.heap.size + 1 := by omega
      have hsz6 : w.heap.size < w3.heap.size + 1 + 1 := by omega
      clear hb3 hB3 HC HN c0 c1 c2 r0 r1 r2 f0 f1 f2
      go_wp2_with fail
      refine (HD.out _ ?_).mono ?_
      · exact ((HB3.out.alloc (by have := HB3.out.size; omega) _).alloc (by have := HB3.out.size; simp; omega) _)
      rintro e w5 ⟨o3, n3, a3, l3, d3, rfl, hT3, hb5⟩
      have HQ5 : Aside (Below (w.heap.size + 2) (simpW w op nm a n c) w5) := ⟨((HQ3.out.alloc (by omega) _).alloc (by simp; omega) _).trans (hb5.mono (by simp; omega))⟩
      obtain ⟨_, ⟨r0, r1, r2⟩, ⟨f0, f1, f2⟩, hB5, hsz5⟩ := simp_of HQ5.out
      have HB5 := Aside.mk hB5
      have HT : Aside (IsTX (fun b => (X b ∧ b < w.heap.size) ∨ (w.heap.size + 2) ≤ b) w5 o3 n3 a3 l3 d3 F) := ⟨hT3.mono fun b hb _ => hb.elim .inl (fun hb => .inr (by simp at hb; omega))⟩
      clear hT3 hb5 hB5 HD
      go_wp2_with fail
      refine bodyPost_ret (v := .tuple #[fv o3 n3 a3 l3 d3, .int .i64 0]) (by simp [results, Tryz.results81, go_sem, r0, r1, r2]) rfl ?_
      exact Ret2X.at_ (w.heap.size + 2) HT.out HB5.out (by omega) (by omega) _ _ _

/-- Normal, Dual: by made. -/
theorem Normal_of {X : Nat → Prop} {F : Fm} {E : Int} (op : Int) (nm : ByteArray) (a : Option Addr) (n c : Nat) (w : World)
    (H : ∀ W, Below w.heap.size w W → Calls Tryz.prog 81 #[fv op nm a n c, .bool false] W (Ret2X (fun b => X b ∧ b < w.heap.size) F E W)) :
    Calls Tryz.prog 24 #[fv op nm a n c] w (Ret2X X F E w) := by
  have HC := Aside.mk H
  clear H
  go_enter Tryz.func24, Tryz.ntmps24
  go_wp2_with fail
  refine (HC.out _ (by repeat (first | (with_reducible exact Below.refl _ _) | (with_reducible assumption) | refine below_alloc ?_ _ | refine Below.drew ?_ | refine below_drewN ?_ _))).mono ?_
  rintro e w2 ⟨o3, n3, a3, l3, d3, rfl, hT3, hb2⟩
  obtain ⟨_, ⟨r0, r1, r2⟩, ⟨f0, f1, f2⟩, hB, hsz⟩ := simp_of (w := w) (op := op) (nm := nm) (a := a) (n := n) (c := c) (by simpa using hb2)
  have HB := Aside.mk hB
  have HT : Aside (IsTX (fun b => (X b ∧ b < w.heap.size) ∨ (w.heap.size + 2) ≤ b) w2 o3 n3 a3 l3 d3 F) := ⟨hT3.mono fun b hb _ => hb.elim .inl (fun hb => .inr (by simpa using hb))⟩
  clear hb2 hB hT3 HC
  go_wp2_with fail
  refine bodyPost_ret (v := .tuple #[fv o3 n3 a3 l3 d3, .int .i64 E]) (by simp [results, Tryz.results24, go_sem, r0, r1, r2]) rfl ?_
  exact Ret2X.at_ (w.heap.size + 2) HT.out HB.out (by omega) (by omega) _ _ _
theorem Dual_of {X : Nat → Prop} {F : Fm} {E : Int} (op : Int) (nm : ByteArray) (a : Option Addr) (n c : Nat) (w : World)
    (H : ∀ W, Below w.heap.size w W → Calls Tryz.prog 81 #[fv op nm a n c, .bool true] W (Ret2X (fun b => X b ∧ b < w.heap.size) F E W)) :
    Calls Tryz.prog 25 #[fv op nm a n c] w (Ret2X X F E w) := by
  have HC := Aside.mk H
  clear H
  go_enter Tryz.func25, Tryz.ntmps25
  go_wp2_with fail
  refine (HC.out _ (by repeat (first | (with_reducible exact Below.refl _ _) | (with_reducible assumption) | refine below_alloc ?_ _ | refine Below.drew ?_ | refine below_drewN ?_ _))).mono ?_
  rintro e w2 ⟨o3, n3, a3, l3, d3, rfl, hT3, hb2⟩
  obtain ⟨_, ⟨r0, r1, r2⟩, ⟨f0, f1, f2⟩, hB, hsz⟩ := simp_of (w := w) (op := op) (nm := nm) (a := a) (n := n) (c := c) (by simpa using hb2)
  have HB := Aside.mk hB
  have HT : Aside (IsTX (fun b => (X b ∧ b < w.heap.size) ∨ (w.heap.size + 2) ≤ b) w2 o3 n3 a3 l3 d3 F) := ⟨hT3.mono fun b hb _ => hb.elim .inl (fun hb => .inr (by simpa using hb))⟩
  clear hb2 hB hT3 HC
  go_wp2_with fail
  refine bodyPost_ret (v := .tuple #[fv o3 n3 a3 l3 d3, .int .i64 E]) (by simp [results, Tryz.results25, go_sem, r0, r1, r2]) rfl ?_
  exact Ret2X.at_ (w.heap.size + 2) HT.out HB.out (by omega) (by omega) _ _ _
theorem Normal_ok {X : Nat → Prop} (f : Fm) (op : Int) (nm : ByteArray) (a : Option Addr) (n c : Nat) (w : World) (hL : Laid w) (h : IsTX X w op nm a n c f) (hr : f.rightE futureB = 0) :
    Calls Tryz.prog 24 #[fv op nm a n c] w (Ret2X X (f.madeF false) (f.madeE false) w) :=
  Normal_of op nm a n c w fun W hW => made_ok false f op nm a n c W (hL.keep hW) (h.old.keep hW) hr
theorem Dual_ok {X : Nat → Prop} (f : Fm) (op : Int) (nm : ByteArray) (a : Option Addr) (n c : Nat) (w : World) (hL : Laid w) (h : IsTX X w op nm a n c f) (hr : f.rightE futureB = 0) :
    Calls Tryz.prog 25 #[fv op nm a n c] w (Ret2X X (f.madeF true) (f.madeE true) w) :=
  Dual_of op nm a n c w fun W hW => made_ok true f op nm a n c W (hL.keep hW) (h.old.keep hW) hr
end Go.Proofs.YtmmakkaolknbaaaGreatDoor
