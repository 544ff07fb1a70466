/- nnf.counts: what it reckons; the steps of its drawn regions. -/
import Derived.Test.YtmmakkaolknbaaaGreatDoorCount
import Derived.Test.YtmmakkaolknbaaaGreatDoorSt
namespace Go.Proofs.YtmmakkaolknbaaaGreatDoor
set_option linter.unusedVariables false
set_option linter.unusedSimpArgs false
open Go.RowKit Go.Shelf

abbrev oneC : Cn := (1, 1)
abbrev z2 : Cn × Cn := ((0, 0), (0, 0))
def cntOp (op : Int) (a b x y : Cn) : Cn × Cn :=
  if op = 1 ∨ op = 2 then (oneC, oneC) else if op = 3 then (oneC, jn [oneC]) else if op = 4 then (x, a) else if op = 7 then (jn [x, b], jn [a, y])
  else if op = 8 then (jn [jn [a, b], jn [x, y]], jn [jn [a, y], jn [x, b]]) else if op = 9 then (jn [a], jn [x]) else if op = 10 ∨ op = 11 then (jn [oneC, a], jn [oneC, x])
  else if op = 14 ∨ op = 15 then (jn [b, jn [a, b]], jn [y, jn [x, y]]) else (jn [a, b], jn [x, y])
def cntO (op : Int) (l : List (Cn × Cn)) : Cn × Cn := cntOp op (l.getD 0 z2).1 (l.getD 1 z2).1 (l.getD 0 z2).2 (l.getD 1 z2).2
mutual
def Fm.cnt : Fm → Cn × Cn
  | .mk op _ ks => cntO op (Fm.cntL ks)
def Fm.cntL : List Fm → List (Cn × Cn)
  | [] => []
  | k :: ks => k.cnt :: Fm.cntL ks
end
theorem cntL_map (ks : List Fm) : Fm.cntL ks = ks.map Fm.cnt := by
  induction ks with
  | nil => rfl
  | cons k ks ih => simp [Fm.cntL, ih]
theorem jn_nil : jn [] = oneC := by decide
theorem one_ok : Cn.ok oneC := ⟨by decide, by decide⟩
theorem ok1 {a : Cn} (h : a.ok) : ∀ c ∈ [a], Cn.ok c := by simpa using h
theorem ok2 {a b : Cn} (h : a.ok) (h' : b.ok) : ∀ c ∈ [a, b], Cn.ok c := by simpa using ⟨h, h'⟩
theorem ite_ok {p : Prop} [Decidable p] {a b : Cn × Cn} (ha : a.1.ok ∧ a.2.ok) (hb : b.1.ok ∧ b.2.ok) : (if p then a else b).1.ok ∧ (if p then a else b).2.ok := by split <;> assumption
theorem cntOp_ok (op : Int) {a b x y : Cn} (ha : a.ok) (hb : b.ok) (hx : x.ok) (hy : y.ok) : (cntOp op a b x y).1.ok ∧ (cntOp op a b x y).2.ok := by
  unfold cntOp
  repeat' (with_reducible refine ite_ok ?_ ?_)
  · exact ⟨one_ok, one_ok⟩
  · exact ⟨one_ok, jn_ok (ok1 one_ok)⟩
  · exact ⟨hx, ha⟩
  · exact ⟨jn_ok (ok2 hx hb), jn_ok (ok2 ha hy)⟩
  · exact ⟨jn_ok (ok2 (jn_ok (ok2 ha hb)) (jn_ok (ok2 hx hy))), jn_ok (ok2 (jn_ok (ok2 ha hy)) (jn_ok (ok2 hx hb)))⟩
  · exact ⟨jn_ok (ok1 ha), jn_ok (ok1 hx)⟩
  · exact ⟨jn_ok (ok2 one_ok ha), jn_ok (ok2 one_ok hx)⟩
  · exact ⟨jn_ok (ok2 hb (jn_ok (ok2 ha hb))), jn_ok (ok2 hy (jn_ok (ok2 hx hy)))⟩
  · exact ⟨jn_ok (ok2 ha hb), jn_ok (ok2 hx hy)⟩
theorem getD_ok {l : List (Cn × Cn)} (h : ∀ c ∈ l, c.1.ok ∧ c.2.ok) (i : Nat) : (l.getD i z2).1.ok ∧ (l.getD i z2).2.ok := by
  rw [List.getD_eq_getElem?_getD]
  cases hi : l[i]? with
  | none => exact ⟨⟨by decide, by decide⟩, ⟨by decide, by decide⟩⟩
  | some c => exact h c (List.mem_of_getElem? hi)
theorem cnt_ok (f : Fm) : f.cnt.1.ok ∧ f.cnt.2.ok := by
  induction f using Fm.ind_ with | h o n ks ih
  unfold Fm.cnt cntO
  rw [cntL_map]
  have h : ∀ c ∈ ks.map Fm.cnt, c.1.ok ∧ c.2.ok := fun c hc => by
    obtain ⟨k, hk, rfl⟩ := List.mem_map.1 hc
    exact ih k hk
  exact cntOp_ok _ (getD_ok h 0).1 (getD_ok h 1).1 (getD_ok h 0).2 (getD_ok h 1).2

/-! The region that lays four counts into four new boxes: which box comes first is open. -/
abbrev cnO (c : Cn) : Obj := .cells #[.int .i64 c.1, .int .i64 c.2] 180
structure B8 (w : World) (cs : Nat → Cn) (vv : Nat → Value) (L : Nat → Bool) (vals : Nat → Value) (W : World) : Prop where
  low : Below w.heap.size w W
  pure : ∀ i, i < 8 → L i = true → vals i = vv i
  dep : ∀ i, i < 4 → L (12 + i) = true → L (8 + i) = true
  box : ∀ i, i < 4 → L (8 + i) = true → ∃ b, vals (8 + i) = .pointer (some ⟨b, 0, none⟩) ∧ w.heap.size ≤ b ∧ W.heap[b]? = some (cnO (if L (12 + i) = true then cs i else (0, 0)))
  apart : ∀ i j, i < 4 → j < 4 → i ≠ j → L (8 + i) = true → L (8 + j) = true → vals (8 + i) ≠ vals (8 + j)
theorem B8.start (w : World) (cs : Nat → Cn) (vv : Nat → Value) (L : Nat → Bool) (vals : Nat → Value) (hL : ∀ j, j < 16 → L j = false) : B8 w cs vv L vals { w with drawn := w.drawn + 1 } :=
  have no : ∀ {p : Prop} j, j < 16 → L j = true → p := fun j hj h => absurd ((hL j hj).symm.trans h) (by simp)
  ⟨below_drewN (Below.refl _ _) 1, fun i hi h => no i (by omega) h, fun i hi h => no _ (by omega) h, fun i hi h => no _ (by omega) h, fun i j hi hj _ h => no _ (by omega) h⟩
theorem B8.pureStep {w : World} {cs : Nat → Cn} {vv : Nat → Value} {L : Nat → Bool} {vals : Nat → Value} {W : World} (h : B8 w cs vv L vals W) (i : Nat) (hi : i < 8) :
    B8 w cs vv (updL L i) (updV vals i (vv i)) W := by
  show B8 w cs vv (fun j => if j = i then true else L j) (fun j => if j = i then vv i else vals j) W
  have n1 : ∀ k, 8 + k ≠ i := fun k => by omega
  have n2 : ∀ k, 12 + k ≠ i := fun k => by omega
  refine ⟨h.low, fun j hj hLj => ?_, fun j hj hLj => ?_, fun j hj hLj => ?_, fun j k hj hk hne hLj hLk => ?_⟩
  · by_cases e : j = i
    · simp [e]
    · simp only [e, if_false] at hLj ⊢; exact h.pure j hj hLj
  · simp only [n1, n2, if_false] at hLj ⊢; exact h.dep j hj hLj
  · simp only [n1, n2, if_false] at hLj ⊢; exact h.box j hj hLj
  · simp only [n1, if_false] at hLj hLk ⊢; exact h.apart j k hj hk hne hLj hLk
theorem B8.allocStep {w : World} {cs : Nat → Cn} {vv : Nat → Value} {L : Nat → Bool} {vals : Nat → Value} {W : World} (h : B8 w cs vv L vals W) (i : Nat) (hi : i < 4) (hL : L (8 + i) = false) :
    B8 w cs vv (updL L (8 + i)) (updV vals (8 + i) (.pointer (some ⟨W.heap.size, 0, none⟩))) (W.alloc (cnO (0, 0))) := by
  show B8 w cs vv (fun j => if j = 8 + i then true else L j) (fun j => if j = 8 + i then .pointer (some ⟨W.heap.size, 0, none⟩) else vals j) (W.alloc (cnO (0, 0)))
  have hz := h.low.size
  have n2 : ∀ k, k < 4 → 12 + k ≠ 8 + i := fun k hk => by omega
  refine ⟨below_alloc h.low _, fun j hj hLj => ?_, fun j hj hLj => ?_, fun j hj hLj => ?_, fun j k hj hk hne hLj hLk => ?_⟩
  · have e : j ≠ 8 + i := by omega
    simp only [e, if_false] at hLj ⊢; exact h.pure j hj hLj
  · simp only [n2 j hj, if_false] at hLj
    by_cases e : j = i
    · simp [e]
    · have e' : 8 + j ≠ 8 + i := by omega
      simp only [e', if_false]; exact h.dep j hj hLj
  · simp only [n2 j hj, if_false] at hLj ⊢
    by_cases e : j = i
    · subst e
      have h12 : L (12 + j) = false := by
        cases h12 : L (12 + j) with
        | false => rfl
        | true => rw [h.dep j hj h12] at hL; cases hL
      simp only [if_true, h12]
      exact ⟨W.heap.size, rfl, hz, by simpa using heap_alloc_new W (cnO (0, 0))⟩
    · have e' : 8 + j ≠ 8 + i := by omega
      simp only [e', if_false] at hLj ⊢
      obtain ⟨b, h1, h2, h3⟩ := h.box j hj hLj
      have hb : b < W.heap.size := (Array.getElem?_eq_some_iff.1 h3).1
      exact ⟨b, h1, h2, (Below.heap_alloc W _ b hb).trans h3⟩
  · by_cases e1 : j = i
    · have e2 : 8 + k ≠ 8 + i := by omega
      simp only [e2, if_false] at hLk
      simp only [e1, e2, if_true, if_false]
      obtain ⟨b, h1, h2, h3⟩ := h.box k hk hLk
      have hb : b < W.heap.size := (Array.getElem?_eq_some_iff.1 h3).1
      rw [h1]
      intro he
      simp at he
      try omega
    · have e1' : 8 + j ≠ 8 + i := by omega
      simp only [e1', if_false] at hLj
      by_cases e2 : k = i
      · simp only [e1', e2, if_true, if_false]
        obtain ⟨b, h1, h2, h3⟩ := h.box j hj hLj
        have hb : b < W.heap.size := (Array.getElem?_eq_some_iff.1 h3).1
        rw [h1]
        intro he
        simp at he
        try omega
      · have e2' : 8 + k ≠ 8 + i := by omega
        simp only [e2', if_false] at hLk
        simp only [e1', e2', if_false]
        exact h.apart j k hj hk hne hLj hLk
theorem B8.storeStep {w : World} {cs : Nat → Cn} {vv : Nat → Value} {L : Nat → Bool} {vals : Nat → Value} {W W' : World} {v : Value} (h : B8 w cs vv L vals W) (i : Nat) (hi : i < 4) (hL : L (8 + i) = true) (b : Nat) (hv : vals (8 + i) = .pointer (some ⟨b, 0, none⟩)) (hwb : w.heap.size ≤ b)
    (hg : W.grownBy W' (some b)) (hb : W'.heap[b]? = some (cnO (cs i))) :
    B8 w cs vv (updL L (12 + i)) (updV vals (12 + i) v) W' := by
  show B8 w cs vv (fun j => if j = 12 + i then true else L j) (fun j => if j = 12 + i then v else vals j) W'
  have n1 : ∀ k, k < 4 → 8 + k ≠ 12 + i := fun k hk => by omega
  refine ⟨h.low.grown hg h.low.size (fun k hk => by cases hk; exact hwb), fun j hj hLj => ?_, fun j hj hLj => ?_, fun j hj hLj => ?_, fun j k hj hk hne hLj hLk => ?_⟩
  · have e : j ≠ 12 + i := by omega
    simp only [e, if_false] at hLj ⊢; exact h.pure j hj hLj
  · simp only [n1 j hj, if_false]
    by_cases e : j = i
    · subst e; exact hL
    · have e' : 12 + j ≠ 12 + i := by omega
      simp only [e', if_false] at hLj; exact h.dep j hj hLj
  · simp only [n1 j hj, if_false] at hLj ⊢
    by_cases e : j = i
    · subst e
      simp only [if_true]
      exact ⟨b, hv, hwb, hb⟩
    · have e' : 12 + j ≠ 12 + i := by omega
      simp only [e', if_false]
      obtain ⟨b2, h1, h2, h3⟩ := h.box j hj hLj
      have hlt : b2 < W.heap.size := (Array.getElem?_eq_some_iff.1 h3).1
      have hne : b2 ≠ b := fun hbb => h.apart j i hj hi e hLj hL (by rw [h1, hv, hbb])
      exact ⟨b2, h1, h2, (hg.block b2 hlt (fun hbb => hne (Option.some.inj hbb))).trans h3⟩
  · simp only [n1 j hj, n1 k hk, if_false] at hLj hLk ⊢
    exact h.apart j k hj hk hne hLj hLk

/-! The regions that store two counts. -/
theorem stab_build (st : List (Nat × Nat)) (i N n : Nat) (l : List Cn) (h : ∀ b ∈ others st i, b < N) : StabAt st i (fun v W => ∃ b, v = .slice (some ⟨b, 0, none⟩) n n ∧ N ≤ b ∧ b < W.heap.size ∧ IsC W (some ⟨b, 0, none⟩) n l) := by
  rintro v W W' row hrow ⟨b, e, h1, hlt, h2⟩ hg
  refine ⟨b, e, h1, by have := hg.size; omega, h2.1, h2.2.1, fun hp => ?_⟩
  obtain ⟨b', o', e', hc⟩ := h2.2.2 hp
  obtain ⟨rfl, rfl⟩ : b = b' ∧ 0 = o' := by cases e'; exact ⟨rfl, rfl⟩
  have hcell : ∀ o, W'.cell? ⟨b, o, none⟩ = W.cell? ⟨b, o, none⟩ := fun o => World.cell?_of_block (hg.block b hlt fun e => by have := h b (hrow b e.symm); omega)
  exact ⟨b, 0, rfl, fun j hj => ⟨(hcell _).trans (hc j hj).1, (hcell _).trans (hc j hj).2⟩⟩
theorem stab_store (st : List (Nat × Nat)) (i r : Nat) (c : Cn) (h : r ∉ others st i) : StabAt st i (fun _ W => W.cell? ⟨r, 0, none⟩ = some (.int .i64 c.1) ∧ W.cell? ⟨r, 1, none⟩ = some (.int .i64 c.2)) := by
  rintro v W W' row hrow ⟨h1, h2⟩ hg
  have hlt : r < W.heap.size := World.block_lt_of_cell? W _ h1
  have hcell : ∀ o, W'.cell? ⟨r, o, none⟩ = W.cell? ⟨r, o, none⟩ := fun o => World.cell?_of_block (hg.block r hlt fun e => h (hrow r e.symm))
  exact ⟨(hcell _).trans h1, (hcell _).trans h2⟩
theorem grown_refl (W : World) (row : Option Nat) : W.grownBy W row := ⟨rfl, rfl, rfl, Nat.le_refl _, fun _ _ _ => rfl⟩
theorem grown_below {W W' : World} (h : Below W.heap.size W W') (row : Option Nat) : W.grownBy W' row := ⟨h.os, h.tape, h.output, h.size, fun k hk _ => h.block k hk⟩
theorem grown_set2 (W : World) (r : Nat) (u v : Value) : W.grownBy ((W.setCell ⟨r, 0, none⟩ u).setCell ⟨r, 1, none⟩ v) (some r) :=
  have h := ((Below.refl 0 W).setCell (p := ⟨r, 0, none⟩) (Nat.zero_le _) u).setCell (p := ⟨r, 1, none⟩) (Nat.zero_le _) v
  ⟨h.os, h.tape, h.output, h.size, fun k _ hne => by
    have hk : k ≠ r := fun e => hne (by rw [e])
    rw [Below.heap_setCell _ _ _ _ hk, Below.heap_setCell _ _ _ _ hk]⟩
theorem isC1 {W : World} {b : Nat} {x : Cn} (h0 : W.cell? ⟨b, 0, none⟩ = some (.int .i64 x.1)) (h1 : W.cell? ⟨b, 1, none⟩ = some (.int .i64 x.2)) : IsC W (some ⟨b, 0, none⟩) 1 [x] :=
  ⟨rfl, by omega, fun _ => ⟨b, 0, rfl, fun i hi => by
    obtain rfl : i = 0 := by simpa using hi
    exact ⟨h0, h1⟩⟩⟩
theorem isC2 {W : World} {b : Nat} {x y : Cn} (h0 : W.cell? ⟨b, 0, none⟩ = some (.int .i64 x.1)) (h1 : W.cell? ⟨b, 1, none⟩ = some (.int .i64 x.2)) (h2 : W.cell? ⟨b, 2, none⟩ = some (.int .i64 y.1)) (h3 : W.cell? ⟨b, 3, none⟩ = some (.int .i64 y.2)) : IsC W (some ⟨b, 0, none⟩) 2 [x, y] :=
  ⟨rfl, by omega, fun _ => ⟨b, 0, rfl, fun i hi => by
    have hi' : i < 2 := by simpa using hi
    match i, hi', hi with
    | 0, _, _ => exact ⟨h0, h1⟩
    | 1, _, _ => exact ⟨h2, h3⟩⟩⟩
end Go.Proofs.YtmmakkaolknbaaaGreatDoor
