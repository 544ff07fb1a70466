/- Plain laws of N and D: twice, their names, their counts. -/
import Derived.Test.YtmmakkaolknbaaaGreatDoorPlB
namespace Go.Proofs.YtmmakkaolknbaaaGreatDoor
set_option linter.unusedVariables false
set_option linter.unusedSimpArgs false
open Go.Lib

/-! N and D: what they are, twice, their sizes. -/
mutual
/-- Is it in negation normal form? -/
def Fm.isN : Fm → Bool
  | .mk op _ ks => if op = 4 then decide ((Fm.mk op nil8 ks).k0.op = 3) else if op = 7 ∨ op = 8 ∨ op = 10 ∨ op = 11 ∨ op = 14 ∨ op = 15 then false else Fm.isNL ks
def Fm.isNL : List Fm → Bool
  | [] => true
  | k :: ks => k.isN && Fm.isNL ks
end
mutual
/-- Does a <-> stand in it? -/
def Fm.iffs : Fm → Bool
  | .mk op _ ks => decide (op = 8) || Fm.iffsL ks
def Fm.iffsL : List Fm → Bool
  | [] => false
  | k :: ks => k.iffs || Fm.iffsL ks
end
/-- The kinds of a node. -/
theorem wf_cases {P : Fm → Prop} (h0 : ∀ op nm, (op = 1 ∨ op = 2 ∨ op = 3) → P (.mk op nm []))
    (h1 : ∀ op nm f, (op = 4 ∨ op = 9 ∨ op = 10 ∨ op = 11) → f.Wf → P f → P (.mk op nm [f]))
    (h2 : ∀ op nm f g, (op = 5 ∨ op = 6 ∨ op = 7 ∨ op = 8 ∨ op = 12 ∨ op = 13 ∨ op = 14 ∨ op = 15) → f.Wf → g.Wf → P f → P g → P (.mk op nm [f, g])) (f : Fm) (h : f.Wf) : P f := by
  induction f using Fm.ind_ with | h o n ks ih
  by_cases e : ks.isEmpty = true
  · obtain rfl : ks = [] := by simpa using e
    have a := h.op_
    have b := h.len
    simp only [Fm.op_mk, Fm.ks_mk] at a b
    refine h0 o n ?_
    have hc : o = 1 ∨ o = 2 ∨ o = 3 ∨ o = 4 ∨ o = 5 ∨ o = 6 ∨ o = 7 ∨ o = 8 ∨ o = 9 ∨ o = 10 ∨ o = 11 ∨ o = 12 ∨ o = 13 ∨ o = 14 ∨ o = 15 := by omega
    rcases hc with rfl | rfl | rfl | rfl | rfl | rfl | rfl | rfl | rfl | rfl | rfl | rfl | rfl | rfl | rfl <;> first | omega | (simp [kidsOf, kidsTab] at b)
  · rcases wf_one h (by simpa using e) with ⟨ho, f, rfl⟩ | ⟨ho, f, g, rfl⟩
    · exact h1 o n f ho (h.kid f (by simp)) (ih f (by simp) (h.kid f (by simp)))
    · exact h2 o n f g ho (h.kid f (by simp)) (h.kid g (by simp)) (ih f (by simp) (h.kid f (by simp))) (ih g (by simp) (h.kid g (by simp)))

/-- N and D, row by row. -/
theorem nf_rows (nm : ByteArray) (f g : Fm) :
    ((Fm.mk 4 nm [f]).nf false = f.nf true ∧ (Fm.mk 4 nm [f]).nf true = f.nf false) ∧
    ((Fm.mk 9 nm [f]).nf false = .mk 9 nil8 [f.nf false] ∧ (Fm.mk 9 nm [f]).nf true = .mk 9 nil8 [f.nf true]) ∧
    ((Fm.mk 10 nm [f]).nf false = two 12 T1 (f.nf false) ∧ (Fm.mk 10 nm [f]).nf true = two 13 F1 (f.nf true)) ∧
    ((Fm.mk 11 nm [f]).nf false = two 13 F1 (f.nf false) ∧ (Fm.mk 11 nm [f]).nf true = two 12 T1 (f.nf true)) ∧
    ((Fm.mk 5 nm [f, g]).nf false = two 5 (f.nf false) (g.nf false) ∧ (Fm.mk 5 nm [f, g]).nf true = two 6 (f.nf true) (g.nf true)) ∧
    ((Fm.mk 6 nm [f, g]).nf false = two 6 (f.nf false) (g.nf false) ∧ (Fm.mk 6 nm [f, g]).nf true = two 5 (f.nf true) (g.nf true)) ∧
    ((Fm.mk 7 nm [f, g]).nf false = two 6 (f.nf true) (g.nf false) ∧ (Fm.mk 7 nm [f, g]).nf true = two 5 (f.nf false) (g.nf true)) ∧
    ((Fm.mk 8 nm [f, g]).nf false = two 6 (two 5 (f.nf false) (g.nf false)) (two 5 (f.nf true) (g.nf true)) ∧ (Fm.mk 8 nm [f, g]).nf true = two 6 (two 5 (f.nf false) (g.nf true)) (two 5 (f.nf true) (g.nf false))) ∧
    ((Fm.mk 12 nm [f, g]).nf false = two 12 (f.nf false) (g.nf false) ∧ (Fm.mk 12 nm [f, g]).nf true = two 13 (f.nf true) (g.nf true)) ∧
    ((Fm.mk 13 nm [f, g]).nf false = two 13 (f.nf false) (g.nf false) ∧ (Fm.mk 13 nm [f, g]).nf true = two 12 (f.nf true) (g.nf true)) ∧
    ((Fm.mk 14 nm [f, g]).nf false = two 13 (g.nf false) (two 6 (f.nf false) (g.nf false)) ∧ (Fm.mk 14 nm [f, g]).nf true = two 12 (g.nf true) (two 5 (f.nf true) (g.nf true))) ∧
    ((Fm.mk 15 nm [f, g]).nf false = two 12 (g.nf false) (two 5 (f.nf false) (g.nf false)) ∧ (Fm.mk 15 nm [f, g]).nf true = two 13 (g.nf true) (two 6 (f.nf true) (g.nf true))) := by
  refine ⟨?_, ?_, ?_, ?_, ?_, ?_, ?_, ?_, ?_, ?_, ?_, ?_⟩ <;> (constructor <;> first | (rw [nf_one _ _ _ (by omega)]; simp [nfOp]) | (rw [nf_two _ _ _ (by omega)]; simp [nfOp]))
theorem nf4 (nm : ByteArray) (f : Fm) (d : Bool) : (Fm.mk 4 nm [f]).nf d = f.nf (!d) := by cases d <;> simp [nf_rows nm f f]
theorem nf9 (nm : ByteArray) (f : Fm) (d : Bool) : (Fm.mk 9 nm [f]).nf d = .mk 9 nil8 [f.nf d] := by cases d <;> simp [nf_rows nm f f]
theorem nf10 (nm : ByteArray) (f : Fm) (d : Bool) : (Fm.mk 10 nm [f]).nf d = if d = true then two 13 F1 (f.nf d) else two 12 T1 (f.nf d) := by cases d <;> simp [nf_rows nm f f]
theorem nf11 (nm : ByteArray) (f : Fm) (d : Bool) : (Fm.mk 11 nm [f]).nf d = if d = true then two 12 T1 (f.nf d) else two 13 F1 (f.nf d) := by cases d <;> simp [nf_rows nm f f]
theorem nf5 (nm : ByteArray) (f g : Fm) (d : Bool) : (Fm.mk 5 nm [f, g]).nf d = if d = true then two 6 (f.nf d) (g.nf d) else two 5 (f.nf d) (g.nf d) := by cases d <;> simp [nf_rows nm f g]
theorem nf6 (nm : ByteArray) (f g : Fm) (d : Bool) : (Fm.mk 6 nm [f, g]).nf d = if d = true then two 5 (f.nf d) (g.nf d) else two 6 (f.nf d) (g.nf d) := by cases d <;> simp [nf_rows nm f g]
theorem nf7 (nm : ByteArray) (f g : Fm) (d : Bool) : (Fm.mk 7 nm [f, g]).nf d = if d = true then two 5 (f.nf (!d)) (g.nf d) else two 6 (f.nf (!d)) (g.nf d) := by cases d <;> simp [nf_rows nm f g]
theorem nf8 (nm : ByteArray) (f g : Fm) (d : Bool) : (Fm.mk 8 nm [f, g]).nf d = two 6 (two 5 (f.nf false) (g.nf d)) (two 5 (f.nf true) (g.nf (!d))) := by cases d <;> simp [nf_rows nm f g]
theorem nf12 (nm : ByteArray) (f g : Fm) (d : Bool) : (Fm.mk 12 nm [f, g]).nf d = if d = true then two 13 (f.nf d) (g.nf d) else two 12 (f.nf d) (g.nf d) := by cases d <;> simp [nf_rows nm f g]
theorem nf13 (nm : ByteArray) (f g : Fm) (d : Bool) : (Fm.mk 13 nm [f, g]).nf d = if d = true then two 12 (f.nf d) (g.nf d) else two 13 (f.nf d) (g.nf d) := by cases d <;> simp [nf_rows nm f g]
theorem nf14 (nm : ByteArray) (f g : Fm) (d : Bool) : (Fm.mk 14 nm [f, g]).nf d = if d = true then two 12 (g.nf d) (two 5 (f.nf d) (g.nf d)) else two 13 (g.nf d) (two 6 (f.nf d) (g.nf d)) := by cases d <;> simp [nf_rows nm f g]
theorem nf15 (nm : ByteArray) (f g : Fm) (d : Bool) : (Fm.mk 15 nm [f, g]).nf d = if d = true then two 13 (g.nf d) (two 6 (f.nf d) (g.nf d)) else two 12 (g.nf d) (two 5 (f.nf d) (g.nf d)) := by cases d <;> simp [nf_rows nm f g]

theorem isN_leaf (op : Int) (nm : ByteArray) (h : op = 1 ∨ op = 2 ∨ op = 3) : (Fm.mk op nm []).isN = true := by
  rcases h with rfl | rfl | rfl <;> simp [Fm.isN, Fm.isNL]
theorem isN_neg (nm : ByteArray) : (neg1 (.mk 3 nm [])).isN = true := by simp [neg1, Fm.isN, Fm.k0]
theorem isN_9 (nm : ByteArray) (f : Fm) : (Fm.mk 9 nm [f]).isN = f.isN := by simp [Fm.isN, Fm.isNL]
theorem isN_two (q : Int) (h : q = 5 ∨ q = 6 ∨ q = 12 ∨ q = 13) (f g : Fm) : (two q f g).isN = (f.isN && g.isN) := by
  rcases h with rfl | rfl | rfl | rfl <;> simp [two, Fm.isN, Fm.isNL]
theorem nf_isN (f : Fm) (h : f.Wf) : ∀ d, (f.nf d).isN = true := by
  refine wf_cases (P := fun f => ∀ d, (f.nf d).isN = true) ?_ ?_ ?_ f h
  · intro op nm ho d
    rw [nf_leaf op nm d (by omega)]
    unfold nfLeaf
    split
    · decide
    split
    · decide
    split
    · exact isN_neg nm
    · exact isN_leaf op nm ho
  · intro op nm f ho _ ih d
    rcases ho with rfl | rfl | rfl | rfl
    · rw [nf4]; exact ih _
    · rw [nf9, isN_9]; exact ih _
    · rw [nf10]; split <;> rw [isN_two _ (by omega), ih] <;> rfl
    · rw [nf11]; split <;> rw [isN_two _ (by omega), ih] <;> rfl
  · intro op nm f g ho _ _ ih ih' d
    rcases ho with rfl | rfl | rfl | rfl | rfl | rfl | rfl | rfl
    · rw [nf5]; split <;> rw [isN_two _ (by omega), ih, ih'] <;> rfl
    · rw [nf6]; split <;> rw [isN_two _ (by omega), ih, ih'] <;> rfl
    · rw [nf7]; split <;> rw [isN_two _ (by omega), ih, ih'] <;> rfl
    · rw [nf8, isN_two _ (by omega), isN_two _ (by omega), isN_two _ (by omega), ih, ih', ih, ih']; rfl
    · rw [nf12]; split <;> rw [isN_two _ (by omega), ih, ih'] <;> rfl
    · rw [nf13]; split <;> rw [isN_two _ (by omega), ih, ih'] <;> rfl
    · rw [nf14]; split <;> rw [isN_two _ (by omega), isN_two _ (by omega), ih, ih'] <;> rfl
    · rw [nf15]; split <;> rw [isN_two _ (by omega), isN_two _ (by omega), ih, ih'] <;> rfl

theorem clNf {P : Fm → Prop} (c : Cl P) (hl : ∀ op nm, P (.mk op nm []) → ∀ d, P (nfLeaf op nm d)) (f : Fm) (h : f.Wf) (hk : ∀ op nm ks, P (.mk op nm ks) → ∀ k ∈ ks, P k) (hP : P f) : ∀ d, P (f.nf d) := by
  refine (wf_cases (P := fun f => P f → ∀ d, P (f.nf d)) ?_ ?_ ?_ f h) hP
  · intro op nm ho hP d
    rw [nf_leaf op nm d (by omega)]
    exact hl op nm hP d
  · intro op nm f ho _ ih hP d
    have i1 := ih (hk op nm [f] hP f (by simp))
    rcases ho with rfl | rfl | rfl | rfl
    · rw [nf4]; exact i1 _
    · rw [nf9]; exact c.one 9 _ (by omega) (i1 _)
    · rw [nf10]; split
      · exact c.two 13 _ _ (by omega) c.f (i1 _)
      · exact c.two 12 _ _ (by omega) c.t (i1 _)
    · rw [nf11]; split
      · exact c.two 12 _ _ (by omega) c.t (i1 _)
      · exact c.two 13 _ _ (by omega) c.f (i1 _)
  · intro op nm f g ho _ _ ih ih' hP d
    have i1 := ih (hk op nm [f, g] hP f (by simp))
    have i2 := ih' (hk op nm [f, g] hP g (by simp))
    rcases ho with rfl | rfl | rfl | rfl | rfl | rfl | rfl | rfl
    · rw [nf5]; split <;> exact c.two _ _ _ (by omega) (i1 _) (i2 _)
    · rw [nf6]; split <;> exact c.two _ _ _ (by omega) (i1 _) (i2 _)
    · rw [nf7]; split <;> exact c.two _ _ _ (by omega) (i1 _) (i2 _)
    · rw [nf8]; exact c.two _ _ _ (by omega) (c.two _ _ _ (by omega) (i1 _) (i2 _)) (c.two _ _ _ (by omega) (i1 _) (i2 _))
    · rw [nf12]; split <;> exact c.two _ _ _ (by omega) (i1 _) (i2 _)
    · rw [nf13]; split <;> exact c.two _ _ _ (by omega) (i1 _) (i2 _)
    · rw [nf14]; split <;> exact c.two _ _ _ (by omega) (i2 _) (c.two _ _ _ (by omega) (i1 _) (i2 _))
    · rw [nf15]; split <;> exact c.two _ _ _ (by omega) (i2 _) (c.two _ _ _ (by omega) (i1 _) (i2 _))

theorem nf_formed (f : Fm) (hn : f.Nn) (h : f.formed futureB = true) (d : Bool) : (f.nf d).formed futureB = true := by
  refine clNf clFormed ?_ f (formed_wf f hn h) (fun op nm ks h k hk => (formed_parts h).2.2.2.2.2.2 k hk) h d
  intro op nm h d
  unfold nfLeaf
  split
  · decide
  split
  · decide
  split
  · rename_i e
    exact clFormed.one 4 _ (.inl rfl) (by rw [e.1] at h; exact h)
  · exact h
theorem clNn : Cl Fm.Nn where
  t := .mk_ _ _ _ (by omega) (by simp)
  f := .mk_ _ _ _ (by omega) (by simp)
  k0 := fun a _ h => by
    cases h with | mk_ o n ks h hk =>
    unfold Fm.k0
    cases ks with
    | nil => exact .mk_ _ _ _ (by omega) (by simp)
    | cons x l => exact hk x (by simp)
  one := fun q a hq h => .mk_ _ _ _ (by omega) (by simpa using h)
  two := fun q a b hq h h' => .mk_ _ _ _ (by omega) (by simpa using ⟨h, h'⟩)
theorem nf_nn (f : Fm) (hn : f.Nn) (h : f.Wf) (d : Bool) : (f.nf d).Nn := by
  refine clNf clNn ?_ f h (fun op nm ks h k hk => by cases h with | mk_ _ _ _ _ hk' => exact hk' k hk) hn d
  intro op nm h d
  unfold nfLeaf
  split
  · exact clNn.f
  split
  · exact clNn.t
  split
  · exact clNn.one 4 _ (.inl rfl) (.mk_ _ _ _ (by omega) (by simp))
  · exact h
theorem simple_nn (f : Fm) (hn : f.Nn) : f.simple.Nn := by
  induction f using Fm.ind_ with | h o n ks ih
  cases hn with | mk_ _ _ _ h0 hk =>
  unfold Fm.simple
  split
  · exact .mk_ _ _ _ h0 (by simp)
  · rw [simpleL_map]
    have h := all_head (P := Fm.Nn) clNn.t (l := ks.map Fm.simple) fun k hk' => by
      obtain ⟨x, hx, rfl⟩ := List.mem_map.1 hk'
      exact ih x hx (hk x hx)
    exact clNn.rule h.1 h.2

/-! The names of N are those of the tree. -/
theorem nf_nms_sub (f : Fm) (h : f.Wf) (d : Bool) : ∀ s ∈ (f.nf d).nms, s ∈ f.nms := by
  have : ∀ N : ByteArray → Prop, (∀ s ∈ f.nms, N s) → ∀ s ∈ (f.nf d).nms, N s := by
    intro N hN
    refine clNf (clNms N) ?_ f h (fun op nm ks h k hk s hs => h s (by simp only [Fm.nms, List.mem_append]; exact .inr (nmsL_mem hk hs))) hN d
    intro op nm h d
    unfold nfLeaf
    split
    · exact (clNms N).f
    split
    · exact (clNms N).t
    split
    · rename_i e
      exact (clNms N).one 4 _ (.inl rfl) (by rw [e.1] at h; exact h)
    · exact h
  exact this _ fun s hs => hs
theorem nms_nf (f : Fm) (h : f.Wf) : ∀ d, ∀ s ∈ f.nms, s ∈ (f.nf d).nms := by
  refine wf_cases (P := fun f => ∀ d, ∀ s ∈ f.nms, s ∈ (f.nf d).nms) ?_ ?_ ?_ f h
  · intro op nm ho d s hs
    rw [nf_leaf op nm d (by omega)]
    have h3 : op = 3 := by
      by_cases e : op = 3
      · exact e
      · simp [Fm.nms, Fm.nmsL, e] at hs
    subst h3
    unfold nfLeaf
    rw [if_neg (by omega), if_neg (by omega)]
    split
    · unfold neg1; rw [nms1 _ _ _ (by omega)]; exact hs
    · exact hs
  · intro op nm f ho _ ih d s hs
    rw [nms1 _ _ _ (by omega)] at hs
    have i1 := fun d => ih d s hs
    rcases ho with rfl | rfl | rfl | rfl
    · rw [nf4]; exact i1 _
    · rw [nf9, nms1 _ _ _ (by omega)]; exact i1 _
    · rw [nf10]; split <;> (rw [nms2 _ _ _ (by omega)]; exact List.mem_append_right _ (i1 _))
    · rw [nf11]; split <;> (rw [nms2 _ _ _ (by omega)]; exact List.mem_append_right _ (i1 _))
  · intro op nm f g ho _ _ ih ih' d s hs
    have hs' : s ∈ f.nms ∨ s ∈ g.nms := by
      have e : (Fm.mk op nm [f, g]).nms = f.nms ++ g.nms := by
        simp [Fm.nms, Fm.nmsL, show op ≠ 3 by omega]
      rw [e, List.mem_append] at hs; exact hs
    have i1 : ∀ d, s ∈ (f.nf d).nms ∨ s ∈ (g.nf d).nms := fun d => hs'.elim (fun h => .inl (ih d s h)) (fun h => .inr (ih' d s h))
    have i2 : ∀ d, s ∈ (f.nf d).nms ∨ s ∈ (g.nf (!d)).nms := fun d => hs'.elim (fun h => .inl (ih d s h)) (fun h => .inr (ih' _ s h))
    rcases ho with rfl | rfl | rfl | rfl | rfl | rfl | rfl | rfl
    · rw [nf5]; split <;> (rw [nms2 _ _ _ (by omega), List.mem_append]; exact i1 _)
    · rw [nf6]; split <;> (rw [nms2 _ _ _ (by omega), List.mem_append]; exact i1 _)
    · rw [nf7]; have := i2 (!d); rw [Bool.not_not] at this; split <;> (rw [nms2 _ _ _ (by omega), List.mem_append]; exact this)
    · rw [nf8, nms2 _ _ _ (by omega), nms2 _ _ _ (by omega), List.mem_append, List.mem_append]
      exact .inl (hs'.elim (fun h => .inl (ih _ s h)) (fun h => .inr (ih' _ s h)))
    · rw [nf12]; split <;> (rw [nms2 _ _ _ (by omega), List.mem_append]; exact i1 _)
    · rw [nf13]; split <;> (rw [nms2 _ _ _ (by omega), List.mem_append]; exact i1 _)
    · rw [nf14]; split <;> (rw [nms2 _ _ _ (by omega), List.mem_append, nms2 _ _ _ (by omega), List.mem_append]; exact .inr (i1 _))
    · rw [nf15]; split <;> (rw [nms2 _ _ _ (by omega), List.mem_append, nms2 _ _ _ (by omega), List.mem_append]; exact .inr (i1 _))

/-! A form of a form. -/
theorem two_kids {q : Int} {nm : ByteArray} {f g : Fm} (h : (Fm.mk q nm [f, g]).formed futureB = true) (hq : q ≠ 3) : nm = nil8 ∧ f.formed futureB = true ∧ g.formed futureB = true := by
  have h' := formed_parts h
  exact ⟨h'.2.2.2.2.2.1 hq, h'.2.2.2.2.2.2 f (by simp), h'.2.2.2.2.2.2 g (by simp)⟩
theorem one_kid {q : Int} {nm : ByteArray} {f : Fm} (h : (Fm.mk q nm [f]).formed futureB = true) (hq : q ≠ 3) : nm = nil8 ∧ f.formed futureB = true := by
  have h' := formed_parts h
  exact ⟨h'.2.2.2.2.2.1 hq, h'.2.2.2.2.2.2 f (by simp)⟩
theorem isN_nf (f : Fm) (h : f.Wf) : f.formed futureB = true → f.isN = true → f.nf false = f := by
  refine wf_cases (P := fun f => f.formed futureB = true → f.isN = true → f.nf false = f) ?_ ?_ ?_ f h
  · intro op nm ho _ _
    rw [nf_leaf op nm false (by omega)]
    simp [nfLeaf]
  · intro op nm f ho hw ih hf hi
    obtain ⟨rfl, hf'⟩ := one_kid hf (by omega)
    rcases ho with rfl | rfl | rfl | rfl
    · have e : f.op = 3 := by simpa [Fm.isN, Fm.k0] using hi
      rw [nf4]
      cases f with | mk o n ks =>
      simp only [Fm.op_mk] at e
      subst e
      have hl := hw.len
      obtain rfl : ks = [] := List.eq_nil_of_length_eq_zero (by simpa [kidsOf, kidsTab] using hl)
      rw [nf_leaf 3 n _ (by omega)]
      simp [nfLeaf, neg1]
    · rw [isN_9] at hi
      rw [nf9, ih hf' hi]
    · simp [Fm.isN] at hi
    · simp [Fm.isN] at hi
  · intro op nm f g ho _ _ ih ih' hf hi
    obtain ⟨rfl, hf1, hf2⟩ := two_kids hf (by omega)
    rcases ho with rfl | rfl | rfl | rfl | rfl | rfl | rfl | rfl
    · have := (isN_two 5 (by omega) f g).symm.trans hi
      rw [Bool.and_eq_true] at this
      rw [nf5, ih hf1 this.1, ih' hf2 this.2]; rfl
    · have := (isN_two 6 (by omega) f g).symm.trans hi
      rw [Bool.and_eq_true] at this
      rw [nf6, ih hf1 this.1, ih' hf2 this.2]; rfl
    · simp [Fm.isN] at hi
    · simp [Fm.isN] at hi
    · have := (isN_two 12 (by omega) f g).symm.trans hi
      rw [Bool.and_eq_true] at this
      rw [nf12, ih hf1 this.1, ih' hf2 this.2]; rfl
    · have := (isN_two 13 (by omega) f g).symm.trans hi
      rw [Bool.and_eq_true] at this
      rw [nf13, ih hf1 this.1, ih' hf2 this.2]; rfl
    · simp [Fm.isN] at hi
    · simp [Fm.isN] at hi
theorem isN_iff (f : Fm) (hn : f.Nn) (h : f.formed futureB = true) : f.isN = decide (f.cmp (f.nf false) = 0) := by
  have hw := formed_wf f hn h
  rw [Bool.eq_iff_iff, decide_eq_true_iff]
  constructor
  · intro hi; rw [isN_nf f hw h hi]; exact Fm.cmp_self f
  · intro hc
    have := Fm.cmp_zero hc
    have h2 := nf_isN f hw false
    rwa [← this] at h2
/-- D of N, of D (without <->). -/
theorem nfT (d : Bool) : T1.nf d = if d = true then F1 else T1 := by cases d <;> rfl
theorem nfF (d : Bool) : F1.nf d = if d = true then T1 else F1 := by cases d <;> rfl
theorem iffs1 (q : Int) (nm : ByteArray) (f : Fm) (h : (Fm.mk q nm [f]).iffs = false) : f.iffs = false := by
  simp [Fm.iffs, Fm.iffsL] at h; exact h.2
theorem iffs2 (q : Int) (nm : ByteArray) (f g : Fm) (h : (Fm.mk q nm [f, g]).iffs = false) : q ≠ 8 ∧ f.iffs = false ∧ g.iffs = false := by
  simp [Fm.iffs, Fm.iffsL] at h; exact h
theorem nf_turn (f : Fm) (h : f.Wf) : f.formed futureB = true → f.iffs = false → ∀ d, (f.nf d).nf true = f.nf (!d) := by
  refine wf_cases (P := fun f => f.formed futureB = true → f.iffs = false → ∀ d, (f.nf d).nf true = f.nf (!d)) ?_ ?_ ?_ f h
  · intro op nm ho hf _ d
    have hnm := (formed_parts hf).2.2.2.2.2.1
    simp only [Fm.op_mk, Fm.nm_mk] at hnm
    rw [nf_leaf op nm d (by omega), nf_leaf op nm (!d) (by omega)]
    rcases ho with rfl | rfl | rfl
    · obtain rfl := hnm (by omega)
      cases d <;> rfl
    · obtain rfl := hnm (by omega)
      cases d <;> rfl
    · cases d
      · simp only [nfLeaf, Bool.false_eq_true, and_false, if_false]; rw [nf_leaf _ _ _ (by omega)]; simp [nfLeaf]
      · simp only [nfLeaf, show ¬ ((3 : Int) = 1) by omega, show ¬ ((3 : Int) = 2) by omega, false_and, if_false, true_and, if_true, neg1, nf4]; rw [nf_leaf _ _ _ (by omega)]; simp [nfLeaf]
  · intro op nm f ho _ ih hf hi d
    have i1 := ih (one_kid hf (by omega)).2 (iffs1 op nm f hi)
    rcases ho with rfl | rfl | rfl | rfl
    · rw [nf4, nf4, i1]
    · rw [nf9, nf9, nf9, i1]
    · rw [nf10, nf10]; cases d
      · simp only [Bool.not_false, if_true, Bool.false_eq_true, if_false]; unfold two; rw [nf12, i1, nfT]; rfl
      · simp only [Bool.not_true, if_true, Bool.false_eq_true, if_false]; unfold two; rw [nf13, i1, nfF]; rfl
    · rw [nf11, nf11]; cases d
      · simp only [Bool.not_false, if_true, Bool.false_eq_true, if_false]; unfold two; rw [nf13, i1, nfF]; rfl
      · simp only [Bool.not_true, if_true, Bool.false_eq_true, if_false]; unfold two; rw [nf12, i1, nfT]; rfl
  · intro op nm f g ho _ _ ih ih' hf hi d
    obtain ⟨_, hf1, hf2⟩ := two_kids hf (by omega)
    obtain ⟨h8, hi1, hi2⟩ := iffs2 op nm f g hi
    have i1 := ih hf1 hi1
    have i2 := ih' hf2 hi2
    rcases ho with rfl | rfl | rfl | rfl | rfl | rfl | rfl | rfl
    · rw [nf5, nf5]; cases d <;> simp only [Bool.not_false, Bool.not_true, if_true, Bool.false_eq_true, if_false, two, nf5, nf6, i1, i2]
    · rw [nf6, nf6]; cases d <;> simp only [Bool.not_false, Bool.not_true, if_true, Bool.false_eq_true, if_false, two, nf5, nf6, i1, i2]
    · rw [nf7, nf7]; cases d <;> simp only [Bool.not_false, Bool.not_true, if_true, Bool.false_eq_true, if_false, two, nf5, nf6, i1, i2]
    · exact absurd rfl h8
    · rw [nf12, nf12]; cases d <;> simp only [Bool.not_false, Bool.not_true, if_true, Bool.false_eq_true, if_false, two, nf12, nf13, i1, i2]
    · rw [nf13, nf13]; cases d <;> simp only [Bool.not_false, Bool.not_true, if_true, Bool.false_eq_true, if_false, two, nf12, nf13, i1, i2]
    · rw [nf14, nf14]; cases d <;> simp only [Bool.not_false, Bool.not_true, if_true, Bool.false_eq_true, if_false, two, nf12, nf13, nf5, nf6, i1, i2]
    · rw [nf15, nf15]; cases d <;> simp only [Bool.not_false, Bool.not_true, if_true, Bool.false_eq_true, if_false, two, nf12, nf13, nf5, nf6, i1, i2]

/-! The counts are the forms' own. -/
def cz (f : Fm) : Cn := (min f.size 1048576, min f.depth 1048576)
theorem jn_one (q : Int) (n : ByteArray) (f : Fm) : jn [cz f] = cz (.mk q n [f]) := by
  simp only [jn, jn0, List.foldl, jn1, cz, size1, depth1, Prod.mk.injEq]; omega
theorem jn_two (q : Int) (f g : Fm) : jn [cz f, cz g] = cz (two q f g) := by
  simp only [jn, jn0, List.foldl, jn1, cz, size2, depth2, Prod.mk.injEq]; omega
theorem cz_leaf (op : Int) (nm : ByteArray) : cz (.mk op nm []) = oneC := by simp [cz, Fm.size, Fm.sizeL, Fm.depth, Fm.depthL]
theorem cnt_one (op : Int) (nm : ByteArray) (f : Fm) : (Fm.mk op nm [f]).cnt = cntOp op f.cnt.1 (0, 0) f.cnt.2 (0, 0) := rfl
theorem cnt_two (op : Int) (nm : ByteArray) (f g : Fm) : (Fm.mk op nm [f, g]).cnt = cntOp op f.cnt.1 g.cnt.1 f.cnt.2 g.cnt.2 := rfl
theorem cnt_nf (f : Fm) (h : f.Wf) : f.cnt = (cz (f.nf false), cz (f.nf true)) := by
  refine wf_cases (P := fun f => f.cnt = (cz (f.nf false), cz (f.nf true))) ?_ ?_ ?_ f h
  · intro op nm ho
    rw [nf_leaf op nm false (by omega), nf_leaf op nm true (by omega)]
    rcases ho with rfl | rfl | rfl
    · simp [Fm.cnt, cntO, cntOp, nfLeaf, cz_leaf]
    · simp [Fm.cnt, cntO, cntOp, nfLeaf, cz_leaf]
    · have := jn_one 4 nil8 (.mk 3 nm [])
      rw [cz_leaf] at this
      simp [Fm.cnt, cntO, cntOp, nfLeaf, cz_leaf, neg1, this]
  · intro op nm f ho _ ih
    have eT : cz T1 = oneC := cz_leaf _ _
    have eF : cz F1 = oneC := cz_leaf _ _
    rw [cnt_one, ih]
    rcases ho with rfl | rfl | rfl | rfl
    · rw [nf4, nf4]; simp [cntOp]
    · rw [nf9, nf9, ← jn_one, ← jn_one]; simp [cntOp]
    · rw [nf10, nf10]; simp only [Bool.false_eq_true, if_false, if_true]; rw [← jn_two, ← jn_two, eT, eF]; simp [cntOp]
    · rw [nf11, nf11]; simp only [Bool.false_eq_true, if_false, if_true]; rw [← jn_two, ← jn_two, eT, eF]; simp [cntOp]
  · intro op nm f g ho _ _ ih ih'
    rw [cnt_two, ih, ih']
    rcases ho with rfl | rfl | rfl | rfl | rfl | rfl | rfl | rfl
    · rw [nf5, nf5]; simp only [Bool.false_eq_true, if_false, if_true]; rw [← jn_two, ← jn_two]; simp [cntOp]
    · rw [nf6, nf6]; simp only [Bool.false_eq_true, if_false, if_true]; rw [← jn_two, ← jn_two]; simp [cntOp]
    · rw [nf7, nf7]; simp only [Bool.not_false, Bool.not_true, Bool.false_eq_true, if_false, if_true]; rw [← jn_two, ← jn_two]; simp [cntOp]
    · rw [nf8, nf8]; simp only [Bool.not_false, Bool.not_true]; rw [← jn_two, ← jn_two, ← jn_two, ← jn_two, ← jn_two, ← jn_two]; simp [cntOp]
    · rw [nf12, nf12]; simp only [Bool.false_eq_true, if_false, if_true]; rw [← jn_two, ← jn_two]; simp [cntOp]
    · rw [nf13, nf13]; simp only [Bool.false_eq_true, if_false, if_true]; rw [← jn_two, ← jn_two]; simp [cntOp]
    · rw [nf14, nf14]; simp only [Bool.false_eq_true, if_false, if_true]; rw [← jn_two, ← jn_two, ← jn_two, ← jn_two]; simp [cntOp]
    · rw [nf15, nf15]; simp only [Bool.false_eq_true, if_false, if_true]; rw [← jn_two, ← jn_two, ← jn_two, ← jn_two]; simp [cntOp]
/-- What nnf's made says first. -/
def Fm.madeE (d : Bool) (f : Fm) : Int :=
  if f.rightE futureB = 0 then (let c := if d = true then f.cnt.2 else f.cnt.1; if 1000 < c.1 ∨ 100 < c.2 then 31 else 0) else 70
theorem madeE_eq (d : Bool) (f : Fm) (hn : f.Nn) (h : f.rightE futureB = 0) : f.madeE d = if 1000 < (f.nf d).size ∨ 100 < (f.nf d).depth then 31 else 0 := by
  have hw := formed_wf f hn (rightE_ok h).1
  unfold Fm.madeE
  rw [if_pos h, cnt_nf f hw]
  cases d <;> simp only [cz, Bool.false_eq_true, if_false, if_true] <;> (congr 1; exact propext ⟨fun h => by omega, fun h => by omega⟩)
theorem made_right (d : Bool) (f : Fm) (hn : f.Nn) (h : f.rightE futureB = 0) (hm : f.madeE d = 0) : (f.nf d).rightE futureB = 0 := by
  rw [madeE_eq d f hn h] at hm
  have hm' : ¬ (1000 < (f.nf d).size ∨ 100 < (f.nf d).depth) := by
    intro e; rw [if_pos e] at hm; omega
  unfold Fm.rightE
  rw [if_pos (nf_formed f hn (rightE_ok h).1 d), if_neg (by simp [Fm.big]; omega)]
theorem madeE_or (d : Bool) (f : Fm) (hn : f.Nn) (h : f.rightE futureB = 0) : f.madeE d = 0 ∨ f.madeE d = 31 := by
  rw [madeE_eq d f hn h]; split <;> omega
end Go.Proofs.YtmmakkaolknbaaaGreatDoor
