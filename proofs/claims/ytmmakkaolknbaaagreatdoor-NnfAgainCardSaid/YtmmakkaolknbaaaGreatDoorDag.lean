/- A region whose order is open, some of whose operations write each into a block of its own; 'late' lists pairs (i, j): j comes behind i in every order. -/
import Derived.Test.YtmmakkaolknbaaaGreatDoorSt
namespace Go.Proofs.YtmmakkaolknbaaaGreatDoor
set_option linter.unusedVariables false
set_option linter.unusedSimpArgs false
open Go.RowKit

/-- Each pair of 'late' follows from the region's edges. -/
def lateOk (ops : Array Oper) (late : List (Nat × Nat)) : Bool := late.all fun p => match ops[p.2]? with
  | some o => o.after.any fun e => Region.binds .any e && (e.on == p.1 || late.contains (p.1, e.on))
  | none => false
def DownC (ops : Array Oper) (m : Nat) (L : Nat → Bool) : Prop := ∀ j, j < m → L j = true → ∀ o, ops[j]? = some o → ∀ e ∈ o.after, Region.binds .any e = true → L e.on = true
theorem late_down {ops : Array Oper} {late : List (Nat × Nat)} {m : Nat} {L : Nat → Bool} (hB : lateOk ops late = true) (hback : ∀ i o, ops[i]? = some o → ∀ e ∈ o.after, Region.binds .any e = true → e.on < i) (hD : DownC ops m L) :
    ∀ j, j < m → ∀ i, (i, j) ∈ late → L j = true → L i = true := by
  intro j
  induction j using Nat.strongRecOn with | ind j ih
  intro hj i hij hL
  have h1 := List.all_eq_true.1 hB (i, j) hij
  simp only at h1
  split at h1
  · rename_i o ho
    obtain ⟨e, he, hb⟩ := Array.any_eq_true'.1 h1
    simp only [Bool.and_eq_true, Bool.or_eq_true, beq_iff_eq] at hb
    have hlt := hback j o ho e he hb.1
    have hLe := hD j hj hL o ho e he hb.1
    rcases hb.2 with e1 | e1
    · rw [← e1]; exact hLe
    · exact ih e.on hlt (by omega) i (by simpa using e1) hLe
  · cases h1

/-- The blocks that others write, but for those of operations that are shut out. -/
def oth2 (st : List (Nat × Nat)) (bad : Nat → Bool) (i : Nat) : List Nat := (st.filter fun x => x.1 != i && !bad x.1).map Prod.snd
theorem ownB_oth2 {st : List (Nat × Nat)} {bad : Nat → Bool} {i j b : Nat} (h : ownB st j = some b) (hne : j ≠ i) (hb : bad j = false) : b ∈ oth2 st bad i :=
  List.mem_map.2 ⟨(j, b), List.mem_filter.2 ⟨ownB_mem h, by simp [hne, hb]⟩, rfl⟩
abbrev befB (late : List (Nat × Nat)) (i : Nat) : Nat → Bool := fun j => late.contains (i, j)
abbrev aftB (late : List (Nat × Nat)) (i : Nat) : Nat → Bool := fun j => late.contains (j, i)

def StabD (st late : List (Nat × Nat)) (i : Nat) (V : Value → World → Prop) : Prop := ∀ v W W' row, (∀ b, row = some b → b ∈ oth2 st (aftB late i) i) → V v W → W.grownBy W' row → V v W'
def StabDL (st late : List (Nat × Nat)) : Nat → List (Value → World → Prop) → Prop
  | _, [] => True
  | i, V :: l => StabD st late i V ∧ StabDL st late (i + 1) l
theorem stabDL_at (st late : List (Nat × Nat)) : ∀ (Vs : List (Value → World → Prop)) (k : Nat), StabDL st late k Vs → ∀ i, StabD st late (k + i) (atV Vs i)
  | [], _, _, i => fun _ _ _ _ _ _ _ => by simp [atV]
  | V :: l, k, h, 0 => by simpa [atV] using h.1
  | V :: l, k, h, i + 1 => by
    have := stabDL_at st late l (k + 1) h.2 i
    rw [show k + (i + 1) = k + 1 + i by omega]
    simpa [atV] using this
theorem stabD_eq (st late : List (Nat × Nat)) (i : Nat) (c : Value) : StabD st late i (fun v _ => v = c) := fun _ _ _ _ _ h _ => h
/-- Stable when memory grows, and nobody else writes what it speaks of. -/
theorem stabD_of {st late : List (Nat × Nat)} {i : Nat} {V : Value → World → Prop} (h : Stable V) (hs : oth2 st (aftB late i) i = []) : StabD st late i V := by
  intro v W W' row hr hv hg
  refine h v W W' hv ⟨hg.os, hg.tape, hg.output, hg.size, fun k hk => hg.block k hk fun e => ?_⟩
  have := hr k e.symm
  rw [hs] at this
  cases this

def dagSteps (P : Program) (ops : Array Oper) (st late : List (Nat × Nat)) (w : World) (V : Nat → Value → World → Prop) : Nat → List Oper → ((Nat → Value) → Act) → Prop
  | _, [], _ => True
  | i, o :: l, fr => (∀ vals W, Gr (oth2 st (befB late i) i) w W → (∀ e ∈ o.after, Region.binds .any e = true → V e.on (vals e.on) W) →
      wpList P ops (invPost (fun v W' => W.grownBy W' (ownB st i) ∧ V i v W') o (fr vals)) [o] (fr vals) W) ∧
      dagSteps P ops st late w V (i + 1) l (fun vals => (fr vals).put o.dst (vals i))
theorem dag_cons {P : Program} {ops : Array Oper} {st late : List (Nat × Nat)} {w : World} {V : Nat → Value → World → Prop} {i : Nat} {o : Oper} {l : List Oper} {fr : (Nat → Value) → Act}
    (h : ∀ vals W, Gr (oth2 st (befB late i) i) w W → (∀ e ∈ o.after, Region.binds .any e = true → V e.on (vals e.on) W) →
      wpList P ops (invPost (fun v W' => W.grownBy W' (ownB st i) ∧ V i v W') o (fr vals)) [o] (fr vals) W)
    (h' : dagSteps P ops st late w V (i + 1) l (fun vals => (fr vals).put o.dst (vals i))) : dagSteps P ops st late w V i (o :: l) fr := ⟨h, h'⟩
theorem dag_nil {P : Program} {ops : Array Oper} {st late : List (Nat × Nat)} {w : World} {V : Nat → Value → World → Prop} {i : Nat} {fr : (Nat → Value) → Act} : dagSteps P ops st late w V i [] fr := trivial

def dagJ (ops : Array Oper) (st : List (Nat × Nat)) (w : World) (V : Nat → Value → World → Prop) (m : Nat) (L : Nat → Bool) (vals : Nat → Value) (W : World) : Prop :=
  stJ st w V m L vals W ∧ DownC ops m L

theorem dag_inv {P : Program} {ops : Array Oper} {st late : List (Nat × Nat)} {w : World} {Vs : List (Value → World → Prop)} (hV : StabDL st late 0 Vs) (m : Nat) (hB : lateOk ops late = true) (hst : ∀ x ∈ st, x.1 < m)
    (hback : ∀ i o, ops[i]? = some o → ∀ e ∈ o.after, Region.binds .any e = true → e.on < i) : ∀ (l : List Oper) (i : Nat) (fr : (Nat → Value) → Act), i + l.length ≤ m → (∀ j, j < l.length → l[j]? = ops[i + j]?) →
    dagSteps P ops st late w (atV Vs) i l fr → invSteps P ops (dagJ ops st w (atV Vs) m) i l fr
  | [], _, _, _, _, _ => trivial
  | o :: l, i, fr, hm, hl, hs => by
    simp only [List.length_cons] at hm
    have ho : ops[i]? = some o := by simpa using (hl 0 (by simp)).symm
    refine ⟨fun L vals W hL hedge hJ => ?_, dag_inv hV m hB hst hback l (i + 1) _ (by omega) (fun j hj => by have := hl (j + 1) (by simp; omega); simpa [Nat.add_assoc, Nat.add_comm 1 j] using this) hs.2⟩
    obtain ⟨⟨⟨j1, j2, j3, j4⟩, j5, j6⟩, hD⟩ := hJ
    have hLm : ∀ j, L j = true → j < m → (i, j) ∉ late := fun j hj hjm hmem => by
      have := late_down hB hback hD j hjm i hmem hj
      rw [hL] at this
      cases this
    refine invPost_mono ?_ (hs.1 vals W ⟨j1, j2, j3, j4, fun k hk hno => j5 k hk fun j hj hb => hno (ownB_oth2 hb (fun e => by subst e; rw [hL] at hj; cases hj) (by
        have := hLm j hj (hst _ (ownB_mem hb))
        simpa [befB] using this))⟩ fun e hee hb => j6 e.on (by have := hback i o ho e hee hb; omega) (hedge e hee hb))
    rintro v W' ⟨hg, hv⟩
    show dagJ ops st w (atV Vs) m (fun j => if j = i then true else L j) (fun j => if j = i then v else vals j) W'
    refine ⟨⟨⟨hg.os.trans j1, hg.tape.trans j2, hg.output.trans j3, Nat.le_trans j4 hg.size⟩, fun k hk hno => ?_, fun j hj hLj => ?_⟩, fun j hj hLj o' ho' e he hb => ?_⟩
    · refine (hg.block k (by omega) (fun e => hno i (by simp) e.symm)).trans (j5 k hk fun j hj => hno j ?_)
      simp only [hj, ite_self]
    · by_cases e : j = i
      · subst e; simpa using hv
      · simp only [e, if_false] at hLj ⊢
        have := stabDL_at st late Vs 0 hV j
        rw [Nat.zero_add] at this
        exact this _ W W' _ (fun b hb => ownB_oth2 hb (Ne.symm e) (by
          have := hLm j hLj hj
          simpa [aftB] using this)) (j6 j hj hLj) hg
    · by_cases e1 : e.on = i
      · simp [e1]
      · simp only [e1, if_false]
        by_cases e2 : j = i
        · subst e2
          have : o' = o := Option.some.inj (ho'.symm.trans ho)
          subst this
          exact hedge e he hb
        · simp only [e2, if_false] at hLj
          exact hD j hj hLj o' ho' e he hb

/-- **The law**: m: how many come in any order; the rest behind them. -/
theorem wp_region_dag {P : Program} {id : Nat} {Q : Exit → Act → World → Prop} {a : Act} {w : World} {l : List Oper} (m : Nat) (st late : List (Nat × Nat)) (hm : P.follows .mixedOrders = true) (hB : monoB l.toArray m = true) (hL : lateOk l.toArray late = true)
    (hst : ∀ x ∈ st, x.1 < m)
    (Vs : List (Value → World → Prop)) (hV : StabDL st late 0 Vs) (hs : dagSteps P l.toArray st late w (atV Vs) 0 (l.take m) (fun _ => a))
    (hend : ∀ vals W, Gr (st.map Prod.snd) w W → (∀ i, i < m → atV Vs i (vals i) W) → wpList P l.toArray Q (l.drop m) (lexL vals 0 (l.take m) a) W) :
    (Code.region id l.toArray true).wp P Q a w := by
  have hok := monoB_ok hB
  have hml : m ≤ l.length := by simpa using hok.le
  refine wp_region_inv m (dagJ l.toArray st w (atV Vs) m) hm hB (fun L vals hL => ⟨⟨⟨rfl, rfl, rfl, Nat.le_refl _⟩, fun _ _ _ => rfl, fun i hi hLi => by rw [hL i (by omega)] at hLi; cases hLi⟩, fun j hj hLj => by rw [hL j (by omega)] at hLj; cases hLj⟩)
    (dag_inv hV m hL hst hok.back _ 0 _ (by simp; omega) (fun j hj => by
      have hj' : j < m := by simp at hj; omega
      rw [List.getElem?_take_of_lt hj']
      simp) hs) (fun L vals W hL hJ => hend vals W ⟨hJ.1.1.1, hJ.1.1.2.1, hJ.1.1.2.2.1, hJ.1.1.2.2.2, fun k hk hno => hJ.1.2.1 k hk fun j hj hb => hno (List.mem_map.2 ⟨(j, k), ownB_mem hb, rfl⟩)⟩ fun i hi => hJ.1.2.2 i hi (hL i hi))
end Go.Proofs.YtmmakkaolknbaaaGreatDoor
