/- A region whose order is open, some of whose operations write each into a block of its own. -/
import Derived.Test.YtmmakkaolknbaaaGreatDoorReg
import Derived.Laws.AppendOwn
namespace Go.Proofs.YtmmakkaolknbaaaGreatDoor
set_option linter.unusedVariables false
set_option linter.unusedSimpArgs false
open Go.RowKit

/-- The block that an operation writes: 'st' lists them. -/
def ownB (st : List (Nat × Nat)) (i : Nat) : Option Nat := (st.find? fun x => x.1 == i).map Prod.snd
/-- The blocks that the others write. -/
def others (st : List (Nat × Nat)) (i : Nat) : List Nat := (st.filter fun x => x.1 != i).map Prod.snd
theorem ownB_mem {st : List (Nat × Nat)} {j b : Nat} (h : ownB st j = some b) : (j, b) ∈ st := by
  unfold ownB at h
  rw [Option.map_eq_some_iff] at h
  obtain ⟨x, hx, rfl⟩ := h
  have h1 := List.find?_some hx
  have h2 := List.mem_of_find?_eq_some hx
  simp only [beq_iff_eq] at h1
  subst h1
  exact h2
theorem ownB_others {st : List (Nat × Nat)} {i j b : Nat} (h : ownB st j = some b) (hne : j ≠ i) : b ∈ others st i :=
  List.mem_map.2 ⟨(j, b), List.mem_filter.2 ⟨ownB_mem h, by simpa using hne⟩, rfl⟩

/-- W has grown out of w, but for blocks of S. -/
structure Gr (S : List Nat) (w W : World) : Prop where
  os : W.os = w.os
  tape : W.tape = w.tape
  output : W.output = w.output
  size : w.heap.size ≤ W.heap.size
  block : ∀ k, k < w.heap.size → k ∉ S → W.heap[k]? = w.heap[k]?
theorem Gr.cell {S : List Nat} {w W : World} (h : Gr S w W) {p : Addr} (hp : p.block < w.heap.size) (hS : p.block ∉ S) : W.cell? p = w.cell? p := World.cell?_of_block (w := w) (h.block p.block hp hS)
theorem Gr.frozen {S : List Nat} {w W : World} (h : Gr S w W) {p : Addr} (hp : p.block < w.heap.size) (hS : p.block ∉ S) : W.frozen? p = w.frozen? p := World.frozen?_of_block (w := w) (h.block p.block hp hS)
theorem Gr.below {S : List Nat} {w0 w W : World} {B : Nat} (h : Gr S w W) (hb : Below B w0 w) (hS : ∀ k ∈ S, B ≤ k) (hB : B ≤ w.heap.size) : Below B w0 W :=
  ⟨h.os.trans hb.os, h.tape.trans hb.tape, h.output.trans hb.output, Nat.le_trans hb.size h.size, fun k hk => (h.block k (by omega) (fun hm => by have := hS k hm; omega)).trans (hb.block k hk)⟩

/-- Does not turn when memory grows, or when others write. -/
def StabAt (st : List (Nat × Nat)) (i : Nat) (V : Value → World → Prop) : Prop := ∀ v W W' row, (∀ b, row = some b → b ∈ others st i) → V v W → W.grownBy W' row → V v W'
def StabL (st : List (Nat × Nat)) : Nat → List (Value → World → Prop) → Prop
  | _, [] => True
  | i, V :: l => StabAt st i V ∧ StabL st (i + 1) l
theorem stabL_at (st : List (Nat × Nat)) : ∀ (Vs : List (Value → World → Prop)) (k : Nat), StabL st k Vs → ∀ i, StabAt st (k + i) (atV Vs i)
  | [], _, _, i => fun _ _ _ _ _ _ _ => by simp [atV]
  | V :: l, k, h, 0 => by simpa [atV] using h.1
  | V :: l, k, h, i + 1 => by
    have := stabL_at st l (k + 1) h.2 i
    rw [show k + (i + 1) = k + 1 + i by omega]
    simpa [atV] using this
theorem stabAt_eq (st : List (Nat × Nat)) (i : Nat) (c : Value) : StabAt st i (fun v _ => v = c) := fun _ _ _ _ _ h _ => h

def stSteps (P : Program) (ops : Array Oper) (st : List (Nat × Nat)) (w : World) (V : Nat → Value → World → Prop) : Nat → List Oper → ((Nat → Value) → Act) → Prop
  | _, [], _ => True
  | i, o :: l, fr => (∀ vals W, Gr (others st i) w W → (∀ e ∈ o.after, Region.binds .any e = true → V e.on (vals e.on) W) →
      wpList P ops (invPost (fun v W' => W.grownBy W' (ownB st i) ∧ V i v W') o (fr vals)) [o] (fr vals) W) ∧
      stSteps P ops st w V (i + 1) l (fun vals => (fr vals).put o.dst (vals i))
theorem st_cons {P : Program} {ops : Array Oper} {st : List (Nat × Nat)} {w : World} {V : Nat → Value → World → Prop} {i : Nat} {o : Oper} {l : List Oper} {fr : (Nat → Value) → Act}
    (h : ∀ vals W, Gr (others st i) w W → (∀ e ∈ o.after, Region.binds .any e = true → V e.on (vals e.on) W) →
      wpList P ops (invPost (fun v W' => W.grownBy W' (ownB st i) ∧ V i v W') o (fr vals)) [o] (fr vals) W)
    (h' : stSteps P ops st w V (i + 1) l (fun vals => (fr vals).put o.dst (vals i))) : stSteps P ops st w V i (o :: l) fr := ⟨h, h'⟩
theorem st_nil {P : Program} {ops : Array Oper} {st : List (Nat × Nat)} {w : World} {V : Nat → Value → World → Prop} {i : Nat} {fr : (Nat → Value) → Act} : stSteps P ops st w V i [] fr := trivial

/-- What the invariant law is asked with. -/
def stJ (st : List (Nat × Nat)) (w : World) (V : Nat → Value → World → Prop) (m : Nat) (L : Nat → Bool) (vals : Nat → Value) (W : World) : Prop :=
  (W.os = w.os ∧ W.tape = w.tape ∧ W.output = w.output ∧ w.heap.size ≤ W.heap.size) ∧ (∀ k, k < w.heap.size → (∀ j, L j = true → ownB st j ≠ some k) → W.heap[k]? = w.heap[k]?) ∧ ∀ i, i < m → L i = true → V i (vals i) W

theorem wp_imp {P : Program} {o : Oper} {a : Act} {w : World} {K K' : Act → World → Prop} {Q Q' : Exit → Act → World → Prop} (h : ∀ a w, K a w → K' a w) (hQ : ∀ e a w, Q e a w → Q' e a w)
    (hh : o.wp P a w K Q) : o.wp P a w K' Q' := by
  unfold Oper.wp at *
  generalize (execOp a.eval o).run P w = r at *
  cases r with
  | ok n w' =>
    cases n <;> simp only [Oper.upon] at hh ⊢ <;>
      first
        | exact h _ _ hh
        | exact Calls.mono hh (fun e w'' he => by cases e <;> first | exact h _ _ he | exact hQ _ _ _ he | exact ⟨_, _, hQ _ _ _ he.choose_spec.choose_spec⟩)
        | exact Rows.mono hh (fun _ _ he => h _ _ he)
        | exact hQ _ _ _ hh
        | exact hh
  | halt x w' => cases x <;> simp only [Oper.upon] at hh ⊢ <;> first | exact hQ _ _ _ hh | exact hh
theorem invPost_mono {P : Program} {ops : Array Oper} {N N' : Value → World → Prop} {o : Oper} {a : Act} {W : World} (hN : ∀ v W', N v W' → N' v W') (h : wpList P ops (invPost N o a) [o] a W) : wpList P ops (invPost N' o a) [o] a W := by
  have hm : ∀ ex a' W', invPost N o a ex a' W' → invPost N' o a ex a' W' := fun ex a' W' ⟨e, v, h1, h2⟩ => ⟨e, v, h1, hN v W' h2⟩
  simp only [wpList] at h ⊢
  split
  · rename_i hw
    rw [if_pos hw] at h
    rcases h with h | ⟨h1, a', w', h2⟩
    · exact .inl (wp_imp (fun a w h => hm _ _ _ h) hm h)
    · exact absurd h2.1 (by simp)
  · rename_i hw
    rw [if_neg hw] at h
    exact hm _ _ _ h

theorem st_inv {P : Program} {ops : Array Oper} {st : List (Nat × Nat)} {w : World} {Vs : List (Value → World → Prop)} (hV : StabL st 0 Vs) (m : Nat) : ∀ (l : List Oper) (i : Nat) (fr : (Nat → Value) → Act), i + l.length ≤ m →
    (∀ j, j < l.length → ∀ o, l[j]? = some o → ∀ e ∈ o.after, Region.binds .any e = true → e.on < m) →
    stSteps P ops st w (atV Vs) i l fr → invSteps P ops (stJ st w (atV Vs) m) i l fr
  | [], _, _, _, _, _ => trivial
  | o :: l, i, fr, hm, he, hs => by
    simp only [List.length_cons] at hm
    refine ⟨fun L vals W hL hedge hJ => ?_, st_inv hV m l (i + 1) _ (by omega) (fun j hj o' ho' => he (j + 1) (by simp; omega) o' (by simpa using ho')) hs.2⟩
    obtain ⟨⟨j1, j2, j3, j4⟩, j5, j6⟩ := hJ
    refine invPost_mono ?_ (hs.1 vals W ⟨j1, j2, j3, j4, fun k hk hno => j5 k hk fun j hj hb => hno (ownB_others hb fun e => by subst e; rw [hL] at hj; cases hj)⟩ fun e hee hb => j6 e.on (he 0 (by simp) o rfl e hee hb) (hedge e hee hb))
    rintro v W' ⟨hg, hv⟩
    show stJ st w (atV Vs) m (fun j => if j = i then true else L j) (fun j => if j = i then v else vals j) W'
    refine ⟨⟨hg.os.trans j1, hg.tape.trans j2, hg.output.trans j3, Nat.le_trans j4 hg.size⟩, fun k hk hno => ?_, fun j hj hLj => ?_⟩
    · refine (hg.block k (by omega) (fun e => hno i (by simp) e.symm)).trans (j5 k hk fun j hj => hno j ?_)
      simp only [hj, ite_self]
    · by_cases e : j = i
      · subst e; simpa using hv
      · simp only [e, if_false] at hLj ⊢
        have := stabL_at st Vs 0 hV j
        rw [Nat.zero_add] at this
        exact this _ W W' _ (fun b hb => ownB_others hb (Ne.symm e)) (j6 j hj hLj) hg

/-- **The law**: m: how many come in any order; the rest behind them. -/
theorem wp_region_st {P : Program} {id : Nat} {Q : Exit → Act → World → Prop} {a : Act} {w : World} {l : List Oper} (m : Nat) (st : List (Nat × Nat)) (hm : P.follows .mixedOrders = true) (hB : monoB l.toArray m = true)
    (Vs : List (Value → World → Prop)) (hV : StabL st 0 Vs) (hs : stSteps P l.toArray st w (atV Vs) 0 (l.take m) (fun _ => a))
    (hend : ∀ vals W, Gr (st.map Prod.snd) w W → (∀ i, i < m → atV Vs i (vals i) W) → wpList P l.toArray Q (l.drop m) (lexL vals 0 (l.take m) a) W) :
    (Code.region id l.toArray true).wp P Q a w := by
  have hok := monoB_ok hB
  have hml : m ≤ l.length := by simpa using hok.le
  refine wp_region_inv m (stJ st w (atV Vs) m) hm hB (fun L vals hL => ⟨⟨rfl, rfl, rfl, Nat.le_refl _⟩, fun _ _ _ => rfl, fun i hi hLi => by rw [hL i (by omega)] at hLi; cases hLi⟩)
    (st_inv hV m _ 0 _ (by simp; omega) (fun j hj o ho e he hb => ?_) hs) (fun L vals W hL hJ => hend vals W ⟨hJ.1.1, hJ.1.2.1, hJ.1.2.2.1, hJ.1.2.2.2, fun k hk hno => hJ.2.1 k hk fun j hj hb => hno (List.mem_map.2 ⟨(j, k), ownB_mem hb, rfl⟩)⟩ fun i hi => hJ.2.2 i hi (hL i hi))
  have hj' : j < m := by simp at hj; omega
  have ho' : l.toArray[j]? = some o := by
    rw [List.getElem?_take_of_lt hj'] at ho
    simpa using ho
  have := hok.back j o ho' e he hb
  omega
end Go.Proofs.YtmmakkaolknbaaaGreatDoor
