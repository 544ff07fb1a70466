/- How a tree lies in memory: 'IsTX X W op nm a n c f': the value whose three fields are op, nm and the slice of n (capacity c) at a reads as the tree f in the world W, all its lists in blocks of X. -/
import Derived.Test.YtmmakkaolknbaaaGreatDoorFm
import Derived.Below
import Derived.Deep.Draws
import Derived.Lib.Hide
namespace Go.Proofs.YtmmakkaolknbaaaGreatDoor
set_option linter.unusedVariables false
set_option linter.unusedSimpArgs false
open Go.RowKit

/-- The value of a tree. -/
abbrev fv (op : Int) (nm : ByteArray) (a : Option Addr) (n c : Nat) : Value := .agg #[.int .u8 op, .string nm, .slice a n c]

inductive IsTX (X : Nat → Prop) (W : World) : Int → ByteArray → Option Addr → Nat → Nat → Fm → Prop
  | leaf (op : Int) (nm : ByteArray) (a : Option Addr) (c : Nat) (h0 : 0 ≤ op) (h1 : op ≤ 255) (h2 : nm.size ≤ 9223372036854775807) (h3 : c ≤ 9223372036854775807) : IsTX X W op nm a 0 c (.mk op nm [])
  | node (op : Int) (nm : ByteArray) (b o c : Nat) (ks : List Fm) (op' : Nat → Int) (nm' : Nat → ByteArray) (a' : Nat → Option Addr) (n' c' : Nat → Nat)
      (h0 : 0 ≤ op) (h1 : op ≤ 255) (h2 : nm.size ≤ 9223372036854775807) (h3 : c ≤ 9223372036854775807) (h4 : ks.length ≤ c) (h5 : 0 < ks.length) (hb : X b)
      (hc : ∀ i, i < ks.length → W.cell? ⟨b, o + i * 3, none⟩ = some (.int .u8 (op' i)) ∧ W.cell? ⟨b, o + i * 3 + 1, none⟩ = some (.string (nm' i)) ∧ W.cell? ⟨b, o + i * 3 + 2, none⟩ = some (.slice (a' i) (n' i) (c' i)))
      (hk : ∀ (i : Nat) (h : i < ks.length), IsTX X W (op' i) (nm' i) (a' i) (n' i) (c' i) ks[i]) : IsTX X W op nm (some ⟨b, o, none⟩) ks.length c (.mk op nm ks)
/-- Wherever it lies. -/
abbrev AnyB : Nat → Prop := fun _ => True
abbrev IsT (W : World) := IsTX AnyB W

/-- The rows of a list of trees. -/
def IsLX (X : Nat → Prop) (W : World) (b o : Nat) (ks : List Fm) : Prop :=
  ∀ (i : Nat) (h : i < ks.length), ∃ op nm a n c, W.cell? ⟨b, o + i * 3, none⟩ = some (.int .u8 op) ∧ W.cell? ⟨b, o + i * 3 + 1, none⟩ = some (.string nm) ∧ W.cell? ⟨b, o + i * 3 + 2, none⟩ = some (.slice a n c) ∧ IsTX X W op nm a n c ks[i]
abbrev IsL (W : World) := IsLX AnyB W

theorem IsTX.cases_ {X : Nat → Prop} {W : World} {op : Int} {nm : ByteArray} {a : Option Addr} {n c : Nat} {f : Fm} (h : IsTX X W op nm a n c f) :
    0 ≤ op ∧ op ≤ 255 ∧ nm.size ≤ 9223372036854775807 ∧ c ≤ 9223372036854775807 ∧ n ≤ c ∧ ∃ ks, f = .mk op nm ks ∧ n = ks.length ∧ (ks = [] ∨ ∃ b o, a = some ⟨b, o, none⟩ ∧ 0 < ks.length ∧ X b ∧ IsLX X W b o ks) := by
  cases h with
  | leaf _ _ _ _ h0 h1 h2 h3 => exact ⟨h0, h1, h2, h3, Nat.zero_le _, [], rfl, rfl, .inl rfl⟩
  | node _ _ b o _ ks op' nm' a' n' c' h0 h1 h2 h3 h4 h5 hb hc hk =>
    exact ⟨h0, h1, h2, h3, h4, ks, rfl, rfl, .inr ⟨b, o, rfl, h5, hb, fun i hi => ⟨op' i, nm' i, a' i, n' i, c' i, (hc i hi).1, (hc i hi).2.1, (hc i hi).2.2, hk i hi⟩⟩⟩

theorem IsTX.mk_ {X : Nat → Prop} {W : World} {op : Int} {nm : ByteArray} {b o c : Nat} {ks : List Fm} (h0 : 0 ≤ op) (h1 : op ≤ 255) (h2 : nm.size ≤ 9223372036854775807) (h3 : c ≤ 9223372036854775807) (h4 : ks.length ≤ c) (h5 : 0 < ks.length) (hb : X b) (h : IsLX X W b o ks) :
    IsTX X W op nm (some ⟨b, o, none⟩) ks.length c (.mk op nm ks) := by
  have h' : ∀ i, ∃ op nm a n c, ∀ (hi : i < ks.length), W.cell? ⟨b, o + i * 3, none⟩ = some (.int .u8 op) ∧ W.cell? ⟨b, o + i * 3 + 1, none⟩ = some (.string nm) ∧ W.cell? ⟨b, o + i * 3 + 2, none⟩ = some (.slice a n c) ∧ IsTX X W op nm a n c ks[i] := by
    intro i
    by_cases hi : i < ks.length
    · obtain ⟨op, nm, a, n, c, q⟩ := h i hi
      exact ⟨op, nm, a, n, c, fun _ => q⟩
    · exact ⟨0, nm, none, 0, 0, fun h => absurd h hi⟩
  let op' := fun i => Classical.choose (h' i)
  have q1 := fun i => Classical.choose_spec (h' i)
  let nm' := fun i => Classical.choose (q1 i)
  have q2 := fun i => Classical.choose_spec (q1 i)
  let a' := fun i => Classical.choose (q2 i)
  have q3 := fun i => Classical.choose_spec (q2 i)
  let n' := fun i => Classical.choose (q3 i)
  have q4 := fun i => Classical.choose_spec (q3 i)
  let c' := fun i => Classical.choose (q4 i)
  have q5 := fun i => Classical.choose_spec (q4 i)
  exact .node op nm b o c ks op' nm' a' n' c' h0 h1 h2 h3 h4 h5 hb (fun i hi => ⟨(q5 i hi).1, (q5 i hi).2.1, (q5 i hi).2.2.1⟩) (fun i hi => (q5 i hi).2.2.2)

theorem cell_below {w w1 : World} (h : Below w.heap.size w w1) {a : Addr} {v : Value} (hc : w.cell? a = some v) : w1.cell? a = some v := (h.cell (World.block_lt_of_cell? w a hc)).trans hc
theorem frozen_below {w w1 : World} (h : Below w.heap.size w w1) {a : Addr} {v : Value} (hc : w.cell? a = some v) {x : Bool} (hf : w.frozen? a = x) : w1.frozen? a = x := (h.frozen (World.block_lt_of_cell? w a hc)).trans hf

/-- What lies in blocks of X lies there still when no block of X has turned. -/
theorem IsTX.move {X : Nat → Prop} {w w1 : World} (hb : ∀ b, X b → b < w.heap.size → w1.heap[b]? = w.heap[b]?) {op : Int} {nm : ByteArray} {a : Option Addr} {n c : Nat} {f : Fm} (h : IsTX X w op nm a n c f) : IsTX X w1 op nm a n c f := by
  induction h with
  | leaf op nm a c h0 h1 h2 h3 => exact .leaf op nm a c h0 h1 h2 h3
  | node op nm b o c ks op' nm' a' n' c' h0 h1 h2 h3 h4 h5 hX hc hk ih =>
    have hlt : b < w.heap.size := World.block_lt_of_cell? w ⟨b, o + 0 * 3, none⟩ (hc 0 h5).1
    have hcell : ∀ o', w1.cell? ⟨b, o', none⟩ = w.cell? ⟨b, o', none⟩ := fun o' => World.cell?_of_block (w := w) (hb b hX hlt)
    exact .node op nm b o c ks op' nm' a' n' c' h0 h1 h2 h3 h4 h5 hX (fun i hi => ⟨(hcell _).trans (hc i hi).1, (hcell _).trans (hc i hi).2.1, (hcell _).trans (hc i hi).2.2⟩) (fun i hi => ih i hi)
theorem IsTX.mono {X Y : Nat → Prop} {w : World} (hXY : ∀ b, X b → b < w.heap.size → Y b) {op : Int} {nm : ByteArray} {a : Option Addr} {n c : Nat} {f : Fm} (h : IsTX X w op nm a n c f) : IsTX Y w op nm a n c f := by
  induction h with
  | leaf op nm a c h0 h1 h2 h3 => exact .leaf op nm a c h0 h1 h2 h3
  | node op nm b o c ks op' nm' a' n' c' h0 h1 h2 h3 h4 h5 hX hc hk ih =>
    have hlt : b < w.heap.size := World.block_lt_of_cell? w ⟨b, o + 0 * 3, none⟩ (hc 0 h5).1
    exact .node op nm b o c ks op' nm' a' n' c' h0 h1 h2 h3 h4 h5 (hXY b hX hlt) hc (fun i hi => ih i hi)
theorem IsTX.any {X : Nat → Prop} {w : World} {op : Int} {nm : ByteArray} {a : Option Addr} {n c : Nat} {f : Fm} (h : IsTX X w op nm a n c f) : IsT w op nm a n c f := h.mono fun _ _ _ => trivial
/-- It lies below the heap's end. -/
theorem IsTX.old {X : Nat → Prop} {w : World} {op : Int} {nm : ByteArray} {a : Option Addr} {n c : Nat} {f : Fm} (h : IsTX X w op nm a n c f) : IsTX (fun b => X b ∧ b < w.heap.size) w op nm a n c f := h.mono fun _ h1 h2 => ⟨h1, h2⟩
theorem IsTX.keep {X : Nat → Prop} {w w1 : World} (hb : Below w.heap.size w w1) {op : Int} {nm : ByteArray} {a : Option Addr} {n c : Nat} {f : Fm} (h : IsTX X w op nm a n c f) : IsTX X w1 op nm a n c f := h.move fun b _ hlt => hb.block b hlt

theorem below_drewN {B : Nat} {a w : World} (h : Below B a w) (n : Nat) : Below B a (w.drewN n) := ⟨h.os, h.tape, h.output, h.size, h.block⟩
theorem below_to {w w1 w2 : World} (h : Below w.heap.size w w1) (k : Below w1.heap.size w1 w2) : Below w.heap.size w w2 := h.trans (k.mono h.size)
theorem below_alloc {w w1 : World} (h : Below w.heap.size w w1) (o : Obj) : Below w.heap.size w (w1.alloc o) := h.alloc h.size o
theorem ret_i {k : IntKind} {a b : Int} (h : a = b) : Ending.returned (.int k a) = .returned (.int k b) := by rw [h]
theorem ret_b {a b : Bool} (h : a = b) : Ending.returned (.bool a) = .returned (.bool b) := by rw [h]
/-- A fact that the walk's simp does not look into. -/
structure Aside (p : Prop) : Prop where mk :: (out : p)

/-- A slice that reads as a list of trees; nil too. -/
def IsSX (X : Nat → Prop) (W : World) (a : Option Addr) (n c : Nat) (ks : List Fm) : Prop :=
  n = ks.length ∧ n ≤ c ∧ c ≤ 9223372036854775807 ∧ (0 < n → ∃ b o, a = some ⟨b, o, none⟩ ∧ X b ∧ IsLX X W b o ks)
abbrev IsS (W : World) := IsSX AnyB W
theorem IsLX.move {X : Nat → Prop} {w w1 : World} (hb : ∀ b, X b → b < w.heap.size → w1.heap[b]? = w.heap[b]?) {b o : Nat} (hX : X b) {ks : List Fm} (h : IsLX X w b o ks) : IsLX X w1 b o ks := fun i hi => by
  obtain ⟨op, nm, a, n, c, h0, h1, h2, hk⟩ := h i hi
  have hlt : b < w.heap.size := World.block_lt_of_cell? w ⟨b, o + i * 3, none⟩ h0
  have hcell : ∀ o', w1.cell? ⟨b, o', none⟩ = w.cell? ⟨b, o', none⟩ := fun o' => World.cell?_of_block (w := w) (hb b hX hlt)
  exact ⟨op, nm, a, n, c, (hcell _).trans h0, (hcell _).trans h1, (hcell _).trans h2, hk.move hb⟩
theorem IsSX.move {X : Nat → Prop} {w w1 : World} (hb : ∀ b, X b → b < w.heap.size → w1.heap[b]? = w.heap[b]?) {a : Option Addr} {n c : Nat} {ks : List Fm} (h : IsSX X w a n c ks) : IsSX X w1 a n c ks :=
  ⟨h.1, h.2.1, h.2.2.1, fun h0 => by
    obtain ⟨b, o, e, hX, hL⟩ := h.2.2.2 h0
    exact ⟨b, o, e, hX, hL.move hb hX⟩⟩
theorem IsSX.keep {X : Nat → Prop} {w w1 : World} (hb : Below w.heap.size w w1) {a : Option Addr} {n c : Nat} {ks : List Fm} (h : IsSX X w a n c ks) : IsSX X w1 a n c ks := h.move fun b _ hlt => hb.block b hlt
theorem IsSX.mono {X Y : Nat → Prop} {w : World} (hXY : ∀ b, X b → b < w.heap.size → Y b) {a : Option Addr} {n c : Nat} {ks : List Fm} (h : IsSX X w a n c ks) : IsSX Y w a n c ks :=
  ⟨h.1, h.2.1, h.2.2.1, fun h0 => by
    obtain ⟨b, o, e, hX, hL⟩ := h.2.2.2 h0
    obtain ⟨op, nm, a', n', c', q0, _⟩ := hL 0 (by have := h.1; omega)
    refine ⟨b, o, e, hXY b hX (World.block_lt_of_cell? w ⟨b, o + 0 * 3, none⟩ q0), fun i hi => ?_⟩
    obtain ⟨op, nm, a, n, c, h0, h1, h2, hk⟩ := hL i hi
    exact ⟨op, nm, a, n, c, h0, h1, h2, hk.mono hXY⟩⟩
theorem IsSX.any {X : Nat → Prop} {w : World} {a : Option Addr} {n c : Nat} {ks : List Fm} (h : IsSX X w a n c ks) : IsS w a n c ks := h.mono fun _ _ _ => trivial
/-- A tree by its parts. -/
theorem IsTX.parts {X : Nat → Prop} {W : World} {op : Int} {nm : ByteArray} {a : Option Addr} {n c : Nat} {f : Fm} (h : IsTX X W op nm a n c f) :
    0 ≤ op ∧ op ≤ 255 ∧ nm.size ≤ 9223372036854775807 ∧ ∃ ks, f = .mk op nm ks ∧ IsSX X W a n c ks := by
  obtain ⟨h0, h1, h2, h3, h4, ks, e, hn, h5⟩ := h.cases_
  refine ⟨h0, h1, h2, ks, e, hn, h4, h3, fun hp => ?_⟩
  rcases h5 with h5 | ⟨b, o, e1, _, hX, hL⟩
  · subst h5; simp at hn; omega
  · exact ⟨b, o, e1, hX, hL⟩
theorem IsTX.of_parts {X : Nat → Prop} {W : World} {op : Int} {nm : ByteArray} {a : Option Addr} {n c : Nat} {ks : List Fm} (h0 : 0 ≤ op) (h1 : op ≤ 255) (h2 : nm.size ≤ 9223372036854775807) (h : IsSX X W a n c ks) : IsTX X W op nm a n c (.mk op nm ks) := by
  obtain ⟨hn, hc, h3, h4⟩ := h
  subst hn
  rcases Nat.eq_zero_or_pos ks.length with e | e
  · obtain rfl : ks = [] := List.eq_nil_of_length_eq_zero e
    exact .leaf op nm a c h0 h1 h2 h3
  · obtain ⟨b, o, rfl, hX, hL⟩ := h4 e
    exact .mk_ h0 h1 h2 h3 hc e hX hL
/-- x is the i-th of a list. -/
structure Ith (ks : List Fm) (i : Nat) (x : Fm) : Prop where
  lt : i < ks.length
  get : ks[i]? = some x
  mem : x ∈ ks
  drop : ks.drop i = x :: ks.drop (i + 1)
  take : ks.take (i + 1) = ks.take i ++ [x]
theorem ith_of {ks : List Fm} {i : Nat} (h : i < ks.length) : Ith ks i ks[i] :=
  ⟨h, List.getElem?_eq_getElem h, List.getElem_mem h, (List.getElem_cons_drop h).symm, List.take_succ_eq_append_getElem h⟩
/-- The i-th of a slice. -/
theorem IsSX.at_ {X : Nat → Prop} {W : World} {a : Option Addr} {n c : Nat} {ks : List Fm} (h : IsSX X W a n c ks) (i : Nat) (hi : i < n) :
    ∃ b o, a = some ⟨b, o, none⟩ ∧ b < W.heap.size ∧ ∃ x op nm a' n' c', Ith ks i x ∧ W.cell? ⟨b, o + i * 3, none⟩ = some (.int .u8 op) ∧ W.cell? ⟨b, o + i * 3 + 1, none⟩ = some (.string nm) ∧ W.cell? ⟨b, o + i * 3 + 2, none⟩ = some (.slice a' n' c') ∧ IsTX X W op nm a' n' c' x := by
  have hi' : i < ks.length := by have := h.1; omega
  obtain ⟨b, o, e, _, hL⟩ := h.2.2.2 (by omega)
  obtain ⟨op, nm, a', n', c', q⟩ := hL i hi'
  exact ⟨b, o, e, World.block_lt_of_cell? W ⟨b, o + i * 3, none⟩ q.1, ks[i], op, nm, a', n', c', ith_of hi', q⟩

/-- What a call that answers a tree owes: the tree, in blocks of X or new ones. -/
def RetX (X : Nat → Prop) (f : Fm) (w : World) (e : Ending) (w' : World) : Prop :=
  ∃ op nm a n c, e = .returned (fv op nm a n c) ∧ IsTX (fun b => X b ∨ w.heap.size ≤ b) w' op nm a n c f ∧ Below w.heap.size w w'

/-- New lists: of one tree, of two. -/
theorem isS1 {X : Nat → Prop} {W : World} {B : Nat} {o0 : Int} {n0 : ByteArray} {a0 : Option Addr} {l0 c0 : Nat} {f : Fm} (hB : X B) (x0 : W.cell? ⟨B, 0, none⟩ = some (.int .u8 o0)) (x1 : W.cell? ⟨B, 1, none⟩ = some (.string n0)) (x2 : W.cell? ⟨B, 2, none⟩ = some (.slice a0 l0 c0)) (h : IsTX X W o0 n0 a0 l0 c0 f) :
    IsSX X W (some ⟨B, 0, none⟩) 1 1 [f] :=
  ⟨rfl, Nat.le_refl _, by omega, fun _ => ⟨B, 0, rfl, hB, fun i hi => by
    obtain rfl : i = 0 := by simpa using hi
    exact ⟨o0, n0, a0, l0, c0, x0, x1, x2, h⟩⟩⟩
theorem isS2 {X : Nat → Prop} {W : World} {B : Nat} {o0 : Int} {n0 : ByteArray} {a0 : Option Addr} {l0 c0 : Nat} {f : Fm} {o1 : Int} {n1 : ByteArray} {a1 : Option Addr} {l1 c1 : Nat} {g : Fm} (hB : X B) (x0 : W.cell? ⟨B, 0, none⟩ = some (.int .u8 o0)) (x1 : W.cell? ⟨B, 1, none⟩ = some (.string n0)) (x2 : W.cell? ⟨B, 2, none⟩ = some (.slice a0 l0 c0))
    (y0 : W.cell? ⟨B, 3, none⟩ = some (.int .u8 o1)) (y1 : W.cell? ⟨B, 4, none⟩ = some (.string n1)) (y2 : W.cell? ⟨B, 5, none⟩ = some (.slice a1 l1 c1)) (h : IsTX X W o0 n0 a0 l0 c0 f) (h' : IsTX X W o1 n1 a1 l1 c1 g) :
    IsSX X W (some ⟨B, 0, none⟩) 2 2 [f, g] :=
  ⟨rfl, Nat.le_refl _, by omega, fun _ => ⟨B, 0, rfl, hB, fun i hi => by
    have hi' : i < 2 := by simpa using hi
    match i, hi', hi with
    | 0, _, _ => exact ⟨o0, n0, a0, l0, c0, x0, x1, x2, h⟩
    | 1, _, _ => exact ⟨o1, n1, a1, l1, c1, y0, y1, y2, h'⟩⟩⟩

/-- The three cells of a tree's box, written. -/
abbrev set3 (w : World) (r : Nat) (v0 v1 v2 : Value) : World := ((w.setCell ⟨r, 0, none⟩ v0).setCell ⟨r, 1, none⟩ v1).setCell ⟨r, 2, none⟩ v2
theorem set3_block (w : World) (r : Nat) (v0 v1 v2 : Value) (b : Nat) (h : b ≠ r) : (set3 w r v0 v1 v2).heap[b]? = w.heap[b]? := by
  unfold set3
  rw [Below.heap_setCell _ _ _ _ h, Below.heap_setCell _ _ _ _ h, Below.heap_setCell _ _ _ _ h]
theorem below_set3 {B : Nat} {w0 w : World} (h : Below B w0 w) {r : Nat} (hr : B ≤ r) (v0 v1 v2 : Value) : Below B w0 (set3 w r v0 v1 v2) :=
  ((h.setCell (p := ⟨r, 0, none⟩) hr v0).setCell (p := ⟨r, 1, none⟩) hr v1).setCell (p := ⟨r, 2, none⟩) hr v2
theorem IsTX.set3 {X : Nat → Prop} {w : World} {op : Int} {nm : ByteArray} {a : Option Addr} {n c : Nat} {f : Fm} (h : IsTX X w op nm a n c f) {r : Nat} (hr : ∀ b, X b → b ≠ r) (v0 v1 v2 : Value) : IsTX X (set3 w r v0 v1 v2) op nm a n c f :=
  h.move fun b hb _ => set3_block w r v0 v1 v2 b (hr b hb)
/-- A call's tree, stored into the caller's result r: 'W': the world of that call. -/
theorem RetX.stored {X : Nat → Prop} {f : Fm} {w W w2 : World} {op : Int} {nm : ByteArray} {a : Option Addr} {n c r : Nat} (h : IsTX (fun b => (X b ∧ b < w.heap.size) ∨ W.heap.size ≤ b) w2 op nm a n c f) (hb : Below w.heap.size w w2) (h1 : w.heap.size ≤ r) (h2 : r < W.heap.size) (v0 v1 v2 : Value) :
    RetX X f w (.returned (fv op nm a n c)) (World.setCell (World.setCell (World.setCell w2 ⟨r, 0, none⟩ v0) ⟨r, 1, none⟩ v1) ⟨r, 2, none⟩ v2) :=
  ⟨op, nm, a, n, c, rfl, (h.set3 (r := r) (fun b hb => by rcases hb with ⟨_, h⟩ | h <;> omega) v0 v1 v2).mono (fun b hb _ => by rcases hb with ⟨h, _⟩ | h; exact .inl h; exact .inr (by omega)), below_set3 hb h1 v0 v1 v2⟩

end Go.Proofs.YtmmakkaolknbaaaGreatDoor
