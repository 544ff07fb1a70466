/- Two trees and a result in boxes; what nnf's rules of two kids make, as plain functions. -/
import Derived.Test.YtmmakkaolknbaaaGreatDoorNnfB
namespace Go.Proofs.YtmmakkaolknbaaaGreatDoor
set_option linter.unusedVariables false
set_option linter.unusedSimpArgs false
open Go.RowKit Go.Shelf

/-- The boxes of two parameters and of the result, as they lie in a later world. -/
structure Env2 (w : World) (op : Int) (nm : ByteArray) (a : Option Addr) (n c : Nat) (op' : Int) (nm' : ByteArray) (a' : Option Addr) (n' c' : Nat) (W : World) : Prop where
  x0 : W.cell? ⟨w.heap.size, 0, none⟩ = some (.int .u8 op)
  x1 : W.cell? ⟨w.heap.size, 1, none⟩ = some (.string nm)
  x2 : W.cell? ⟨w.heap.size, 2, none⟩ = some (.slice a n c)
  y0 : W.cell? ⟨w.heap.size + 1, 0, none⟩ = some (.int .u8 op')
  y1 : W.cell? ⟨w.heap.size + 1, 1, none⟩ = some (.string nm')
  y2 : W.cell? ⟨w.heap.size + 1, 2, none⟩ = some (.slice a' n' c')
  r0 : W.cell? ⟨w.heap.size + 1 + 1, 0, none⟩ = some (.int .u8 0)
  r1 : W.cell? ⟨w.heap.size + 1 + 1, 1, none⟩ = some (.string nil8)
  r2 : W.cell? ⟨w.heap.size + 1 + 1, 2, none⟩ = some (.slice none 0 0)
  f0 : W.frozen? ⟨w.heap.size + 1 + 1, 0, none⟩ = false
  f1 : W.frozen? ⟨w.heap.size + 1 + 1, 1, none⟩ = false
  f2 : W.frozen? ⟨w.heap.size + 1 + 1, 2, none⟩ = false
  sz : w.heap.size + 1 + 1 < W.heap.size
theorem Env2.keep {w : World} {op : Int} {nm : ByteArray} {a : Option Addr} {n c : Nat} {op' : Int} {nm' : ByteArray} {a' : Option Addr} {n' c' : Nat} {W W' : World} (h : Env2 w op nm a n c op' nm' a' n' c' W) (hb : Below W.heap.size W W') : Env2 w op nm a n c op' nm' a' n' c' W' :=
  ⟨cell_below hb h.x0, cell_below hb h.x1, cell_below hb h.x2, cell_below hb h.y0, cell_below hb h.y1, cell_below hb h.y2, cell_below hb h.r0, cell_below hb h.r1, cell_below hb h.r2, frozen_below hb h.r0 h.f0, frozen_below hb h.r1 h.f1, frozen_below hb h.r2 h.f2, Nat.lt_of_lt_of_le h.sz hb.size⟩
abbrev env2W (w : World) (op : Int) (nm : ByteArray) (a : Option Addr) (n c : Nat) (op' : Int) (nm' : ByteArray) (a' : Option Addr) (n' c' : Nat) (t : TypeId) : World :=
  ((w.alloc (.cells #[.int .u8 op, .string nm, .slice a n c] t)).alloc (.cells #[.int .u8 op', .string nm', .slice a' n' c'] t)).alloc (.cells #[.int .u8 0, .string nil8, .slice none 0 0] t)
theorem env2_start (w : World) (op : Int) (nm : ByteArray) (a : Option Addr) (n c : Nat) (op' : Int) (nm' : ByteArray) (a' : Option Addr) (n' c' : Nat) (t : TypeId) : Env2 w op nm a n c op' nm' a' n' c' (env2W w op nm a n c op' nm' a' n' c' t) :=
  ⟨by go_simp, by go_simp, by go_simp, by go_simp, by go_simp, by go_simp, by go_simp, by go_simp, by go_simp, by go_simp, by go_simp, by go_simp, by simp⟩
theorem env2_below (w : World) (op : Int) (nm : ByteArray) (a : Option Addr) (n c : Nat) (op' : Int) (nm' : ByteArray) (a' : Option Addr) (n' c' : Nat) (t : TypeId) : Below w.heap.size w (env2W w op nm a n c op' nm' a' n' c' t) := (by repeat (first | (with_reducible exact Below.refl _ _) | (with_reducible assumption) | refine below_alloc ?_ _ | refine Below.drew ?_ | refine below_drewN ?_ _))

theorem of2_after {X : Nat → Prop} {w w2 w3 : World} {op : Int} {nm : ByteArray} {a : Option Addr} {n c : Nat} {f : Fm} {op' : Int} {nm' : ByteArray} {a' : Option Addr} {n' c' : Nat} {g : Fm} {q : Int} (hq0 : 0 ≤ q) (hq1 : q ≤ 255) (hw : Below w.heap.size w w2)
    (hb3 : Below (w2.alloc (.cells #[.int .u8 op, .string nm, .slice a n c, .int .u8 op', .string nm', .slice a' n' c'] 25)).heap.size (w2.alloc (.cells #[.int .u8 op, .string nm, .slice a n c, .int .u8 op', .string nm', .slice a' n' c'] 25)) w3) (h : IsTX X w op nm a n c f) (h' : IsTX X w op' nm' a' n' c' g) :
    IsTX (fun b => (X b ∧ b < w.heap.size) ∨ w2.heap.size ≤ b) w3 q nil8 (some ⟨w2.heap.size, 0, none⟩) 2 2 (.mk q nil8 [f, g]) :=
  .of_parts hq0 hq1 (by decide) (isS2 (.inr (Nat.le_refl _)) (cell_below hb3 (by go_simp)) (cell_below hb3 (by go_simp)) (cell_below hb3 (by go_simp)) (cell_below hb3 (by go_simp)) (cell_below hb3 (by go_simp)) (cell_below hb3 (by go_simp))
    ((h.old.keep (below_to (below_alloc hw _) hb3)).mono fun b hb _ => .inl hb) ((h'.old.keep (below_to (below_alloc hw _) hb3)).mono fun b hb _ => .inl hb))
theorem old_at {X : Nat → Prop} {w w2 : World} {op : Int} {nm : ByteArray} {a : Option Addr} {n c : Nat} {f : Fm} (N : Nat) (h : IsTX X w op nm a n c f) (hw : Below w.heap.size w w2) : IsTX (fun b => (X b ∧ b < w.heap.size) ∨ N ≤ b) w2 op nm a n c f := (h.old.keep hw).mono fun b hb _ => .inl hb

/-- As many kids as the rules look at. -/
def ArOk (op : Int) (n : Nat) : Prop := (op = 4 → 0 < n) ∧ (op = 5 → 1 < n) ∧ (op = 6 → 1 < n) ∧ (op = 10 → 0 < n) ∧ (op = 11 → 0 < n)

def leafF (z : Int) : Fm := .mk z nil8 []
def two (q : Int) (f g : Fm) : Fm := .mk q nil8 [f, g]
/-- What the rows of & (q = 5) and | (q = 6) make. -/
def lat (q z u o : Int) (f g : Fm) : Fm :=
  if f.op = z ∨ g.op = z then leafF z else if f.op = u then g else if g.op = u ∨ f.same g = true then f else if f.opposite g = true then leafF z
  else if f.among o g = true then g else if g.among o f = true then f else if g.cmp f < 0 then two q g f else two q f g
def sImp (f g : Fm) : Fm := if f.op = 2 ∨ g.op = 1 then T1 else if f.op = 1 then g else if g.op = 2 then f.sNot else if f.same g = true then T1 else two 7 f g
def sIff (f g : Fm) : Fm := if f.op = 1 then g else if g.op = 1 then f else if f.op = 2 then g.sNot else if g.op = 2 then f.sNot else if f.same g = true then T1 else if g.cmp f < 0 then two 8 g f else two 8 f g
def unt (q u z s : Int) (f g : Fm) : Fm := if sureB g.op = true then g else if f.op = u then g.sAlways s else if f.op = z then g else if f.same g = true then f else if g.op = s then g else two q f g
def sWeak (f g : Fm) : Fm := if f.op = 1 ∨ g.op = 1 then T1 else if f.op = 2 then g else if g.op = 2 then f.sAlways 11 else if f.same g = true then f else two 14 f g
def sStrong (f g : Fm) : Fm := if f.op = 2 ∨ g.op = 2 then F1 else if f.op = 1 then g else if g.op = 1 then f.sAlways 10 else if f.same g = true then f else two 15 f g

end Go.Proofs.YtmmakkaolknbaaaGreatDoor
