/- nnf.form: what it makes. -/
import Derived.Test.YtmmakkaolknbaaaGreatDoorCntB
namespace Go.Proofs.YtmmakkaolknbaaaGreatDoor
set_option linter.unusedVariables false
set_option linter.unusedSimpArgs false
open Go.RowKit Go.Shelf

/-- What N (false) and D (true) make of a node, given what they make of its kids: nf i d: the i-th kid's. -/
def nfOp (op : Int) (nm : ByteArray) (d : Bool) (a b x y : Fm) : Fm :=
  if d = false then
    if op = 4 then x else if op = 5 then two 5 a b else if op = 6 then two 6 a b else if op = 7 then two 6 x b else if op = 8 then two 6 (two 5 a b) (two 5 x y) else if op = 9 then .mk 9 nil8 [a]
    else if op = 10 then two 12 T1 a else if op = 11 then two 13 F1 a else if op = 12 then two 12 a b else if op = 13 then two 13 a b else if op = 14 then two 13 b (two 6 a b) else two 12 b (two 5 a b)
  else
    if op = 4 then a else if op = 5 then two 6 x y else if op = 6 then two 5 x y else if op = 7 then two 5 a y else if op = 8 then two 6 (two 5 a y) (two 5 x b) else if op = 9 then .mk 9 nil8 [x]
    else if op = 10 then two 13 F1 x else if op = 11 then two 12 T1 x else if op = 12 then two 13 x y else if op = 13 then two 12 x y else if op = 14 then two 12 y (two 5 x y) else two 13 y (two 6 x y)
def nfLeaf (op : Int) (nm : ByteArray) (d : Bool) : Fm := if op = 1 ∧ d = true then F1 else if op = 2 ∧ d = true then T1 else if op = 3 ∧ d = true then neg1 (.mk 3 nm []) else .mk op nm []
def nfO (op : Int) (nm : ByteArray) (d : Bool) (l : List (Fm × Fm)) : Fm :=
  if op ≤ 3 then nfLeaf op nm d else nfOp op nm d (l.getD 0 (T1, T1)).1 (l.getD 1 (T1, T1)).1 (l.getD 0 (T1, T1)).2 (l.getD 1 (T1, T1)).2
mutual
/-- N and D of a tree. -/
def Fm.nd : Fm → Fm × Fm
  | .mk op nm ks => (nfO op nm false (Fm.ndL ks), nfO op nm true (Fm.ndL ks))
def Fm.ndL : List Fm → List (Fm × Fm)
  | [] => []
  | k :: ks => k.nd :: Fm.ndL ks
end
def Fm.nf (f : Fm) (d : Bool) : Fm := if d = true then f.nd.2 else f.nd.1
theorem ndL_map (ks : List Fm) : Fm.ndL ks = ks.map Fm.nd := by
  induction ks with
  | nil => rfl
  | cons k ks ih => simp [Fm.ndL, ih]
theorem nf_leaf (op : Int) (nm : ByteArray) (d : Bool) (h : op ≤ 3) (ks : List Fm) : (Fm.mk op nm ks).nf d = nfLeaf op nm d := by
  cases d <;> simp [Fm.nf, Fm.nd, nfO, h]
theorem nf_one (op : Int) (nm : ByteArray) (d : Bool) (h : ¬ op ≤ 3) (f : Fm) : (Fm.mk op nm [f]).nf d = nfOp op nm d (f.nf false) T1 (f.nf true) T1 := by
  cases d <;> simp [Fm.nf, Fm.nd, nfO, h, Fm.ndL]
theorem nf_two (op : Int) (nm : ByteArray) (d : Bool) (h : ¬ op ≤ 3) (f g : Fm) : (Fm.mk op nm [f, g]).nf d = nfOp op nm d (f.nf false) (g.nf false) (f.nf true) (g.nf true) := by
  cases d <;> simp [Fm.nf, Fm.nd, nfO, h, Fm.ndL]

def PosC (f : Fm) : Prop := ∀ (X : Nat → Prop) (op : Int) (nm : ByteArray) (a : Option Addr) (n c : Nat) (w : World), IsTX X w op nm a n c f → Calls Tryz.prog 261 #[fv op nm a n c] w (RetX X (f.nf false) w)
def NegC (f : Fm) : Prop := ∀ (X : Nat → Prop) (op : Int) (nm : ByteArray) (a : Option Addr) (n c : Nat) (w : World), IsTX X w op nm a n c f → Calls Tryz.prog 263 #[fv op nm a n c] w (RetX X (f.nf true) w)

/-- The value is a tree; a slice of trees. -/
def trV (Y : Nat → Prop) (t : Fm) (v : Value) (W : World) : Prop := ∃ op nm a n c, v = fv op nm a n c ∧ IsTX Y W op nm a n c t
def slV (Y : Nat → Prop) (k : Nat) (l : List Fm) (v : Value) (W : World) : Prop := ∃ b, v = .slice (some ⟨b, 0, none⟩) k k ∧ IsSX Y W (some ⟨b, 0, none⟩) k k l
theorem trV_stable (Y : Nat → Prop) (t : Fm) : Stable (trV Y t) := by
  rintro v W W' ⟨op, nm, a, n, c, e, h⟩ hb
  exact ⟨op, nm, a, n, c, e, h.keep hb⟩
theorem slV_stable (Y : Nat → Prop) (k : Nat) (l : List Fm) : Stable (slV Y k l) := by
  rintro v W W' ⟨b, e, h⟩ hb
  exact ⟨b, e, h.keep hb⟩
end Go.Proofs.YtmmakkaolknbaaaGreatDoor
