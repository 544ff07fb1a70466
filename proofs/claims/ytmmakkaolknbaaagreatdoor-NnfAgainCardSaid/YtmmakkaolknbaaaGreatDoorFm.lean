/- Plain trees: the formulas as Lean data, their size, depth, names, order; no program in sight. -/
import Derived.Lib.Bytealg
import Derived.Lib.Small
namespace Go.Proofs.YtmmakkaolknbaaaGreatDoor
set_option linter.unusedVariables false
set_option linter.unusedSimpArgs false

/-- A tree: its Op, its Name, its Kids. -/
inductive Fm where
  | mk (op : Int) (nm : ByteArray) (ks : List Fm)

def Fm.op : Fm → Int | .mk o _ _ => o
def Fm.nm : Fm → ByteArray | .mk _ n _ => n
def Fm.ks : Fm → List Fm | .mk _ _ k => k

@[simp] theorem Fm.op_mk (o : Int) (n : ByteArray) (k : List Fm) : (Fm.mk o n k).op = o := rfl
@[simp] theorem Fm.nm_mk (o : Int) (n : ByteArray) (k : List Fm) : (Fm.mk o n k).nm = n := rfl
@[simp] theorem Fm.ks_mk (o : Int) (n : ByteArray) (k : List Fm) : (Fm.mk o n k).ks = k := rfl

mutual
theorem Fm.ind_ {P : Fm → Prop} (h : ∀ o n ks, (∀ k ∈ ks, P k) → P (.mk o n ks)) : ∀ f, P f
  | .mk o n ks => h o n ks (Fm.indL_ h ks)
theorem Fm.indL_ {P : Fm → Prop} (h : ∀ o n ks, (∀ k ∈ ks, P k) → P (.mk o n ks)) : ∀ (ks : List Fm), ∀ k ∈ ks, P k
  | [], _, hk => absurd hk (by simp)
  | f :: fs, k, hk => by
    rcases List.mem_cons.1 hk with e | hk
    · rw [e]; exact Fm.ind_ h f
    · exact Fm.indL_ h fs k hk
end

mutual
/-- How many trees stand in it. -/
def Fm.size : Fm → Nat
  | .mk _ _ ks => 1 + Fm.sizeL ks
def Fm.sizeL : List Fm → Nat
  | [] => 0
  | k :: ks => k.size + Fm.sizeL ks
end

mutual
/-- How deep they stand. -/
def Fm.depth : Fm → Nat
  | .mk _ _ ks => 1 + Fm.depthL ks
def Fm.depthL : List Fm → Nat
  | [] => 0
  | k :: ks => max k.depth (Fm.depthL ks)
end

theorem Fm.size_pos (f : Fm) : 0 < f.size := by
  cases f
  simp only [Fm.size]
  omega
theorem Fm.depth_pos (f : Fm) : 0 < f.depth := by
  cases f
  simp only [Fm.depth]
  omega
theorem Fm.sizeL_append (a b : List Fm) : Fm.sizeL (a ++ b) = Fm.sizeL a + Fm.sizeL b := by
  induction a with
  | nil => simp [Fm.sizeL]
  | cons x a ih => simp only [List.cons_append, Fm.sizeL, ih]; omega
theorem Fm.depthL_append (a b : List Fm) : Fm.depthL (a ++ b) = max (Fm.depthL a) (Fm.depthL b) := by
  induction a with
  | nil => simp [Fm.depthL]
  | cons x a ih => simp only [List.cons_append, Fm.depthL, ih]; omega
theorem Fm.size_mem {ks : List Fm} {k : Fm} (h : k ∈ ks) : k.size ≤ Fm.sizeL ks := by
  induction ks with
  | nil => simp at h
  | cons x ks ih =>
    simp only [Fm.sizeL]
    rcases List.mem_cons.1 h with e | h
    · subst e; omega
    · have := ih h; omega
theorem Fm.depth_mem {ks : List Fm} {k : Fm} (h : k ∈ ks) : k.depth ≤ Fm.depthL ks := by
  induction ks with
  | nil => simp at h
  | cons x ks ih =>
    simp only [Fm.depthL]
    rcases List.mem_cons.1 h with e | h
    · subst e; omega
    · have := ih h; omega
theorem Fm.length_le_sizeL (ks : List Fm) : ks.length ≤ Fm.sizeL ks := by
  induction ks with
  | nil => simp
  | cons x ks ih =>
    have := x.size_pos
    simp only [Fm.sizeL, List.length_cons]
    omega
theorem Fm.depth_le_size (f : Fm) : f.depth ≤ f.size := by
  refine Fm.ind_ (P := fun f => f.depth ≤ f.size) ?_ f
  intro o n ks ih
  simp only [Fm.depth, Fm.size]
  have : Fm.depthL ks ≤ Fm.sizeL ks := by
    induction ks with
    | nil => simp [Fm.depthL]
    | cons x ks ih2 =>
      have h1 := ih x (by simp)
      have h2 := ih2 (fun k hk => ih k (by simp [hk]))
      simp only [Fm.depthL, Fm.sizeL]
      omega
  omega
/-- What the first i kids come to, and one more. -/
theorem Fm.take_succ (ks : List Fm) (i : Nat) (h : i < ks.length) : ks.take (i + 1) = ks.take i ++ [ks[i]] := List.take_succ_eq_append_getElem h
theorem Fm.sizeL_take (ks : List Fm) (i : Nat) (h : i < ks.length) : Fm.sizeL (ks.take (i + 1)) = Fm.sizeL (ks.take i) + (ks[i]).size := by
  rw [Fm.take_succ ks i h, Fm.sizeL_append]
  simp [Fm.sizeL]
theorem Fm.depthL_take (ks : List Fm) (i : Nat) (h : i < ks.length) : Fm.depthL (ks.take (i + 1)) = max (Fm.depthL (ks.take i)) (ks[i]).depth := by
  rw [Fm.take_succ ks i h, Fm.depthL_append]
  simp [Fm.depthL]
theorem Fm.sizeL_take_le (ks : List Fm) (i : Nat) : Fm.sizeL (ks.take i) ≤ Fm.sizeL ks := by
  have h := Fm.sizeL_append (ks.take i) (ks.drop i)
  rw [List.take_append_drop] at h
  omega
theorem Fm.depthL_take_le (ks : List Fm) (i : Nat) : Fm.depthL (ks.take i) ≤ Fm.depthL ks := by
  have h := Fm.depthL_append (ks.take i) (ks.drop i)
  rw [List.take_append_drop] at h
  omega

end Go.Proofs.YtmmakkaolknbaaaGreatDoor
