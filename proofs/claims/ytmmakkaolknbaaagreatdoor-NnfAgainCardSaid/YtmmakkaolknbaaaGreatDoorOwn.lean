/- A slice of trees that a call makes for itself by append. -/
import Derived.Test.YtmmakkaolknbaaaGreatDoorNnfA
import Derived.Maps.AppendAt
namespace Go.Proofs.YtmmakkaolknbaaaGreatDoor
set_option linter.unusedVariables false
set_option linter.unusedSimpArgs false
open Go.RowKit Go.Shelf

theorem news_block {w : World} {B : Nat} {cs : Array Value} {t : TypeId} {fr : Nat × Nat} (hb : w.heap[B]? = some (.cells cs t fr)) : ∀ j u, cs.toList[j]? = some u → w.cell? ((⟨B, 0, none⟩ : Addr).add j) = some u := fun j u hu => by
  have ha : (⟨B, 0, none⟩ : Addr).add j = ⟨B, j, none⟩ := by unfold Addr.add; split <;> simp_all
  rw [ha]
  simp only [Array.getElem?_toList] at hu
  simp [World.cell?, hb, hu]

/-- What a tree's cells say: Op, Name, where the kids lie, how many, the capacity. -/
structure Td where
  op : Int
  nm : ByteArray
  a : Option Addr
  n : Nat
  c : Nat
def Td.cells (t : Td) : List Value := [.int .u8 t.op, .string t.nm, .slice t.a t.n t.c]
def tcells : List Td → List Value
  | [] => []
  | t :: T => t.cells ++ tcells T
theorem tcells_append (S T : List Td) : tcells (S ++ T) = tcells S ++ tcells T := by
  induction S with
  | nil => rfl
  | cons t S ih => simp [tcells, ih]
theorem tcells_length (T : List Td) : (tcells T).length = T.length * 3 := by
  induction T with
  | nil => rfl
  | cons t T ih => simp only [tcells, Td.cells, List.length_append, List.length_cons, List.length_nil, ih]; omega
theorem tcells_get (T : List Td) : ∀ (i : Nat) (t : Td), T[i]? = some t → (tcells T)[i * 3]? = some (.int .u8 t.op) ∧ (tcells T)[i * 3 + 1]? = some (.string t.nm) ∧ (tcells T)[i * 3 + 2]? = some (.slice t.a t.n t.c) := by
  induction T with
  | nil => intro i t h; simp at h
  | cons x T ih =>
    intro i t h
    cases i with
    | zero =>
      simp at h
      subst h
      exact ⟨rfl, rfl, rfl⟩
    | succ i =>
      have h' : T[i]? = some t := by simpa using h
      obtain ⟨a, b, c⟩ := ih i t h'
      have e : ∀ j, (tcells (x :: T))[(i + 1) * 3 + j]? = (tcells T)[i * 3 + j]? := fun j => by
        simp only [tcells]
        rw [List.getElem?_append_right (by simp [Td.cells]; omega)]
        congr 1
        simp [Td.cells]
        omega
      exact ⟨(e 0).trans a, (e 1).trans b, (e 2).trans c⟩

/-- The call's own slice v of trees ks, in a block from base on; the trees themselves in blocks of X, none in that block. -/
def OwnT (X : Nat → Prop) (base : Nat) (W : World) (v : Value) (ks : List Fm) : Prop :=
  ∃ T : List Td, T.length = ks.length ∧ W.ownsRow base 25 3 v ks.length (tcells T) ∧
    ∀ (i : Nat) (t : Td) (k : Fm), T[i]? = some t → ks[i]? = some k → IsTX (fun b => X b ∧ v.ownBlock ≠ some b) W t.op t.nm t.a t.n t.c k
theorem OwnT.nil (X : Nat → Prop) (base : Nat) (W : World) : OwnT X base W (.slice none 0 0) [] := ⟨[], rfl, World.ownsRow_nil _ _ _ _, fun i t k h _ => by simp at h⟩
theorem OwnT.lt {X : Nat → Prop} {base : Nat} {W : World} {v : Value} {ks : List Fm} (h : OwnT X base W v ks) : ∀ k, v.ownBlock = some k → base ≤ k ∧ k < W.heap.size := by
  obtain ⟨T, _, h2, _⟩ := h
  exact h2.lt
theorem OwnT.keep {X : Nat → Prop} {base : Nat} {W W' : World} {v : Value} {ks : List Fm} (h : OwnT X base W v ks) (hb : Below W.heap.size W W') : OwnT X base W' v ks := by
  obtain ⟨T, h1, h2, h3⟩ := h
  exact ⟨T, h1, h2.kept (row := none) ⟨hb.os, hb.tape, hb.output, hb.size, fun i hi _ => hb.block i hi⟩ (by cases v.ownBlock <;> simp), fun i t k ht hk => (h3 i t k ht hk).keep hb⟩
theorem OwnT.mono {X Y : Nat → Prop} {base : Nat} {W : World} {v : Value} {ks : List Fm} (h : OwnT X base W v ks) (hXY : ∀ b, X b → b < W.heap.size → Y b) : OwnT Y base W v ks := by
  obtain ⟨T, h1, h2, h3⟩ := h
  exact ⟨T, h1, h2, fun i t k ht hk => (h3 i t k ht hk).mono fun b hb hl => ⟨hXY b hb.1 hl, hb.2⟩⟩
/-- It reads as a slice of trees. -/
theorem OwnT.slice {X : Nat → Prop} {base : Nat} {W : World} {v : Value} {ks : List Fm} (h : OwnT X base W v ks) : ∃ a c, v = .slice a ks.length c ∧ IsSX (fun b => X b ∨ base ≤ b) W a ks.length c ks := by
  obtain ⟨T, h1, h2, h3⟩ := h
  have h2' := h2
  rcases h2.2 with ⟨rfl, h0⟩ | ⟨g, cap, cur, rfl, hb, hg, hn, hc, _⟩
  · exact ⟨none, 0, by rw [h0], rfl, by omega, by omega, fun hp => by omega⟩
  · refine ⟨some ⟨g, 0, none⟩, cap, rfl, rfl, hn, by simpa [maxLen] using hc, fun hp => ⟨g, 0, rfl, .inr hb, fun i hi => ?_⟩⟩
    have hi' : i < T.length := by omega
    obtain ⟨c0, c1, c2⟩ := tcells_get T i T[i] (List.getElem?_eq_getElem hi')
    have hcell : ∀ j u, (tcells T)[j]? = some u → W.cell? ⟨g, 0 + j, none⟩ = some u := fun j u hu => by
      have := h2'.cells (g := g) rfl j u hu
      have ha : (⟨g, 0, none⟩ : Addr).add j = ⟨g, 0 + j, none⟩ := by unfold Addr.add; split <;> simp_all
      rwa [ha] at this
    refine ⟨_, _, _, _, _, hcell _ _ c0, ?_, ?_, (h3 i _ _ (List.getElem?_eq_getElem hi') (List.getElem?_eq_getElem hi)).mono fun b hb' _ => .inl hb'.1⟩
    · have := hcell _ _ c1; rwa [← Nat.add_assoc] at this
    · have := hcell _ _ c2; rwa [← Nat.add_assoc] at this

theorem infoFm : (Tryz.prog.info? 25).map (fun i => (i.zero, i.size, i.bytes)) = some (some (.agg #[.int .u8 0, .string nil8, .slice none 0 0]), 3, 48) := by kernel_rfl

section
variable {ops : Array Oper} {rest : List Oper} {o : Oper} {a : Act} {Q : Exit → Act → World → Prop}
/-- 'ks = append(ks, k)': behind the making of the one element's list. -/
theorem append_tree {X : Nat → Prop} {w0 W : World} (base B : Nat) (hgd : o.guard = none) (s x : Operand) (ho : o.op = .call { callee := .builtin .append, args := #[s, x], argTypes := #[23, 23] })
    (v : Value) (ks : List Fm) (k : Fm) (op : Int) (nm : ByteArray) (ad : Option Addr) (n c : Nat) (hs : a.eval s = v) (hx : a.eval x = .slice (some ⟨W.heap.size, 0, none⟩) 1 1)
    (HO : OwnT X base W v ks) (HK : IsTX (fun b => X b ∧ v.ownBlock ≠ some b) W op nm ad n c k) (HB : Below B w0 W) (hB : B ≤ base) (hbase : base ≤ W.heap.size) (hl : (ks.length + 1) * 48 ≤ 140737488355328)
    (h : ∀ v' W', OwnT X base W' v' (ks ++ [k]) → Below B w0 W' → W.heap.size ≤ W'.heap.size → (v'.ownBlock = v.ownBlock ∨ ∃ b, v'.ownBlock = some b ∧ W.heap.size ≤ b) → wpList Tryz.prog ops Q rest (a.put o.dst v') W') :
    wpList Tryz.prog ops Q (o :: rest) a (W.alloc (.cells #[.int .u8 op, .string nm, .slice ad n c] 25)) := by
  obtain ⟨i0, hi, hzz⟩ := Option.map_eq_some_iff.1 infoFm
  simp only [Prod.mk.injEq] at hzz
  obtain ⟨hz0, hz1, hz2⟩ := hzz
  obtain ⟨T, h1, h2, h3⟩ := HO
  have hlt := h2.lt
  refine wpList_append_own_at (P := Tryz.prog) (W.alloc (.cells #[.int .u8 op, .string nm, .slice ad n c] 25)) hgd s x 23 ho base 25 i0 _ 3 48 Tryz.underlying23 hi hz0 hz1 hz2 rfl (by omega) v ks.length (tcells T) hs (h2.alloc _) ⟨W.heap.size, 0, none⟩ 1 1 (Td.cells ⟨op, nm, ad, n, c⟩) hx rfl
    (news_block (cs := #[.int .u8 op, .string nm, .slice ad n c]) (t := 25) (fr := (0, 0)) (heap_alloc_new W _)) (by intro u hu; simp [Td.cells] at hu; rcases hu with rfl | rfl | rfl <;> rfl) (by simp only [maxLen]; omega) hl (by simp; omega) ?_
  intro v' W' hown hg _ hat
  have hold : ∀ b, b < W.heap.size → v.ownBlock ≠ some b → W'.heap[b]? = W.heap[b]? := fun b hb hne => (hg.block b (by simp; omega) (fun e => hne e.symm)).trans (Below.heap_alloc W _ b hb)
  have hsz : W.heap.size + 1 ≤ W'.heap.size := by have := hg.size; simpa using this
  have hat' : v'.ownBlock = v.ownBlock ∨ ∃ b, v'.ownBlock = some b ∧ W.heap.size ≤ b := by
    rcases hat with hat | hat
    · exact .inl hat
    · exact .inr ⟨_, hat, by simp⟩
  refine h v' W' ⟨T ++ [⟨op, nm, ad, n, c⟩], by simp [h1], by simpa [tcells_append, tcells] using hown, fun i t k' ht hk' => ?_⟩ ((HB.alloc (Nat.le_trans hB hbase) _).grown hg (by simp; omega) fun r hr => Nat.le_trans hB (hlt r hr).1) (by omega) hat'
  have hfit : IsTX (fun b => X b ∧ v.ownBlock ≠ some b) W t.op t.nm t.a t.n t.c k' := by
    rcases Nat.lt_or_ge i ks.length with hlt | hge
    · rw [List.getElem?_append_left (by omega)] at ht hk'
      exact h3 i t k' ht hk'
    · have hlen := (List.getElem?_eq_some_iff.1 hk').1
      simp at hlen
      obtain rfl : i = ks.length := by omega
      rw [List.getElem?_append_right (by omega)] at ht hk'
      simp [h1] at ht hk'
      subst ht hk'
      exact HK
  refine ((hfit.old.move (w1 := W') (fun b hb hlt => hold b hlt hb.1.2)).mono fun b hb _ => ⟨hb.1.1, fun e => ?_⟩)
  rcases hat' with e2 | ⟨b2, e2, hle⟩
  · exact hb.1.2 (e2 ▸ e)
  · rw [e2] at e
    injection e with e
    have := hb.2
    omega
end
end Go.Proofs.YtmmakkaolknbaaaGreatDoor
