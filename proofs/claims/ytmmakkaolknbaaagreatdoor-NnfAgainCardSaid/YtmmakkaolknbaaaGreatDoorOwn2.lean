/- A slice of trees that a call makes for itself by append: the element's list lies wherever; and tree.Copy. -/
import Derived.Test.YtmmakkaolknbaaaGreatDoorDag
import Derived.Test.YtmmakkaolknbaaaGreatDoorLawB
namespace Go.Proofs.YtmmakkaolknbaaaGreatDoor
set_option linter.unusedVariables false
set_option linter.unusedSimpArgs false
open Go.RowKit Go.Shelf

theorem gr_nil {w W : World} (h : Gr [] w W) : Below w.heap.size w W := ⟨h.os, h.tape, h.output, h.size, fun k hk => h.block k hk (by simp)⟩
theorem grown_weak {w W : World} {row : Option Nat} (h : w.grownBy W none) : w.grownBy W row := ⟨h.os, h.tape, h.output, h.size, fun k hk _ => h.block k hk (by simp)⟩
theorem grown_of_bel {w W : World} (h : Below w.heap.size w W) (row : Option Nat) : w.grownBy W row := ⟨h.os, h.tape, h.output, h.size, fun k hk _ => h.block k hk⟩
theorem grown_set (w : World) (r i : Nat) (v : Value) : w.grownBy (w.setCell ⟨r, i, none⟩ v) (some r) :=
  ⟨rfl, rfl, rfl, by simp, fun k hk hne => Below.heap_setCell _ _ _ _ (by intro e; exact hne (by rw [e]))⟩
/-- A tree, in blocks that nobody writes. -/
theorem IsTX.grown {X : Nat → Prop} {w w1 : World} {row : Option Nat} (hg : w.grownBy w1 row) (hX : ∀ b, X b → row ≠ some b) {op : Int} {nm : ByteArray} {a : Option Addr} {n c : Nat} {f : Fm} (h : IsTX X w op nm a n c f) : IsTX X w1 op nm a n c f :=
  h.move fun b hb hl => hg.block b hl fun e => hX b hb e.symm
theorem OwnT.cases {X : Nat → Prop} {base : Nat} {W : World} {v : Value} {ks : List Fm} (h : OwnT X base W v ks) :
    (v = .slice none 0 0 ∧ ks = []) ∨ ∃ g cap, v = .slice (some ⟨g, 0, none⟩) ks.length cap ∧ base ≤ g ∧ g < W.heap.size := by
  obtain ⟨T, h1, h2, h3⟩ := h
  have h2' := h2
  rcases h2.2 with ⟨rfl, h0⟩ | ⟨g, cap, cur, rfl, hb, hg, _⟩
  · exact .inl ⟨rfl, List.eq_nil_of_length_eq_zero h0⟩
  · exact .inr ⟨g, cap, rfl, hb, (h2'.lt g rfl).2⟩
theorem OwnT.grown {X : Nat → Prop} {base : Nat} {W W' : World} {v : Value} {ks : List Fm} {row : Option Nat} (h : OwnT X base W v ks) (hg : W.grownBy W' row) (hv : ∀ b, row = some b → v.ownBlock ≠ some b) (hX : ∀ b, X b → row ≠ some b) : OwnT X base W' v ks := by
  obtain ⟨T, h1, h2, h3⟩ := h
  refine ⟨T, h1, h2.kept hg (by
    cases hr : row with
    | none => cases v.ownBlock <;> simp
    | some r => exact .inr (hv r hr)), fun i t k ht hk => (h3 i t k ht hk).grown hg fun b hb => hX b hb.1⟩

section
variable {ops : Array Oper} {rest : List Oper} {o : Oper} {a : Act} {Q : Exit → Act → World → Prop}
/-- 'ks = append(ks, k)', the list of the one element in a block b. -/
theorem append_tree2 {X : Nat → Prop} {W : World} (base : Nat) (hgd : o.guard = none) (s x : Operand) (ho : o.op = .call { callee := .builtin .append, args := #[s, x], argTypes := #[23, 23] })
    (v : Value) (ks : List Fm) (k : Fm) (op : Int) (nm : ByteArray) (ad : Option Addr) (n c b : Nat) (hs : a.eval s = v) (hx : a.eval x = .slice (some ⟨b, 0, none⟩) 1 1)
    (hbk : W.heap[b]? = some (.cells #[.int .u8 op, .string nm, .slice ad n c] 25 (0, 0)))
    (HO : OwnT X base W v ks) (HK : IsTX (fun b => X b ∧ v.ownBlock ≠ some b) W op nm ad n c k) (hbase : base ≤ W.heap.size) (hl : (ks.length + 1) * 48 ≤ 140737488355328)
    (h : ∀ v' W', OwnT X base W' v' (ks ++ [k]) → W.grownBy W' v.ownBlock → (v'.ownBlock = v.ownBlock ∨ ∃ b, v'.ownBlock = some b ∧ W.heap.size ≤ b) → wpList Tryz.prog ops Q rest (a.put o.dst v') W') :
    wpList Tryz.prog ops Q (o :: rest) a W := by
  obtain ⟨i0, hi, hzz⟩ := Option.map_eq_some_iff.1 infoFm
  simp only [Prod.mk.injEq] at hzz
  obtain ⟨hz0, hz1, hz2⟩ := hzz
  obtain ⟨T, h1, h2, h3⟩ := HO
  have hlt := h2.lt
  refine wpList_append_own_at (P := Tryz.prog) W hgd s x 23 ho base 25 i0 _ 3 48 Tryz.underlying23 hi hz0 hz1 hz2 rfl (by omega) v ks.length (tcells T) hs h2 ⟨b, 0, none⟩ 1 1 (Td.cells ⟨op, nm, ad, n, c⟩) hx rfl
    (news_block (cs := #[.int .u8 op, .string nm, .slice ad n c]) (t := 25) (fr := (0, 0)) hbk) (by intro u hu; simp [Td.cells] at hu; rcases hu with rfl | rfl | rfl <;> rfl) (by simp only [maxLen]; omega) hl hbase ?_
  intro v' W' hown hg _ hat
  have hold : ∀ b, b < W.heap.size → v.ownBlock ≠ some b → W'.heap[b]? = W.heap[b]? := fun b hb hne => hg.block b hb (fun e => hne e.symm)
  have hat' : v'.ownBlock = v.ownBlock ∨ ∃ b, v'.ownBlock = some b ∧ W.heap.size ≤ b := by
    rcases hat with hat | hat
    · exact .inl hat
    · exact .inr ⟨_, hat, by simp⟩
  refine h v' W' ⟨T ++ [⟨op, nm, ad, n, c⟩], by simp [h1], by simpa [tcells_append, tcells] using hown, fun i t k' ht hk' => ?_⟩ hg hat'
  have hfit : IsTX (fun b => X b ∧ v.ownBlock ≠ some b) W t.op t.nm t.a t.n t.c k' := by
    rcases Nat.lt_or_ge i ks.length with hlt | hge
    · rw [List.getElem?_append_left (by omega)] at ht hk'
      exact h3 i t k' ht hk'
    · have hlen := (List.getElem?_eq_some_iff.1 hk').1
      simp at hlen
      obtain rfl : i = ks.length := by omega
      rw [List.getElem?_append_right (by omega)] at ht hk'
      simp [h1] at ht hk'
      subst ht hk'
      exact HK
  refine ((hfit.old.move (w1 := W') (fun b hb hlt => hold b hlt hb.1.2)).mono fun b hb _ => ⟨hb.1.1, fun e => ?_⟩)
  rcases hat' with e2 | ⟨b2, e2, hle⟩
  · exact hb.1.2 (e2 ▸ e)
  · rw [e2] at e
    injection e with e
    have := hb.2
    omega
end
end Go.Proofs.YtmmakkaolknbaaaGreatDoor
