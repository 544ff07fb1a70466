/- Plain laws of Simple: no greater, no deeper, of the same names, well formed. -/
import Derived.Test.YtmmakkaolknbaaaGreatDoorPlA
namespace Go.Proofs.YtmmakkaolknbaaaGreatDoor
set_option linter.unusedVariables false
set_option linter.unusedSimpArgs false
open Go.Lib

/-! Simple: no greater, no deeper; of which names; well formed. -/
theorem size1 (q : Int) (n : ByteArray) (f : Fm) : (Fm.mk q n [f]).size = 1 + f.size := by simp [Fm.size, Fm.sizeL]
theorem size2 (q : Int) (f g : Fm) : (two q f g).size = 1 + f.size + g.size := by simp [two, Fm.size, Fm.sizeL]; omega
theorem depth1 (q : Int) (n : ByteArray) (f : Fm) : (Fm.mk q n [f]).depth = 1 + f.depth := by simp [Fm.depth, Fm.depthL]
theorem depth2 (q : Int) (f g : Fm) : (two q f g).depth = 1 + max f.depth g.depth := by simp [two, Fm.depth, Fm.depthL]
theorem k0_size (f : Fm) (h : 0 < f.ks.length) : f.k0.size < f.size ∧ f.k0.depth < f.depth := by
  cases f with | mk o n ks =>
  cases ks with
  | nil => simp at h
  | cons x l =>
    simp only [Fm.k0, Fm.ks_mk, List.headD_cons, Fm.size, Fm.sizeL, Fm.depth, Fm.depthL]
    omega
mutual
/-- The names in it, from left to right. -/
def Fm.nms : Fm → List ByteArray
  | .mk o n ks => (if o = 3 then [n] else []) ++ Fm.nmsL ks
def Fm.nmsL : List Fm → List ByteArray
  | [] => []
  | k :: ks => k.nms ++ Fm.nmsL ks
end
theorem nms1 (q : Int) (n : ByteArray) (f : Fm) (h : q ≠ 3) : (Fm.mk q n [f]).nms = f.nms := by simp [Fm.nms, Fm.nmsL, h]
theorem nms2 (q : Int) (f g : Fm) (h : q ≠ 3) : (two q f g).nms = f.nms ++ g.nms := by simp [two, Fm.nms, Fm.nmsL, h]
theorem nmsL_mem {l : List Fm} {k : Fm} (h : k ∈ l) {s : ByteArray} (hs : s ∈ k.nms) : s ∈ Fm.nmsL l := by
  induction l with
  | nil => simp at h
  | cons x l ih =>
    simp only [Fm.nmsL, List.mem_append]
    rcases List.mem_cons.1 h with e | h
    · subst e; exact .inl hs
    · exact .inr (ih h)
theorem mem_nmsL {l : List Fm} {s : ByteArray} (hs : s ∈ Fm.nmsL l) : ∃ k ∈ l, s ∈ k.nms := by
  induction l with
  | nil => simp [Fm.nmsL] at hs
  | cons x l ih =>
    simp only [Fm.nmsL, List.mem_append] at hs
    rcases hs with hs | hs
    · exact ⟨x, by simp, hs⟩
    · obtain ⟨k, hk, h⟩ := ih hs
      exact ⟨k, by simp [hk], h⟩
theorem k0_nms (f : Fm) : ∀ s ∈ f.k0.nms, s ∈ f.nms := by
  intro s hs
  cases f with | mk o n ks =>
  cases ks with
  | nil => simp [Fm.k0, Fm.nms, Fm.nmsL] at hs
  | cons x l =>
    simp only [Fm.k0, Fm.ks_mk, List.headD_cons] at hs
    simp only [Fm.nms, Fm.nmsL, List.mem_append]
    exact .inr (.inl hs)

/-- All that can be said of what a rule makes of two trees. -/
structure Cl (P : Fm → Prop) : Prop where
  t : P T1
  f : P F1
  k0 : ∀ a, a.op = 4 → P a → P a.k0
  one : ∀ q a, (q = 4 ∨ q = 9 ∨ q = 10 ∨ q = 11) → P a → P (.mk q nil8 [a])
  two : ∀ q a b, (q = 5 ∨ q = 6 ∨ q = 7 ∨ q = 8 ∨ q = 12 ∨ q = 13 ∨ q = 14 ∨ q = 15) → P a → P b → P (two q a b)
theorem p_ite {P : Fm → Prop} {p : Prop} [Decidable p] {a b : Fm} (ha : P a) (hb : P b) : P (if p then a else b) := by split <;> assumption
theorem Cl.not {P : Fm → Prop} (c : Cl P) {f : Fm} (h : P f) : P f.sNot := by
  unfold Fm.sNot
  split
  · exact c.f
  split
  · exact c.t
  split
  · exact c.k0 f (by assumption) h
  · exact c.one 4 f (by omega) h
theorem Cl.always {P : Fm → Prop} (c : Cl P) {f : Fm} (h : P f) {q : Int} (hq : q = 10 ∨ q = 11) : P (f.sAlways q) := by
  unfold Fm.sAlways
  split
  · exact h
  · exact c.one q f (by omega) h
theorem Cl.rule {P : Fm → Prop} (c : Cl P) {op : Int} {f g : Fm} (hf : P f) (hg : P g) : P (ruleF op f g) := by
  unfold ruleF lat sImp sIff Fm.sNext unt sWeak sStrong
  repeat' (first | exact c.not hf | exact c.not hg | exact c.always hf (.inl rfl) | exact c.always hf (.inr rfl) | exact c.always hg (.inl rfl) | exact c.always hg (.inr rfl) | (with_reducible apply p_ite))
  all_goals first | exact hf | exact hg | exact c.t | exact c.f | exact c.not hf | exact c.not hg | (refine c.always hf ?_; omega) | (refine c.always hg ?_; omega) | (refine c.one _ _ ?_ hf; omega) | (refine c.two _ _ _ ?_ hf hg; omega) | (refine c.two _ _ _ ?_ hg hf; omega)

/-- The bounds of a rule. -/
theorem szNot {f : Fm} (h : f.ar) : f.sNot.size ≤ 1 + f.size ∧ f.sNot.depth ≤ 1 + f.depth := by
  have h1 := f.size_pos
  have h2 := f.depth_pos
  unfold Fm.sNot
  split
  · exact ⟨by simp [Fm.size, Fm.sizeL], by simp [Fm.depth, Fm.depthL]⟩
  split
  · exact ⟨by simp [Fm.size, Fm.sizeL], by simp [Fm.depth, Fm.depthL]⟩
  split
  · rename_i e
    have := k0_size f (h.1 e)
    omega
  · unfold neg1; rw [size1, depth1]; omega
theorem szAlways (q : Int) (f : Fm) : (f.sAlways q).size ≤ 1 + f.size ∧ (f.sAlways q).depth ≤ 1 + f.depth := by
  unfold Fm.sAlways
  split
  · omega
  · rw [size1, depth1]; omega
theorem szT : T1.size = 1 ∧ T1.depth = 1 := by decide
theorem szF : F1.size = 1 ∧ F1.depth = 1 := by decide
theorem szLeaf (z : Int) : (leafF z).size = 1 ∧ (leafF z).depth = 1 := by simp [leafF, Fm.size, Fm.sizeL, Fm.depth, Fm.depthL]
theorem sz_ite {p : Prop} [Decidable p] {a b : Fm} {n d : Nat} (ha : a.size ≤ n ∧ a.depth ≤ d) (hb : b.size ≤ n ∧ b.depth ≤ d) : (if p then a else b).size ≤ n ∧ (if p then a else b).depth ≤ d := by split <;> assumption
theorem szRule2 (op : Int) {f g : Fm} (hf : f.ar) (hg : g.ar) : (ruleF op f g).size ≤ 1 + f.size + g.size ∧ (ruleF op f g).depth ≤ 1 + max f.depth g.depth := by
  have a1 := szNot hf
  have a2 := szNot hg
  have a3 := szAlways 10 f
  have a4 := szAlways 11 f
  have a5 := szAlways 10 g
  have a6 := szAlways 11 g
  have a7 := f.size_pos
  have a8 := g.size_pos
  have a9 := f.depth_pos
  have b1 := g.depth_pos
  have b2 := szT
  have b3 := szF
  have b4 := szLeaf
  unfold ruleF lat sImp sIff Fm.sNext unt sWeak sStrong
  repeat' (with_reducible apply sz_ite)
  all_goals first | omega | (rw [size2, depth2]; omega) | (rw [size1, depth1]; omega) | (rw [(b4 _).1, (b4 _).2]; omega)
theorem szRule1 (op : Int) (ho : op = 4 ∨ op = 9 ∨ op = 10 ∨ op = 11) {f : Fm} (hf : f.ar) : (ruleF op f (leafF 1)).size ≤ 1 + f.size ∧ (ruleF op f (leafF 1)).depth ≤ 1 + f.depth := by
  rcases ho with rfl | rfl | rfl | rfl
  · exact szNot hf
  · show f.sNext.size ≤ _ ∧ f.sNext.depth ≤ _
    unfold Fm.sNext
    split
    · omega
    · rw [size1, depth1]; omega
  · exact szAlways 10 f
  · exact szAlways 11 f
theorem wf_one {op : Int} {nm : ByteArray} {ks : List Fm} (h : (Fm.mk op nm ks).Wf) (hne : ks.isEmpty = false) :
    ((op = 4 ∨ op = 9 ∨ op = 10 ∨ op = 11) ∧ ∃ f, ks = [f]) ∨ ((op = 5 ∨ op = 6 ∨ op = 7 ∨ op = 8 ∨ op = 12 ∨ op = 13 ∨ op = 14 ∨ op = 15) ∧ ∃ f g, ks = [f, g]) := by
  have h1 := h.op_
  have h2 := h.len
  simp only [Fm.op_mk, Fm.ks_mk] at h1 h2
  have hc : op = 1 ∨ op = 2 ∨ op = 3 ∨ op = 4 ∨ op = 5 ∨ op = 6 ∨ op = 7 ∨ op = 8 ∨ op = 9 ∨ op = 10 ∨ op = 11 ∨ op = 12 ∨ op = 13 ∨ op = 14 ∨ op = 15 := by omega
  match ks, hne, h2 with
  | [], hne, _ => simp at hne
  | [f], _, h2 =>
    refine .inl ⟨?_, f, rfl⟩
    rcases hc with rfl | rfl | rfl | rfl | rfl | rfl | rfl | rfl | rfl | rfl | rfl | rfl | rfl | rfl | rfl <;> first | omega | (simp [kidsOf, kidsTab] at h2)
  | [f, g], _, h2 =>
    refine .inr ⟨?_, f, g, rfl⟩
    rcases hc with rfl | rfl | rfl | rfl | rfl | rfl | rfl | rfl | rfl | rfl | rfl | rfl | rfl | rfl | rfl <;> first | omega | (simp [kidsOf, kidsTab] at h2)
  | _ :: _ :: _ :: l, _, h2 =>
    exfalso
    have := kidsOf_range op
    simp at h2
    omega
theorem simple_bd (f : Fm) (h : f.Wf) : f.simple.size ≤ f.size ∧ f.simple.depth ≤ f.depth := by
  induction f using Fm.ind_ with | h o n ks ih
  unfold Fm.simple
  split
  · rename_i e
    obtain rfl : ks = [] := by simpa using e
    exact ⟨Nat.le_refl _, Nat.le_refl _⟩
  · rename_i e
    rw [simpleL_map]
    rcases wf_one h (by simpa using e) with ⟨ho, f, rfl⟩ | ⟨ho, f, g, rfl⟩
    · have i1 := ih f (by simp) (h.kid f (by simp))
      have h1 := szRule1 o ho (wfSimple f (h.kid f (by simp))).ar
      show (ruleF o f.simple (leafF 1)).size ≤ _ ∧ (ruleF o f.simple (leafF 1)).depth ≤ _
      rw [size1, depth1]
      omega
    · have i1 := ih f (by simp) (h.kid f (by simp))
      have i2 := ih g (by simp) (h.kid g (by simp))
      have h1 := szRule2 o (wfSimple f (h.kid f (by simp))).ar (wfSimple g (h.kid g (by simp))).ar
      show (ruleF o f.simple g.simple).size ≤ _ ∧ (ruleF o f.simple g.simple).depth ≤ _
      have e1 := size2 o f g
      have e2 := depth2 o f g
      have e3 : (Fm.mk o n [f, g]).size = (two o f g).size := by simp [two, Fm.size]
      have e4 : (Fm.mk o n [f, g]).depth = (two o f g).depth := by simp [two, Fm.depth]
      omega

/-- Of names of N. -/
theorem clNms (N : ByteArray → Prop) : Cl fun f => ∀ s ∈ f.nms, N s where
  t := by simp [Fm.nms, Fm.nmsL]
  f := by simp [Fm.nms, Fm.nmsL]
  k0 := fun a _ h s hs => h s (k0_nms a s hs)
  one := fun q a hq h s hs => h s (by rwa [nms1 q _ a (by omega)] at hs)
  two := fun q a b hq h h' s hs => by
    rw [nms2 q a b (by omega), List.mem_append] at hs
    exact hs.elim (h s) (h' s)
theorem simple_nms (f : Fm) : ∀ s ∈ f.simple.nms, s ∈ f.nms := by
  induction f using Fm.ind_ with | h o n ks ih
  intro s hs
  unfold Fm.simple at hs
  split at hs
  · rename_i e
    obtain rfl : ks = [] := by simpa using e
    exact hs
  · rw [simpleL_map] at hs
    have h := all_head (P := fun f => ∀ s ∈ f.nms, s ∈ (Fm.mk o n ks).nms) (by simp [leafF, Fm.nms, Fm.nmsL]) (l := ks.map Fm.simple) fun k hk => by
      obtain ⟨x, hx, rfl⟩ := List.mem_map.1 hk
      intro s hs
      simp only [Fm.nms, List.mem_append]
      exact .inr (nmsL_mem hx (ih x hx s hs))
    exact (clNms fun s => s ∈ (Fm.mk o n ks).nms).rule (op := o) h.1 h.2 s hs

/-! Well formed. -/
theorem formed_parts {p : Int → Bool} {f : Fm} (h : f.formed p = true) : f.op < 22 ∧ 0 ≤ kidsOf f.op ∧ (f.ks.length : Int) = kidsOf f.op ∧ p f.op = true ∧ (f.op = 3 → nameB f.nm = true) ∧ (f.op ≠ 3 → f.nm = nil8) ∧ ∀ k ∈ f.ks, k.formed p = true := by
  cases f with | mk o n ks =>
  simp only [Fm.formed, Bool.and_eq_true, decide_eq_true_eq, formedL_all, List.all_eq_true] at h
  obtain ⟨⟨⟨⟨⟨h1, h2⟩, h3⟩, h4⟩, h5⟩, h6⟩ := h
  refine ⟨h1, h2, h3, h4, fun e => ?_, fun e => ?_, h6⟩
  · simp only [Fm.op_mk] at e; rw [if_pos e] at h5; exact h5
  · simp only [Fm.op_mk] at e; rw [if_neg e] at h5
    have h5' : n.size = 0 := by simpa using h5
    exact nm_ext (by cases n with | mk d => simpa [ByteArray.size] using h5')
theorem formed_of {p : Int → Bool} {f : Fm} (h1 : f.op < 22) (h2 : 0 ≤ kidsOf f.op) (h3 : (f.ks.length : Int) = kidsOf f.op) (h4 : p f.op = true) (h5 : f.op = 3 → nameB f.nm = true) (h6 : f.op ≠ 3 → f.nm = nil8) (h7 : ∀ k ∈ f.ks, k.formed p = true) : f.formed p = true := by
  cases f with | mk o n ks =>
  simp only [Fm.op_mk, Fm.ks_mk, Fm.nm_mk] at *
  simp only [Fm.formed, Bool.and_eq_true, decide_eq_true_eq, formedL_all, List.all_eq_true]
  refine ⟨⟨⟨⟨⟨h1, h2⟩, h3⟩, h4⟩, ?_⟩, h7⟩
  split
  · exact h5 (by assumption)
  · rw [h6 (by assumption)]; decide
theorem kids_pos {op : Int} (h : op < 22) (hk : 0 ≤ kidsOf op) (h2 : op < 16) (h0 : 0 ≤ op) : 1 ≤ op ∧ op ≤ 15 := by
  refine ⟨?_, by omega⟩
  rcases (show op = 0 ∨ 1 ≤ op by omega) with rfl | h
  · simp [kidsOf, kidsTab] at hk
  · exact h
/-- Every Op in it is an Op's number. -/
inductive Fm.Nn : Fm → Prop
  | mk_ (op : Int) (nm : ByteArray) (ks : List Fm) (h : 0 ≤ op) (hk : ∀ k ∈ ks, Fm.Nn k) : Fm.Nn (.mk op nm ks)
theorem formed_wf (f : Fm) (hn : f.Nn) (h : f.formed futureB = true) : f.Wf := by
  induction f using Fm.ind_ with | h o n ks ih
  obtain ⟨h1, h2, h3, h4, _, _, h7⟩ := formed_parts h
  cases hn with | mk_ _ _ _ hn hnk =>
  have := kids_pos h1 h2 (of_decide_eq_true h4) hn
  exact .mk_ o n ks this.1 this.2 h3 fun k hk => ih k hk (hnk k hk) (h7 k hk)
theorem formed_mk (q : Int) (ks : List Fm) (h1 : q < 16) (h2 : 0 ≤ kidsOf q) (h3 : (ks.length : Int) = kidsOf q) (h4 : q ≠ 3) (hk : ∀ k ∈ ks, k.formed futureB = true) : (Fm.mk q nil8 ks).formed futureB = true :=
  formed_of (f := .mk q nil8 ks) (show q < 22 by omega) h2 h3 (by simp [futureB, h1]) (fun e => absurd e h4) (fun _ => rfl) hk
theorem clFormed : Cl fun f => f.formed futureB = true where
  t := by decide
  f := by decide
  k0 := fun a ha h => by
    obtain ⟨_, _, h3, _, _, _, h7⟩ := formed_parts h
    cases a with | mk o n ks =>
    simp only [Fm.op_mk] at ha
    subst ha
    match ks, h3, h7 with
    | [], h3, _ => simp [kidsOf, kidsTab] at h3
    | x :: l, _, h7 => exact h7 x (by simp)
  one := fun q a hq h => formed_mk q [a] (by omega) (by rcases hq with rfl | rfl | rfl | rfl <;> decide) (by rcases hq with rfl | rfl | rfl | rfl <;> rfl) (by omega) (by simpa using h)
  two := fun q a b hq h h' => formed_mk q [a, b] (by omega) (by rcases hq with rfl | rfl | rfl | rfl | rfl | rfl | rfl | rfl <;> decide) (by rcases hq with rfl | rfl | rfl | rfl | rfl | rfl | rfl | rfl <;> rfl) (by omega) (by simpa using ⟨h, h'⟩)
theorem simple_formed (f : Fm) (h : f.formed futureB = true) : f.simple.formed futureB = true := by
  induction f using Fm.ind_ with | h o n ks ih
  unfold Fm.simple
  split
  · rename_i e
    obtain rfl : ks = [] := by simpa using e
    exact h
  · rw [simpleL_map]
    have hk := (formed_parts h).2.2.2.2.2.2
    have h := all_head (P := fun f => f.formed futureB = true) (by decide) (l := ks.map Fm.simple) fun k hk' => by
      obtain ⟨x, hx, rfl⟩ := List.mem_map.1 hk'
      exact ih x hx (hk x hx)
    exact clFormed.rule h.1 h.2
theorem simple_right (f : Fm) (hn : f.Nn) (h : f.rightE futureB = 0) : f.simple.rightE futureB = 0 := by
  obtain ⟨h1, h2, h3⟩ := rightE_ok h
  have hb := simple_bd f (formed_wf f hn h1)
  unfold Fm.rightE
  rw [if_pos (simple_formed f h1), if_neg (by simp [Fm.big]; omega)]
end Go.Proofs.YtmmakkaolknbaaaGreatDoor
