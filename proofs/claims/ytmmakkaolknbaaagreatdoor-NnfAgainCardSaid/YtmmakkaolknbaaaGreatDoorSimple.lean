/- Contract of nnf.simple. -/
import Derived.Test.YtmmakkaolknbaaaGreatDoorNnfK
import Derived.Test.YtmmakkaolknbaaaGreatDoorOwn
import Derived.Test.YtmmakkaolknbaaaGreatDoorRight
namespace Go.Proofs.YtmmakkaolknbaaaGreatDoor
set_option linter.unusedVariables false
set_option linter.unusedSimpArgs false
open Go.RowKit Go.Shelf

/-- A tree of the future: its Ops, and as many kids as they have. -/
inductive Fm.Wf : Fm → Prop
  | mk_ (op : Int) (nm : ByteArray) (ks : List Fm) (h0 : 1 ≤ op) (h1 : op ≤ 15) (hl : (ks.length : Int) = kidsOf op) (hk : ∀ k ∈ ks, Fm.Wf k) : Fm.Wf (.mk op nm ks)
theorem Fm.Wf.op_ {f : Fm} (h : f.Wf) : 1 ≤ f.op ∧ f.op ≤ 15 := by cases h; exact ⟨by assumption, by assumption⟩
theorem Fm.Wf.len {f : Fm} (h : f.Wf) : (f.ks.length : Int) = kidsOf f.op := by cases h; assumption
theorem Fm.Wf.kid {f : Fm} (h : f.Wf) : ∀ k ∈ f.ks, k.Wf := by cases h; assumption
theorem Fm.Wf.ar {f : Fm} (h : f.Wf) : f.ar := by
  have hl := h.len
  refine ⟨fun e => ?_, fun e => ?_, fun e => ?_, fun e => ?_, fun e => ?_⟩ <;> rw [e] at hl <;> simp [kidsOf, kidsTab] at hl <;> omega
theorem Fm.Wf.k0 {f : Fm} (h : f.Wf) (h1 : 1 ≤ kidsOf f.op) : f.k0.Wf := by
  have hl := h.len
  have hk := h.kid
  unfold Fm.k0
  cases hks : f.ks with
  | nil => rw [hks] at hl; simp at hl; omega
  | cons x l => exact hk x (by rw [hks]; simp)
theorem wfT : T1.Wf := .mk_ _ _ _ (by omega) (by omega) (by decide) (by simp)
theorem wfF : F1.Wf := .mk_ _ _ _ (by omega) (by omega) (by decide) (by simp)
theorem wf1 {f : Fm} (h : f.Wf) (q : Int) (hq : q = 4 ∨ q = 9 ∨ q = 10 ∨ q = 11) : (Fm.mk q nil8 [f]).Wf := .mk_ _ _ _ (by omega) (by omega) (by rcases hq with rfl | rfl | rfl | rfl <;> rfl) (by simpa using h)
theorem wf2 {f g : Fm} (h : f.Wf) (h' : g.Wf) (q : Int) (hq : q = 5 ∨ q = 6 ∨ q = 7 ∨ q = 8 ∨ q = 12 ∨ q = 13 ∨ q = 14 ∨ q = 15) : (two q f g).Wf :=
  .mk_ _ _ _ (by omega) (by omega) (by rcases hq with rfl | rfl | rfl | rfl | rfl | rfl | rfl | rfl <;> rfl) (by simpa using ⟨h, h'⟩)
theorem wfNot {f : Fm} (h : f.Wf) : f.sNot.Wf := by
  unfold Fm.sNot
  split
  · exact wfF
  · split
    · exact wfT
    · split
      · rename_i e; exact h.k0 (by rw [e]; decide)
      · exact wf1 h 4 (by omega)
theorem wfAlways {f : Fm} (h : f.Wf) (q : Int) (hq : q = 10 ∨ q = 11) : (f.sAlways q).Wf := by
  unfold Fm.sAlways
  split
  · exact h
  · exact wf1 h q (by omega)

/-- What nnf's table does at an Op. -/
def ruleF (op : Int) (f g : Fm) : Fm :=
  if op = 4 then f.sNot else if op = 5 then lat 5 2 1 6 f g else if op = 6 then lat 6 1 2 5 f g else if op = 7 then sImp f g else if op = 8 then sIff f g
  else if op = 9 then f.sNext else if op = 10 then f.sAlways 10 else if op = 11 then f.sAlways 11 else if op = 12 then unt 12 1 2 10 f g else if op = 13 then unt 13 2 1 11 f g
  else if op = 14 then sWeak f g else sStrong f g
def ruleL (op : Int) (l : List Fm) : Fm := ruleF op (l.headD (leafF 1)) ((l.drop 1).headD (leafF 1))
theorem ite_wf {p : Prop} [Decidable p] {a b : Fm} (ha : a.Wf) (hb : b.Wf) : (if p then a else b).Wf := by split <;> assumption
theorem wfRule {op : Int} {f g : Fm} (hf : f.Wf) (hg : g.Wf) : (ruleF op f g).Wf := by
  unfold ruleF lat sImp sIff Fm.sNext unt sWeak sStrong
  repeat' (first | exact wfNot hf | exact wfNot hg | exact wfAlways hf 10 (.inl rfl) | exact wfAlways hf 11 (.inr rfl) | exact wfAlways hg 10 (.inl rfl) | exact wfAlways hg 11 (.inr rfl) | (with_reducible apply ite_wf))
  all_goals first | exact hf | exact hg | exact wfT | exact wfF | exact wfNot hf | exact wfNot hg | (refine wfAlways hf _ ?_; omega) | (refine wfAlways hg _ ?_; omega) | (refine wf1 hf _ ?_; omega) | (refine wf2 hf hg _ ?_; omega) | (refine wf2 hg hf _ ?_; omega)
mutual
def Fm.simple : Fm → Fm
  | .mk op nm ks => if ks.isEmpty = true then .mk op nm [] else ruleL op (Fm.simpleL ks)
def Fm.simpleL : List Fm → List Fm
  | [] => []
  | k :: ks => k.simple :: Fm.simpleL ks
end
theorem simpleL_map (ks : List Fm) : Fm.simpleL ks = ks.map Fm.simple := by
  induction ks with
  | nil => rfl
  | cons k ks ih => simp [Fm.simpleL, ih]
theorem wfRuleL {op : Int} {l : List Fm} (h : ∀ k ∈ l, k.Wf) : (ruleL op l).Wf := by
  refine wfRule ?_ ?_
  · cases l with
    | nil => exact wfT
    | cons x l => exact h x (by simp)
  · match l, h with
    | [], _ => exact wfT
    | [x], _ => exact wfT
    | x :: y :: l, h => exact h y (by simp)
theorem wfSimple (f : Fm) (h : f.Wf) : f.simple.Wf := by
  induction f using Fm.ind_ with | h o n ks ih
  unfold Fm.simple
  split
  · rename_i e
    obtain rfl : ks = [] := by simpa using e
    exact h
  · refine wfRuleL fun k hk => ?_
    rw [simpleL_map] at hk
    obtain ⟨x, hx, rfl⟩ := List.mem_map.1 hk
    exact ih x hx (h.kid x hx)

def ruleFn (op : Int) : Nat :=
  if op = 4 then 199 else if op = 5 then 201 else if op = 6 then 203 else if op = 7 then 204 else if op = 8 then 206
  else if op = 9 then 208 else if op = 10 then 211 else if op = 11 then 213 else if op = 12 then 214 else if op = 13 then 216
  else if op = 14 then 217 else 219
theorem len1 {l : List Fm} (h : (l.length : Int) = 1) : ∃ f, l = [f] := by
  match l, h with
  | [f], _ => exact ⟨f, rfl⟩
  | [], h => simp at h
  | _ :: _ :: _, h => simp at h; omega
theorem len2 {l : List Fm} (h : (l.length : Int) = 2) : ∃ f g, l = [f, g] := by
  match l, h with
  | [f, g], _ => exact ⟨f, g, rfl⟩
  | [], h => simp at h
  | [_], h => simp at h
  | _ :: _ :: _ :: _, h => simp at h; omega
theorem rule_c {X : Nat → Prop} (op : Int) (h0 : 4 ≤ op) (h1 : op ≤ 15) (l : List Fm) (hl : (l.length : Int) = kidsOf op) (hA : ∀ k ∈ l, k.ar) (a : Option Addr) (n c : Nat) (w : World) (hS : IsSX X w a n c l) :
    Calls Tryz.prog (ruleFn op) #[.slice a n c] w (RetX X (ruleL op l) w) := by
  have hc : op = 4 ∨ op = 5 ∨ op = 6 ∨ op = 7 ∨ op = 8 ∨ op = 9 ∨ op = 10 ∨ op = 11 ∨ op = 12 ∨ op = 13 ∨ op = 14 ∨ op = 15 := by omega
  rcases hc with rfl | rfl | rfl | rfl | rfl | rfl | rfl | rfl | rfl | rfl | rfl | rfl
  · obtain ⟨f, rfl⟩ := len1 hl; exact rule1_c f a n c w hS (hA f (by simp))
  · obtain ⟨f, g, rfl⟩ := len2 hl; exact rule2_c f g a n c w hS (hA f (by simp)) (hA g (by simp))
  · obtain ⟨f, g, rfl⟩ := len2 hl; exact rule3_c f g a n c w hS (hA f (by simp)) (hA g (by simp))
  · obtain ⟨f, g, rfl⟩ := len2 hl; exact rule4_c f g a n c w hS (hA f (by simp)) (hA g (by simp))
  · obtain ⟨f, g, rfl⟩ := len2 hl; exact rule5_c f g a n c w hS (hA f (by simp)) (hA g (by simp))
  · obtain ⟨f, rfl⟩ := len1 hl; exact rule6_c f a n c w hS
  · obtain ⟨f, rfl⟩ := len1 hl; exact rule7_c f a n c w hS (hA f (by simp))
  · obtain ⟨f, rfl⟩ := len1 hl; exact rule8_c f a n c w hS (hA f (by simp))
  · obtain ⟨f, g, rfl⟩ := len2 hl; exact rule9_c f g a n c w hS (hA f (by simp)) (hA g (by simp))
  · obtain ⟨f, g, rfl⟩ := len2 hl; exact rule10_c f g a n c w hS (hA f (by simp)) (hA g (by simp))
  · obtain ⟨f, g, rfl⟩ := len2 hl; exact rule11_c f g a n c w hS (hA f (by simp)) (hA g (by simp))
  · obtain ⟨f, g, rfl⟩ := len2 hl; exact rule12_c f g a n c w hS (hA f (by simp)) (hA g (by simp))
theorem rule_enters (op : Int) (h0 : 4 ≤ op) (h1 : op ≤ 15) : ∀ args w, (callFunc (ruleFn op) args).run Tryz.prog w = .ok (.enter (ruleFn op) args) w := by
  have hc : op = 4 ∨ op = 5 ∨ op = 6 ∨ op = 7 ∨ op = 8 ∨ op = 9 ∨ op = 10 ∨ op = 11 ∨ op = 12 ∨ op = 13 ∨ op = 14 ∨ op = 15 := by omega
  rcases hc with rfl | rfl | rfl | rfl | rfl | rfl | rfl | rfl | rfl | rfl | rfl | rfl
  · exact enters_of Tryz.func199 (by kernel_rfl) rfl
  · exact enters_of Tryz.func201 (by kernel_rfl) rfl
  · exact enters_of Tryz.func203 (by kernel_rfl) rfl
  · exact enters_of Tryz.func204 (by kernel_rfl) rfl
  · exact enters_of Tryz.func206 (by kernel_rfl) rfl
  · exact enters_of Tryz.func208 (by kernel_rfl) rfl
  · exact enters_of Tryz.func211 (by kernel_rfl) rfl
  · exact enters_of Tryz.func213 (by kernel_rfl) rfl
  · exact enters_of Tryz.func214 (by kernel_rfl) rfl
  · exact enters_of Tryz.func216 (by kernel_rfl) rfl
  · exact enters_of Tryz.func217 (by kernel_rfl) rfl
  · exact enters_of Tryz.func219 (by kernel_rfl) rfl
end Go.Proofs.YtmmakkaolknbaaaGreatDoor
