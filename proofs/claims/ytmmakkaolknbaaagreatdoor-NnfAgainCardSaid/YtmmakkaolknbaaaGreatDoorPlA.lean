/- Plain laws of trees: cmp is 0 just at equals; what Simple makes stays as it is. -/
import Derived.Test.YtmmakkaolknbaaaGreatDoorCntA
import Derived.Test.YtmmakkaolknbaaaGreatDoorFormN
namespace Go.Proofs.YtmmakkaolknbaaaGreatDoor
set_option linter.unusedVariables false
set_option linter.unusedSimpArgs false
open Go.Lib

/-! cmp = 0 just at equals; cmp turned round. -/
theorem cmpInt_zero {x y : Int} : compareInt x y = 0 ↔ x = y := by
  unfold compareInt
  constructor
  · intro h; (repeat' split at h) <;> omega
  · rintro rfl; simp
theorem cmpInt_turn (x y : Int) : compareInt y x = - compareInt x y := by
  unfold compareInt
  (repeat' split) <;> omega
theorem cmpBytes_zero : ∀ {a b : List UInt8}, compareBytes a b = 0 ↔ a = b
  | [], [] => by simp [compareBytes]
  | [], _ :: _ => by simp [compareBytes]
  | _ :: _, [] => by simp [compareBytes]
  | a :: xs, b :: ys => by
    have ih := @cmpBytes_zero xs ys
    unfold compareBytes
    by_cases h1 : a < b
    · rw [if_pos h1]; constructor
      · intro h; omega
      · intro h; simp at h; rw [h.1] at h1; exact absurd h1 (UInt8.lt_irrefl _)
    · rw [if_neg h1]
      by_cases h2 : b < a
      · rw [if_pos h2]; constructor
        · intro h; omega
        · intro h; simp at h; rw [h.1] at h2; exact absurd h2 (UInt8.lt_irrefl _)
      · rw [if_neg h2, ih]
        have : a = b := UInt8.toNat_inj.1 (by rw [UInt8.lt_iff_toNat_lt] at h1 h2; omega)
        simp [this]
theorem cmpBytes_turn : ∀ (a b : List UInt8), compareBytes b a = - compareBytes a b
  | [], [] => by simp [compareBytes]
  | [], _ :: _ => by simp [compareBytes]
  | _ :: _, [] => by simp [compareBytes]
  | a :: xs, b :: ys => by
    have ih := cmpBytes_turn xs ys
    unfold compareBytes
    by_cases h1 : a < b
    · have h2 : ¬ b < a := by rw [UInt8.lt_iff_toNat_lt] at *; omega
      simp [h1, h2]
    · by_cases h2 : b < a
      · simp [h1, h2]
      · simp [h1, h2, ih]
theorem or3_zero {x y z : Int} : or3 x y z = 0 ↔ x = 0 ∧ y = 0 ∧ z = 0 := by
  unfold or3
  (repeat' split) <;> omega
theorem or3_turn (x y z : Int) : or3 (-x) (-y) (-z) = - or3 x y z := by
  unfold or3
  (repeat' split) <;> omega
theorem nm_ext {a b : ByteArray} (h : a.data.toList = b.data.toList) : a = b := by
  cases a with | mk a => cases b with | mk b => exact congrArg ByteArray.mk (Array.toList_inj.1 h)

mutual
theorem Fm.cmp_zero : ∀ {f g : Fm}, f.cmp g = 0 → f = g
  | .mk o n ks, .mk o' n' ks', h => by
    simp only [Fm.cmp, or3_zero] at h
    obtain ⟨⟨h1, h2, h3⟩, h4, _⟩ := h
    rw [cmpInt_zero.1 h1, nm_ext (cmpBytes_zero.1 h2), Fm.cmpL_zero h4]
theorem Fm.cmpL_zero : ∀ {l m : List Fm}, Fm.cmpL l m = 0 → l = m
  | [], [], _ => rfl
  | [], _ :: _, h => by simp [Fm.cmpL] at h
  | _ :: _, [], h => by simp [Fm.cmpL] at h
  | k :: ks, k' :: ks', h => by
    simp only [Fm.cmpL, or3_zero] at h
    rw [Fm.cmp_zero h.1, Fm.cmpL_zero h.2.1]
end
mutual
theorem Fm.cmp_turn : ∀ (f g : Fm), g.cmp f = - f.cmp g
  | .mk o n ks, .mk o' n' ks' => by
    simp only [Fm.cmp]
    rw [cmpInt_turn o o', cmpBytes_turn n.data.toList, cmpInt_turn ks.length, Fm.cmpL_turn ks ks', or3_turn]
    have := or3_turn (or3 (compareInt o o') (compareBytes n.data.toList n'.data.toList) (compareInt ks.length ks'.length)) (Fm.cmpL ks ks') 0
    rw [← this]; rfl
theorem Fm.cmpL_turn : ∀ (l m : List Fm), Fm.cmpL m l = - Fm.cmpL l m
  | [], [] => rfl
  | [], _ :: _ => rfl
  | _ :: _, [] => rfl
  | k :: ks, k' :: ks' => by
    simp only [Fm.cmpL]
    rw [Fm.cmp_turn k k', Fm.cmpL_turn ks ks']
    have := or3_turn (k.cmp k') (Fm.cmpL ks ks') 0
    rw [← this]; rfl
end
theorem Fm.cmp_self (f : Fm) : f.cmp f = 0 := by have := f.cmp_turn f; omega
theorem Fm.same_iff {f g : Fm} : f.same g = true ↔ f = g := by
  unfold Fm.same
  rw [decide_eq_true_iff]
  exact ⟨Fm.cmp_zero, fun h => by rw [h]; exact Fm.cmp_self g⟩
theorem Fm.same_comm (f g : Fm) : f.same g = g.same f := by
  rw [Bool.eq_iff_iff, Fm.same_iff, Fm.same_iff]; exact ⟨Eq.symm, Eq.symm⟩
theorem Fm.opp_comm (f g : Fm) : f.opposite g = g.opposite f := by
  unfold Fm.opposite; rw [Bool.or_comm]

/-! What nnf's Simple makes stays as it is. -/
inductive Fm.Sim : Fm → Prop
  | leaf (op : Int) (nm : ByteArray) : Fm.Sim (.mk op nm [])
  | node (op : Int) (nm : ByteArray) (ks : List Fm) (h0 : ks.isEmpty = false) (hr : ruleL op ks = .mk op nm ks) (hk : ∀ k ∈ ks, Fm.Sim k) : Fm.Sim (.mk op nm ks)
theorem Fm.Sim.kid {f : Fm} (h : f.Sim) : ∀ k ∈ f.ks, k.Sim := by
  cases h with
  | leaf => simp
  | node _ _ _ _ _ hk => exact hk
theorem Fm.Sim.k0 {f : Fm} (h : f.Sim) : f.k0.Sim := by
  unfold Fm.k0
  cases hks : f.ks with
  | nil => exact .leaf _ _
  | cons x l => exact h.kid x (by rw [hks]; simp)
theorem Fm.Sim.eq {f : Fm} (h : f.Sim) : f.simple = f := by
  induction h with
  | leaf op nm => simp [Fm.simple]
  | node op nm ks h0 hr hk ih =>
    unfold Fm.simple
    rw [h0]
    have : Fm.simpleL ks = ks := by
      rw [simpleL_map]
      conv => rhs; rw [← List.map_id ks]
      exact List.map_congr_left ih
    rw [this, hr]; rfl
theorem simT : T1.Sim := .leaf _ _
theorem simF : F1.Sim := .leaf _ _
theorem simLeaf (z : Int) : (leafF z).Sim := .leaf _ _
theorem ruleL1 (op : Int) (f : Fm) : ruleL op [f] = ruleF op f (leafF 1) := rfl
theorem ruleL2 (op : Int) (f g : Fm) : ruleL op [f, g] = ruleF op f g := rfl
theorem sim1 {f : Fm} (h : f.Sim) {q : Int} (hr : ruleF q f (leafF 1) = .mk q nil8 [f]) : (Fm.mk q nil8 [f]).Sim := .node _ _ _ rfl hr (by simpa using h)
theorem sim2 {f g : Fm} (h : f.Sim) (h' : g.Sim) {q : Int} (hr : ruleF q f g = two q f g) : (two q f g).Sim := .node _ _ _ rfl hr (by simpa using ⟨h, h'⟩)
theorem simNot {f : Fm} (h : f.Sim) : f.sNot.Sim := by
  unfold Fm.sNot
  split
  · exact simF
  · split
    · exact simT
    · split
      · exact h.k0
      · rename_i h1 h2 h3
        exact sim1 h (by simp only [ruleF, if_true]; unfold Fm.sNot; rw [if_neg h1, if_neg h2, if_neg h3]; rfl)
theorem simAlways {f : Fm} (h : f.Sim) {q : Int} (hq : q = 10 ∨ q = 11) : (f.sAlways q).Sim := by
  unfold Fm.sAlways
  split
  · exact h
  · rename_i h1
    refine sim1 h ?_
    rcases hq with rfl | rfl
    · simp only [ruleF, show ¬ ((10 : Int) = 4) by omega, show ¬ ((10 : Int) = 5) by omega, show ¬ ((10 : Int) = 6) by omega, show ¬ ((10 : Int) = 7) by omega, show ¬ ((10 : Int) = 8) by omega, show ¬ ((10 : Int) = 9) by omega, if_false, if_true]
      unfold Fm.sAlways; rw [if_neg h1]
    · simp only [ruleF, show ¬ ((11 : Int) = 4) by omega, show ¬ ((11 : Int) = 5) by omega, show ¬ ((11 : Int) = 6) by omega, show ¬ ((11 : Int) = 7) by omega, show ¬ ((11 : Int) = 8) by omega, show ¬ ((11 : Int) = 9) by omega, show ¬ ((11 : Int) = 10) by omega, if_false, if_true]
      unfold Fm.sAlways; rw [if_neg h1]
theorem simNext {f : Fm} (h : f.Sim) : f.sNext.Sim := by
  unfold Fm.sNext
  split
  · exact h
  · rename_i h1
    refine sim1 h ?_
    show Fm.sNext f = _
    unfold Fm.sNext; rw [if_neg h1]
theorem simLat {f g : Fm} (h : f.Sim) (h' : g.Sim) {q z u o : Int} (e : ∀ a b, ruleF q a b = lat q z u o a b) : (lat q z u o f g).Sim := by
  unfold lat
  split
  · exact simLeaf _
  split
  · exact h'
  split
  · exact h
  split
  · exact simLeaf _
  split
  · exact h'
  split
  · exact h
  rename_i h1 h2 h3 h4 h5 h6
  split
  · rename_i h7
    refine sim2 h' h ?_
    rw [e]; unfold lat
    rw [if_neg (fun x => h1 x.symm), if_neg (fun x => h3 (.inl x)), if_neg (fun x => by
      rcases x with x | x
      · exact h2 x
      · exact h3 (.inr (by rw [Fm.same_comm]; exact x))), if_neg (by rw [Fm.opp_comm]; exact h4), if_neg h6, if_neg h5, if_neg (by have := Fm.cmp_turn f g; omega)]
  · rename_i h7
    refine sim2 h h' ?_
    rw [e]; unfold lat
    rw [if_neg h1, if_neg h2, if_neg h3, if_neg h4, if_neg h5, if_neg h6, if_neg h7]
theorem simImp {f g : Fm} (h : f.Sim) (h' : g.Sim) : (sImp f g).Sim := by
  unfold sImp
  split
  · exact simT
  split
  · exact h'
  split
  · exact simNot h
  split
  · exact simT
  rename_i h1 h2 h3 h4
  refine sim2 h h' ?_
  show sImp f g = _
  unfold sImp
  rw [if_neg h1, if_neg h2, if_neg h3, if_neg h4]
theorem simIff {f g : Fm} (h : f.Sim) (h' : g.Sim) : (sIff f g).Sim := by
  unfold sIff
  split
  · exact h'
  split
  · exact h
  split
  · exact simNot h'
  split
  · exact simNot h
  split
  · exact simT
  rename_i h1 h2 h3 h4 h5
  split
  · rename_i h6
    refine sim2 h' h ?_
    show sIff g f = _
    unfold sIff
    rw [if_neg h2, if_neg h1, if_neg h4, if_neg h3, if_neg (by rw [Fm.same_comm]; exact h5), if_neg (by have := Fm.cmp_turn f g; omega)]
  · rename_i h6
    refine sim2 h h' ?_
    show sIff f g = _
    unfold sIff
    rw [if_neg h1, if_neg h2, if_neg h3, if_neg h4, if_neg h5, if_neg h6]
theorem simUnt {f g : Fm} (h : f.Sim) (h' : g.Sim) {q u z s : Int} (hs : s = 10 ∨ s = 11) (e : ∀ a b, ruleF q a b = unt q u z s a b) : (unt q u z s f g).Sim := by
  unfold unt
  split
  · exact h'
  split
  · exact simAlways h' hs
  split
  · exact h'
  split
  · exact h
  split
  · exact h'
  rename_i h1 h2 h3 h4 h5
  refine sim2 h h' ?_
  rw [e]; unfold unt
  rw [if_neg h1, if_neg h2, if_neg h3, if_neg h4, if_neg h5]
theorem simWeak {f g : Fm} (h : f.Sim) (h' : g.Sim) : (sWeak f g).Sim := by
  unfold sWeak
  split
  · exact simT
  split
  · exact h'
  split
  · exact simAlways h (.inr rfl)
  split
  · exact h
  rename_i h1 h2 h3 h4
  refine sim2 h h' ?_
  show sWeak f g = _
  unfold sWeak
  rw [if_neg h1, if_neg h2, if_neg h3, if_neg h4]
theorem simStrong {f g : Fm} (h : f.Sim) (h' : g.Sim) : (sStrong f g).Sim := by
  unfold sStrong
  split
  · exact simF
  split
  · exact h'
  split
  · exact simAlways h (.inl rfl)
  split
  · exact h
  rename_i h1 h2 h3 h4
  refine sim2 h h' ?_
  show sStrong f g = _
  unfold sStrong
  rw [if_neg h1, if_neg h2, if_neg h3, if_neg h4]
theorem simRule {op : Int} {f g : Fm} (h : f.Sim) (h' : g.Sim) : (ruleF op f g).Sim := by
  unfold ruleF
  split
  · exact simNot h
  split
  · exact simLat h h' fun _ _ => rfl
  split
  · exact simLat h h' fun _ _ => rfl
  split
  · exact simImp h h'
  split
  · exact simIff h h'
  split
  · exact simNext h
  split
  · exact simAlways h (.inl rfl)
  split
  · exact simAlways h (.inr rfl)
  split
  · exact simUnt h h' (.inl rfl) fun _ _ => rfl
  split
  · exact simUnt h h' (.inr rfl) fun _ _ => rfl
  split
  · exact simWeak h h'
  · exact simStrong h h'
theorem all_head {P : Fm → Prop} (hT : P (leafF 1)) {l : List Fm} (h : ∀ k ∈ l, P k) : P (l.headD (leafF 1)) ∧ P ((l.drop 1).headD (leafF 1)) := by
  match l, h with
  | [], _ => exact ⟨hT, hT⟩
  | [x], h => exact ⟨h x (by simp), hT⟩
  | x :: y :: l, h => exact ⟨h x (by simp), h y (by simp)⟩
theorem simSimple (f : Fm) : f.simple.Sim := by
  induction f using Fm.ind_ with | h o n ks ih
  unfold Fm.simple
  split
  · exact .leaf _ _
  · rw [simpleL_map]
    have h := all_head (P := Fm.Sim) (simLeaf 1) (l := ks.map Fm.simple) fun k hk => by
      obtain ⟨x, hx, rfl⟩ := List.mem_map.1 hk
      exact ih x hx
    exact simRule h.1 h.2
theorem simple_again (f : Fm) : f.simple.simple = f.simple := (simSimple f).eq
end Go.Proofs.YtmmakkaolknbaaaGreatDoor
