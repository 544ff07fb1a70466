/- tree.walk, tree.All: an iterator over a tree: what comes, in its order. -/
import Derived.Test.YtmmakkaolknbaaaGreatDoorPath
import Derived.RangeFuncNested
import Derived.RangeFuncBound
import Derived.RangeFuncCalls
import Derived.RangeFuncLeaves
import Derived.OwnWalkIn
import Derived.TacticsInMore
import Derived.LoopNIn
import Derived.LoopIn
namespace Go.Proofs.YtmmakkaolknbaaaGreatDoor
set_option linter.unusedVariables false
set_option linter.unusedSimpArgs false
open Go.RowKit Go.Shelf
attribute [local go_sem] Oper.semAt_some

/-- What comes in a round: a path and a tree's three fields. -/
structure Vis where
  path : ByteArray
  op : Int
  nm : ByteArray
  a : Option Addr
  n : Nat
  c : Nat
  hz : nm.size ≤ 9223372036854775807
abbrev Vis.encs (x : Vis) : Array Value := #[.string x.path, fv x.op x.nm x.a x.n x.c]
def Vis.key (x : Vis) : Int × ByteArray := (x.op, x.nm)
mutual
/-- Op and Name of all that stands in it, from left to right. -/
def Fm.flat : Fm → List (Int × ByteArray)
  | .mk o n ks => (o, n) :: Fm.flatL ks
def Fm.flatL : List Fm → List (Int × ByteArray)
  | [] => []
  | k :: ks => k.flat ++ Fm.flatL ks
end
mutual
theorem Fm.flat_len : ∀ (f : Fm), f.flat.length = f.size
  | .mk o n ks => by simp only [Fm.flat, Fm.size, List.length_cons, Fm.flatL_len ks]; omega
theorem Fm.flatL_len : ∀ (ks : List Fm), (Fm.flatL ks).length = Fm.sizeL ks
  | [] => rfl
  | k :: ks => by simp only [Fm.flatL, Fm.sizeL, List.length_append, Fm.flat_len k, Fm.flatL_len ks]
end
theorem Fm.flatL_append (l m : List Fm) : Fm.flatL (l ++ m) = Fm.flatL l ++ Fm.flatL m := by
  induction l with
  | nil => rfl
  | cons k l ih => simp [Fm.flatL, ih]

/-- What a round keeps: blocks of Y, all lists of trees. -/
def KpY (Y : Nat → Prop) (W W' : World) : Prop :=
  W.heap.size ≤ W'.heap.size ∧ (∀ b, Y b → b < W.heap.size → W'.heap[b]? = W.heap[b]?) ∧ ∀ (b : Nat) (cs : Array Value), W.heap[b]? = some (Obj.cells cs 25 (0, 0)) → W'.heap[b]? = some (Obj.cells cs 25 (0, 0))
theorem KpY.trans {Y : Nat → Prop} {A B C : World} (h : KpY Y A B) (k : KpY Y B C) : KpY Y A C :=
  ⟨Nat.le_trans h.1 k.1, fun b hb hl => (k.2.1 b hb (Nat.lt_of_lt_of_le hl h.1)).trans (h.2.1 b hb hl), fun b cs hc => k.2.2 b cs (h.2.2 b cs hc)⟩
theorem KpY.of {Y : Nat → Prop} {A B : World} (h : Below A.heap.size A B) : KpY Y A B :=
  ⟨h.size, fun b _ hl => h.block b hl, fun b _ hc => (h.block b (Array.getElem?_eq_some_iff.1 hc).1).trans hc⟩
theorem KpY.refl (Y : Nat → Prop) (A : World) : KpY Y A A := KpY.of (Below.refl _ _)
theorem IsTX.kpy {Y : Nat → Prop} {w w1 : World} (h : KpY Y w w1) {op : Int} {nm : ByteArray} {a : Option Addr} {n c : Nat} {f : Fm} (hT : IsTX Y w op nm a n c f) : IsTX Y w1 op nm a n c f := hT.move h.2.1
theorem IsSX.kpy {Y : Nat → Prop} {w w1 : World} (h : KpY Y w w1) {a : Option Addr} {n c : Nat} {ks : List Fm} (hT : IsSX Y w a n c ks) : IsSX Y w1 a n c ks := hT.move h.2.1
/-- A box of a tree, kept. -/
theorem KpY.box {Y : Nat → Prop} {A B : World} (h : KpY Y A B) {b : Nat} {op : Int} {nm : ByteArray} {a : Option Addr} {n c : Nat} (hb : A.heap[b]? = some (.cells #[.int .u8 op, .string nm, .slice a n c] 25 (0, 0))) :
    B.cell? ⟨b, 0, none⟩ = some (.int .u8 op) ∧ B.cell? ⟨b, 1, none⟩ = some (.string nm) ∧ B.cell? ⟨b, 2, none⟩ = some (.slice a n c) := by
  have hk := h.2.2 b _ hb
  refine ⟨?_, ?_, ?_⟩ <;> simp [World.cell?, hk]
def WP (Y : Nat → Prop) (J Jx : List Vis → World → Prop) (pre : List Vis) (L : List (Int × ByteArray)) (W : World) (e : Ending) (W' : World) : Prop :=
  (e = .returned (.bool true) ∧ (∃ xs : List Vis, xs.map Vis.key = L ∧ J (pre ++ xs) W') ∧ KpY Y W W') ∨ (e = .returned (.bool false) ∧ ∃ xs : List Vis, xs.map Vis.key <+: L ∧ Jx (pre ++ xs) W')

/-- What has come of a round's region: its values, its memory. -/
structure WJ (W0 : World) (x path : Value) (k : Value) (N : Nat) (y : Value) (A B : World → Prop) (L : Nat → Bool) (vals : Nat → Value) (W : World) : Prop where
  b : L 5 = false → Below W0.heap.size W0 W
  v0 : L 0 = true → vals 0 = x
  v1 : L 1 = true → vals 1 = path
  v2 : L 2 = true → vals 2 = k
  v3 : L 3 = true → ∃ s : ByteArray, vals 3 = .string s ∧ s.size ≤ N
  v4 : L 4 = true → vals 4 = y
  d : L 5 = true → ∀ i, i < 5 → L i = true
  d3 : L 3 = true → L 1 = true ∧ L 2 = true
  d6 : L 6 = true → L 5 = true
  v5 : L 5 = true → (vals 5 = .bool true ∧ A W) ∨ (vals 5 = .bool false ∧ B W)
  v6 : L 6 = true → (vals 6 = .bool false ∧ A W) ∨ (vals 6 = .bool true ∧ B W)
theorem WJ.no {W0 : World} {x path k : Value} {N : Nat} {y : Value} {A B : World → Prop} {L : Nat → Bool} {vals : Nat → Value} {W : World} (h : WJ W0 x path k N y A B L vals W) {i : Nat} (hi : i < 5) (hL : L i = false) : L 5 = false ∧ L 6 = false := by
  have h5 : L 5 = false := by
    cases e : L 5 with
    | false => rfl
    | true => have := h.d e i hi; rw [hL] at this; cases this
  refine ⟨h5, ?_⟩
  cases e : L 6 with
  | false => rfl
  | true => have := h.d6 e; rw [h5] at this; cases this
theorem WJ.put {W0 : World} {x path k : Value} {N : Nat} {y : Value} {A B : World → Prop} {L : Nat → Bool} {vals : Nat → Value} {W W' : World} (h : WJ W0 x path k N y A B L vals W) {i : Nat} (hi : i < 5) (hL : L i = false) (v : Value) (hb : Below W.heap.size W W')
    (hv : (i = 0 → v = x) ∧ (i = 1 → v = path) ∧ (i = 2 → v = k) ∧ (i = 3 → ∃ s : ByteArray, v = .string s ∧ s.size ≤ N) ∧ (i = 4 → v = y)) (h3 : i = 3 → L 1 = true ∧ L 2 = true) : WJ W0 x path k N y A B (updL L i) (updV vals i v) W' := by
  obtain ⟨h5, h6⟩ := h.no hi hL
  have n5 : updL L i 5 = false := by simp [updL, h5]; omega
  have n6 : updL L i 6 = false := by simp [updL, h6]; omega
  have g : ∀ j, updL L i j = true → (j = i ∧ updV vals i v j = v) ∨ (j ≠ i ∧ L j = true ∧ updV vals i v j = vals j) := fun j hj => by
    by_cases e : j = i
    · exact .inl ⟨e, by simp [updV, e]⟩
    · exact .inr ⟨e, by simpa [updL, e] using hj, by simp [updV, e]⟩
  exact {
    b := fun _ => below_to (h.b h5) hb
    v0 := fun e => by rcases g 0 e with ⟨e1, e2⟩ | ⟨_, e1, e2⟩; exact e2.trans (hv.1 e1.symm); exact e2.trans (h.v0 e1)
    v1 := fun e => by rcases g 1 e with ⟨e1, e2⟩ | ⟨_, e1, e2⟩; exact e2.trans (hv.2.1 e1.symm); exact e2.trans (h.v1 e1)
    v2 := fun e => by rcases g 2 e with ⟨e1, e2⟩ | ⟨_, e1, e2⟩; exact e2.trans (hv.2.2.1 e1.symm); exact e2.trans (h.v2 e1)
    v3 := fun e => by
      rcases g 3 e with ⟨e1, e2⟩ | ⟨_, e1, e2⟩
      · obtain ⟨s, hs, hz⟩ := hv.2.2.2.1 e1.symm; exact ⟨s, e2.trans hs, hz⟩
      · obtain ⟨s, hs, hz⟩ := h.v3 e1; exact ⟨s, e2.trans hs, hz⟩
    v4 := fun e => by rcases g 4 e with ⟨e1, e2⟩ | ⟨_, e1, e2⟩; exact e2.trans (hv.2.2.2.2 e1.symm); exact e2.trans (h.v4 e1)
    d := fun e => by rw [n5] at e; cases e
    d3 := fun e => by
      rcases g 3 e with ⟨e1, _⟩ | ⟨_, e1, _⟩
      · have := h3 e1.symm; simp [updL, this]
      · have := h.d3 e1; simp [updL, this]
    d6 := fun e => by rw [n6] at e; cases e
    v5 := fun e => by rw [n5] at e; cases e
    v6 := fun e => by rw [n6] at e; cases e }
theorem WJ.call {W0 : World} {x path k : Value} {N : Nat} {y : Value} {A B : World → Prop} {L : Nat → Bool} {vals : Nat → Value} {W W' : World} (h : WJ W0 x path k N y A B L vals W) (hL : L 5 = false) (hall : ∀ i, i < 5 → L i = true) (v : Value)
    (hv : (v = .bool true ∧ A W') ∨ (v = .bool false ∧ B W')) : WJ W0 x path k N y A B (updL L 5) (updV vals 5 v) W' := by
  have n6 : L 6 = false := by
    cases e : L 6 with
    | false => rfl
    | true => have := h.d6 e; rw [hL] at this; cases this
  exact {
    b := fun e => by simp [updL] at e
    v0 := fun _ => h.v0 (hall 0 (by omega))
    v1 := fun _ => h.v1 (hall 1 (by omega))
    v2 := fun _ => h.v2 (hall 2 (by omega))
    v3 := fun _ => h.v3 (hall 3 (by omega))
    v4 := fun _ => h.v4 (hall 4 (by omega))
    d := fun _ i hi => by have := hall i hi; simp [updL, this]
    d3 := fun e => by have := h.d3 (hall 3 (by omega)); simp [updL, this]
    d6 := fun e => by simp [updL]
    v5 := fun _ => hv
    v6 := fun e => by have : L 6 = true := by simpa [updL] using e
                      rw [n6] at this; cases this }
theorem WJ.last {W0 : World} {x path k : Value} {N : Nat} {y : Value} {A B : World → Prop} {L : Nat → Bool} {vals : Nat → Value} {W : World} (h : WJ W0 x path k N y A B L vals W) (h5 : L 5 = true) (v : Value)
    (hv : (v = .bool false ∧ A W) ∨ (v = .bool true ∧ B W)) : WJ W0 x path k N y A B (updL L 6) (updV vals 6 v) W := by
  have hall := h.d h5
  exact {
    b := fun e => by have : L 5 = false := by simpa [updL] using e
                     rw [h5] at this; cases this
    v0 := fun _ => h.v0 (hall 0 (by omega))
    v1 := fun _ => h.v1 (hall 1 (by omega))
    v2 := fun _ => h.v2 (hall 2 (by omega))
    v3 := fun _ => h.v3 (hall 3 (by omega))
    v4 := fun _ => h.v4 (hall 4 (by omega))
    d := fun _ i hi => by have := hall i hi; simp [updL, this]
    d3 := fun e => by have := h.d3 (hall 3 (by omega)); simp [updL, this]
    d6 := fun _ => by simpa [updL] using h5
    v5 := fun _ => h.v5 h5
    v6 := fun _ => hv }

set_option maxRecDepth 100000 in
set_option maxHeartbeats 4000000 in
/-- tree.walk. -/
theorem walkIn_c (l N : Nat) (Y : Nat → Prop) (B0 : Nat) (J Jx : List Vis → World → Prop) (hJ : AbidesFrom B0 J)
    (hY : ∀ m pre (x : Vis) W, J pre W → pre.length < N → YieldAt Fence.wide m Tryz.prog l x.encs W fun e W' => (e = .returned (.bool true) ∧ J (pre ++ [x]) W' ∧ KpY Y W W') ∨ (e = .returned (.bool false) ∧ Jx (pre ++ [x]) W'))
    (f : Fm) : ∀ (n' : Nat) (path : ByteArray) (op : Int) (nm : ByteArray) (a : Option Addr) (n c : Nat) (pre : List Vis) (W : World), IsTX Y W op nm a n c f → f.Wf → f.size ≤ 1000000000000 → path.size + 2 * f.depth ≤ 1000000 → J pre W → pre.length + f.size ≤ N →
    CallsIn Fence.wide n' Tryz.prog 128 #[fv op nm a n c, .string path, .func (.yield l) #[] #[]] W (WP Y J Jx pre f.flat W) := by
  induction f using Fm.ind_ with | h o_ n_ ks ih
  intro n' path op nm a n c pre w h hw hsz hpd hj hN
  obtain ⟨h0, h1, h2, ks_, e, hS⟩ := h.parts
  obtain ⟨rfl, rfl, rfl⟩ : op = o_ ∧ nm = n_ ∧ ks = ks_ := by cases e; exact ⟨rfl, rfl, rfl⟩
  clear e
  have hn1 : n ≤ 9223372036854775807 := Nat.le_trans hS.2.1 hS.2.2.1
  have HC := Aside.mk (fun W (hW : Below w.heap.size w W) => (callsIn_wide (n := n' - 1)).2 (copy_c (Fm.mk op nm ks) op nm a n c W (h.any.keep hW) hsz))
  refine callsIn_of_wp Tryz.func128 rfl trivial ?_ rfl
  simp only [Tryz.ntmps128, List.size_toArray, List.length_cons, List.length_nil, Nat.reduceAdd, Nat.reduceSub, Array.replicate_succ, Array.replicate_zero, List.push_toArray, List.append_toArray, List.nil_append, List.cons_append]
  have hfl := Fm.flat_len (Fm.mk op nm ks)
  have hs1 := (Fm.mk op nm ks).size_pos
  have HFL : Aside ((Fm.mk op nm ks).flat = (op, nm) :: Fm.flatL ks) := ⟨rfl⟩
  have HZ : Aside (∀ x ∈ ks, x.size ≤ 1000000000000 ∧ path.size + 2 + 2 * x.depth ≤ 1000000 ∧ x.Wf) := ⟨fun x hx => by
    have a1 := Fm.size_mem hx
    have a2 := Fm.depth_mem hx
    simp only [Fm.size] at hsz
    simp only [Fm.depth] at hpd
    exact ⟨by omega, by omega, hw.kid x hx⟩⟩
  have hpz : path.size ≤ 1000000 := by omega
  have hk2 : n ≤ 2 := by
    have := hw.len
    have := kidsOf_range op
    have := hS.1
    simp only [Fm.op_mk, Fm.ks_mk] at *
    omega
  have HNL : Aside (pre.length + 1 + Fm.sizeL ks ≤ N) := ⟨by simp only [Fm.size] at hN; omega⟩
  have HN := Aside.mk hS.1
  have HS := Aside.mk hS
  have IH := Aside.mk ih
  have HJ := Aside.mk hJ
  have HY := Aside.mk hY
  have Hj := Aside.mk hj
  generalize (Fm.mk op nm ks).flat = FL at HFL ⊢
  clear h hw hsz hpd hN hS ih hJ hY hj hfl hs1
  gi_wp2_with fail
  refine ⟨trivial, fun h => (by cases h), ?_⟩
  refine (HC.out _ (by repeat (first | (with_reducible exact Below.refl _ _) | (with_reducible assumption) | refine below_alloc ?_ _ | refine Below.drew ?_ | refine below_drewN ?_ _))).mono ?_
  rintro e w2 ⟨o2, n2, a2, l2, d2, rfl, hT2, hb2⟩
  obtain ⟨rfl, rfl⟩ : o2 = op ∧ n2 = nm := by
    obtain ⟨_, _, _, ks2, e2, _⟩ := hT2.parts
    cases e2
    exact ⟨rfl, rfl⟩
  have hj2 : J pre w2 := HJ.out _ _ _ none Hj.out (grown_of_bel (below_to (by repeat (first | (with_reducible exact Below.refl _ _) | (with_reducible assumption) | refine below_alloc ?_ _ | refine Below.drew ?_ | refine below_drewN ?_ _)) hb2) _) (fun r e => by cases e)
  have hbx : w2.heap[w.heap.size]? = some (.cells #[.int .u8 o2, .string n2, .slice a n c] 25 (0, 0)) := (hb2.block _ (by simp)).trans (heap_alloc_new w _)
  have HKW : Aside (KpY Y w w2) := ⟨KpY.of (below_to (by repeat (first | (with_reducible exact Below.refl _ _) | (with_reducible assumption) | refine below_alloc ?_ _ | refine Below.drew ?_ | refine below_drewN ?_ _)) hb2)⟩
  obtain ⟨fn, tmps, assign, body, hy, hR⟩ := HY.out (n' - 1) pre ⟨path, o2, n2, a2, l2, d2, h2⟩ w2 hj2 (by have := HNL.out; omega)
  dsimp only [Vis.encs] at hy
  have HBX := Aside.mk hbx
  have HR := Aside.mk hR
  clear hT2 hb2 hj2 hbx hR Hj HC
  gi_wp2_with fail
  refine ⟨fun h => (by cases h), ?_⟩
  refine HR.out.mono ?_
  rintro e w3 (⟨rfl, hj3, hk3⟩ | ⟨rfl, hx3⟩)
  · have HJ3 := Aside.mk hj3
    have HK3 : Aside (KpY Y w w3) := ⟨HKW.out.trans hk3⟩
    obtain ⟨c0, c1, c2⟩ := hk3.box HBX.out
    clear hj3 hk3 hy
    gi_wp2_with fail
    refine wpIn_wide.2 ?_
    go_loopg [18] n (fun gg s18 wr => ∃ (k : Nat) (xs : List Vis), k ≤ n ∧ n - k ≤ gg ∧ s18 = .int .i64 k ∧ Aside (xs.map Vis.key = (o2, n2) :: Fm.flatL (ks.take k)) ∧ Aside (J (pre ++ xs) wr) ∧ Aside (KpY Y w wr))
    case atStart => exact ⟨0, [⟨path, o2, n2, a2, l2, d2, h2⟩], Nat.zero_le _, by omega, rfl, ⟨rfl⟩, HJ3, HK3⟩
    case round =>
      obtain ⟨k, xs, hk, hg, rfl, HX, HJr, HKr⟩ := hrel
      by_cases hlt : k < n
      · have hlti : (k : Int) < (n : Int) := by omega
        obtain ⟨b, o, rfl, hbl, x, op1, nm1, a1, n1, cc1, X, q0, q1, q2, hT1⟩ := (HS.out.kpy HKr.out).at_ k hlt
        have hxl : xs.length = 1 + Fm.sizeL (ks.take k) := by
          have := congrArg List.length HX.out
          simpa [Fm.flatL_len, Nat.add_comm] using this
        have hsl : Fm.sizeL (ks.take k) + x.size ≤ Fm.sizeL ks := by
          have e1 := Fm.sizeL_take_le ks (k + 1)
          rw [X.take, Fm.sizeL_append] at e1
          simp only [Fm.sizeL] at e1
          omega
        have HC := Aside.mk (fun (s : ByteArray) (hs : s.size ≤ path.size + 2) (W : World) (hW : Below wr.heap.size wr W) => (callsIn_wide (n := 0)).1 (IH.out x X.mem 0 s op1 nm1 a1 n1 cc1 (pre ++ xs) W (hT1.keep hW) (HZ.out x X.mem).2.2 (HZ.out x X.mem).1 (by have := (HZ.out x X.mem).2.1; omega)
          (HJ.out _ _ _ none HJr.out (grown_of_bel hW _) (fun r e => by cases e)) (by have := HNL.out; simp [hxl]; omega)))
        have HXX := Aside.mk X
        have HP := Aside.mk (fun W => below_c path hpz k (by omega) W)
        clear hT1 X hxl hsl
        go_wp2_with fail
        refine wp_region_inv 7 (WJ (wr.alloc (.cells #[.int .u8 op1, .string nm1, .slice a1 n1 cc1] 25)) (fv op1 nm1 a1 n1 cc1) (.string path) (.int .i64 k) (path.size + 2) (.func (.yield l) #[] #[])
          (fun W => ∃ ys : List Vis, ys.map Vis.key = x.flat ∧ J (pre ++ (xs ++ ys)) W ∧ KpY Y w W) (fun W => ∃ ys : List Vis, ys.map Vis.key <+: x.flat ∧ Jx (pre ++ (xs ++ ys)) W)) (by kernel_rfl) (by kernel_rfl) ?_ ?_ ?_
        · intro L vals hL
          have hf : ∀ j, j < 7 → L j = true → False := fun j hj e => by rw [hL j (by simpa using hj)] at e; cases e
          exact ⟨fun _ => below_drewN (Below.refl _ _) 1, fun e => (hf _ (by omega) e).elim, fun e => (hf _ (by omega) e).elim, fun e => (hf _ (by omega) e).elim, fun e => (hf _ (by omega) e).elim, fun e => (hf _ (by omega) e).elim, fun e => (hf _ (by omega) e).elim, fun e => (hf _ (by omega) e).elim, fun e => (hf _ (by omega) e).elim, fun e => (hf _ (by omega) e).elim, fun e => (hf _ (by omega) e).elim⟩
        · simp only [List.take_succ_cons, List.take_zero]
          refine inv_cons ?_ (inv_cons ?_ (inv_cons ?_ (inv_cons ?_ (inv_cons ?_ (inv_cons ?_ (inv_cons ?_ inv_nil))))))
          all_goals intro L vals W hL hE hW; try simp only [Act.put, List.setIfInBounds_toArray, List.set_cons_zero, List.set_cons_succ]
          · have HW := Aside.mk hW
            have HL := Aside.mk hL
            have hB := hW.b (hW.no (by omega) hL).1
            have z0 : W.cell? ⟨wr.heap.size, 0, none⟩ = some (.int .u8 op1) := cell_below hB (by go_simp)
            have z1 : W.cell? ⟨wr.heap.size, 1, none⟩ = some (.string nm1) := cell_below hB (by go_simp)
            have z2 : W.cell? ⟨wr.heap.size, 2, none⟩ = some (.slice a1 n1 cc1) := cell_below hB (by go_simp)
            clear hW hL hE hB
            go_wp2_with fail
            exact ⟨rfl, _, rfl, HW.out.put (by omega) HL.out _ (Below.refl _ _) (by simp) (by omega)⟩
          · have HW := Aside.mk hW
            have HL := Aside.mk hL
            clear hW hL hE
            go_wp2_with fail
            exact ⟨rfl, _, rfl, HW.out.put (by omega) HL.out _ (Below.refl _ _) (by simp) (by omega)⟩
          · have HW := Aside.mk hW
            have HL := Aside.mk hL
            clear hW hL hE
            go_wp2_with fail
            exact ⟨rfl, _, rfl, HW.out.put (by omega) HL.out _ (Below.refl _ _) (by simp) (by omega)⟩
          · have HW := Aside.mk hW
            have HL := Aside.mk hL
            have HE3 := Aside.mk (And.intro (hE ⟨1, .data⟩ (by simp) rfl) (hE ⟨2, .data⟩ (by simp) rfl))
            have e1 : vals (0 + 1) = _ := hW.v1 (hE ⟨1, .data⟩ (by simp) rfl)
            have e2 : vals (0 + 1 + 1) = _ := hW.v2 (hE ⟨2, .data⟩ (by simp) rfl)
            simp only [e1, e2]
            clear hW hL hE
            go_wp2_with fail
            refine (HP.out _).mono ?_
            rintro e w5 ⟨⟨s, rfl, hs⟩, rfl⟩
            go_wp2_with fail
            exact ⟨rfl, _, rfl, HW.out.put (by omega) HL.out _ (Below.refl _ _) ⟨by omega, by omega, by omega, fun _ => ⟨s, rfl, hs⟩, by omega⟩ (fun _ => HE3.out)⟩
          · have HW := Aside.mk hW
            have HL := Aside.mk hL
            clear hW hL hE
            go_wp2_with fail
            exact ⟨rfl, _, rfl, HW.out.put (by omega) HL.out _ (Below.refl _ _) (by simp) (by omega)⟩
          · have l0 := hE ⟨0, .data⟩ (by simp) rfl
            have l3 := hE ⟨3, .data⟩ (by simp) rfl
            have l4 := hE ⟨4, .data⟩ (by simp) rfl
            have hall : ∀ i, i < 5 → L i = true := fun i hi => by
              have := hW.d3 l3
              rcases (show i = 0 ∨ i = 1 ∨ i = 2 ∨ i = 3 ∨ i = 4 by omega) with rfl | rfl | rfl | rfl | rfl
              · exact l0
              · exact this.1
              · exact this.2
              · exact l3
              · exact l4
            have HW := Aside.mk hW
            have HL := Aside.mk hL
            have HA := Aside.mk hall
            have e0 : vals 0 = _ := hW.v0 l0
            obtain ⟨s, e3, hs⟩ := hW.v3 l3
            have e4 : vals (0 + 1 + 1 + 1 + 1) = _ := hW.v4 l4
            have hB := below_to ((Below.refl wr.heap.size wr).alloc (Nat.le_refl _) _) (hW.b hL)
            have HCC := Aside.mk (HC.out s hs W hB)
            have HKW := Aside.mk (HKr.out.trans (KpY.of hB))
            have e3' : vals (0 + 1 + 1 + 1) = _ := e3
            simp only [e0, e3', e4]
            clear hW hL hE hall hB l0 l3 l4
            go_wp2_with fail
            refine HCC.out.mono ?_
            rintro e w5 (⟨rfl, ⟨ys, hys, hjy⟩, hky⟩ | ⟨rfl, ys, hys, hjy⟩)
            · have HY1 := Aside.mk (And.intro hys (And.intro hjy hky))
              clear hys hjy hky
              go_wp2_with fail
              exact ⟨rfl, _, rfl, HW.out.call HL.out HA.out _ (.inl ⟨rfl, ys, HY1.out.1, by rw [← List.append_assoc]; exact HY1.out.2.1, HKW.out.trans HY1.out.2.2⟩)⟩
            · have HY1 := Aside.mk (And.intro hys hjy)
              clear hys hjy
              go_wp2_with fail
              exact ⟨rfl, _, rfl, HW.out.call HL.out HA.out _ (.inr ⟨rfl, ys, HY1.out.1, by rw [← List.append_assoc]; exact HY1.out.2⟩)⟩
          · have l5 := hE ⟨5, .data⟩ (by simp) rfl
            have HW := Aside.mk hW
            have HL5 := Aside.mk l5
            rcases hW.v5 l5 with ⟨e5, hA⟩ | ⟨e5, hB⟩
            · have e5' : vals (0 + 1 + 1 + 1 + 1 + 1) = _ := e5
              have HA := Aside.mk hA
              simp only [e5']
              clear hW hE l5 hA hL
              go_wp2_with fail
              exact ⟨rfl, _, rfl, HW.out.last HL5.out _ (.inl ⟨rfl, HA.out⟩)⟩
            · have e5' : vals (0 + 1 + 1 + 1 + 1 + 1) = _ := e5
              have HB := Aside.mk hB
              simp only [e5']
              clear hW hE l5 hB hL
              go_wp2_with fail
              exact ⟨rfl, _, rfl, HW.out.last HL5.out _ (.inr ⟨rfl, HB.out⟩)⟩
        · intro L vals W hL hW
          rcases hW.v6 (hL 6 (by omega)) with ⟨e6, ys, hys, hjy, hky⟩ | ⟨e6, ys, hys, hjy⟩
          · have HY1 := Aside.mk (And.intro hys (And.intro hjy hky))
            simp only [List.take_succ_cons, List.take_zero, List.drop_succ_cons, List.drop_zero, lexL, Act.put, List.setIfInBounds_toArray, List.set_cons_zero, List.set_cons_succ, Nat.zero_add, Nat.reduceAdd, e6]
            clear hW hL hys hjy hky
            go_wp2_with fail
            go_roundg (n - (k + 1))
            case measure => omega
            case rel => exact ⟨k + 1, xs ++ ys, by omega, by omega, by go_num, ⟨by rw [List.map_append, HX.out, HY1.out.1, HXX.out.take, Fm.flatL_append]; simp [Fm.flatL]⟩, ⟨HY1.out.2.1⟩, ⟨HY1.out.2.2⟩⟩
          · have HY1 := Aside.mk (And.intro hys hjy)
            simp only [List.take_succ_cons, List.take_zero, List.drop_succ_cons, List.drop_zero, lexL, Act.put, List.setIfInBounds_toArray, List.set_cons_zero, List.set_cons_succ, Nat.zero_add, Nat.reduceAdd, e6]
            clear hW hL hys hjy
            go_wp2_with fail
            go_ret
            refine .inr ⟨rfl, xs ++ ys, ?_, HY1.out.2⟩
            rw [HFL.out, List.map_append, HX.out, ← List.take_append_drop k ks, Fm.flatL_append, List.take_append_drop, HXX.out.drop]
            obtain ⟨t, ht⟩ := HY1.out.1
            exact ⟨t ++ Fm.flatL (ks.drop (k + 1)), by simp [Fm.flatL, ← ht]⟩
      · have hlti : ¬ (k : Int) < (n : Int) := by omega
        have hT : ks.take k = ks := List.take_of_length_le (by have := HN.out; omega)
        rw [hT] at HX
        clear hT
        go_wp2_with fail
        gi_wp2_with fail
        go_ret
        exact .inl ⟨rfl, ⟨xs, by rw [HFL.out]; exact HX.out, HJr.out⟩, HKr.out⟩
  · have HX3 := Aside.mk hx3
    clear hx3 hy
    gi_wp2_with fail
    go_ret
    exact .inr ⟨rfl, [⟨path, o2, n2, a2, l2, d2, h2⟩], by rw [HFL.out]; exact ⟨_, rfl⟩, HX3.out⟩

/-- tree.All: its copy's box, and the function over it. -/
def AllP (f : Fm) (w : World) (e : Ending) (w' : World) : Prop :=
  ∃ B op nm a n c, e = .returned (.func (.func 127) #[] #[.pointer (some ⟨B, 0, none⟩)]) ∧ w.heap.size ≤ B ∧ w'.heap[B]? = some (Obj.cells #[.int .u8 op, .string nm, .slice a n c] 25 (0, 0)) ∧ IsTX (fun b => w.heap.size ≤ b) w' op nm a n c f ∧ Below w.heap.size w w'
set_option maxHeartbeats 1000000 in
theorem All_c (f : Fm) (op : Int) (nm : ByteArray) (a : Option Addr) (n c : Nat) (w : World) (h : IsT w op nm a n c f) (hsz : f.size ≤ 1000000000000) :
    Calls Tryz.prog 60 #[fv op nm a n c] w (AllP f w) := by
  have HC := Aside.mk (fun W (hW : Below w.heap.size w W) => copy_c f op nm a n c W (h.keep hW) hsz)
  clear h hsz
  go_enter Tryz.func60, Tryz.ntmps60
  go_wp2_with fail
  refine (HC.out _ (by repeat (first | (with_reducible exact Below.refl _ _) | (with_reducible assumption) | refine below_alloc ?_ _ | refine Below.drew ?_ | refine below_drewN ?_ _))).mono ?_
  rintro e w2 ⟨o2, n2, a2, l2, d2, rfl, hT2, hb2⟩
  have HT := Aside.mk hT2
  have HB : Aside (Below w.heap.size w w2) := ⟨below_to (by repeat (first | (with_reducible exact Below.refl _ _) | (with_reducible assumption) | refine below_alloc ?_ _ | refine Below.drew ?_ | refine below_drewN ?_ _)) hb2⟩
  have hsz2 : w.heap.size ≤ w2.heap.size := HB.out.size
  clear hT2 hb2 HC
  go_wp2_with fail
  go_ret
  exact ⟨w2.heap.size, o2, n2, a2, l2, d2, rfl, hsz2, heap_alloc_new w2 _, (HT.out.mono fun b hb _ => hb.elim False.elim fun hb => by (try simp at hb); omega).keep (by repeat (first | (with_reducible exact Below.refl _ _) | (with_reducible assumption) | refine below_alloc ?_ _ | refine Below.drew ?_ | refine below_drewN ?_ _)), below_to HB.out (by repeat (first | (with_reducible exact Below.refl _ _) | (with_reducible assumption) | refine below_alloc ?_ _ | refine Below.drew ?_ | refine below_drewN ?_ _))⟩

theorem room_of_none_ {F : Fence} (hd : F.depth = none) (k : Nat) : F.room k := fun d h => by rw [hd] at h; cases h
theorem RoundIn.anyDepth_ {F : Fence} (hd : F.depth = none) {m m' : Nat} {P : Program} {l : Nat} {f : FuncId} {tmps : Array Value} {assign body : Code} {w : World} {R : Ending → World → Prop}
    (h : RoundIn F m P l f tmps assign body w R) : RoundIn F m' P l f tmps assign body w R := ⟨h.1, fun c cs _ => h.2 c cs (room_of_none_ hd _)⟩
theorem YieldAt.anyDepth_ {F : Fence} (hd : F.depth = none) {m : Nat} (m' : Nat) {P : Program} {l : Nat} {args : Array Value} {W : World} {R : Ending → World → Prop} (h : YieldAt F m P l args W R) : YieldAt F m' P l args W R := by
  obtain ⟨fn, tmps, assign, body, hy, hR⟩ := h
  exact ⟨fn, tmps, assign, body, hy, RoundIn.anyDepth_ hd hR⟩

set_option maxRecDepth 100000 in
set_option maxHeartbeats 1000000 in
/-- What All hands back: an iterator over the tree. -/
theorem all_stops (n : Nat) (Y : Nat → Prop) (B : Nat) (f : Fm) (op : Int) (nm : ByteArray) (a : Option Addr) (m c : Nat) (w : World) (hB : w.heap[B]? = some (Obj.cells #[.int .u8 op, .string nm, .slice a m c] 25 (0, 0))) (hT : IsTX Y w op nm a m c f)
    (hw : f.Wf) (hsz : f.size ≤ 1000000000000) (hd : f.depth ≤ 400000) :
    SeqStopsK Fence.wide n Tryz.prog 127 #[.pointer (some ⟨B, 0, none⟩)] Vis.encs (KpY Y) (fun xs => xs.map Vis.key = f.flat) (fun _ => True) f.size w := by
  intro l J Jx W hW hJ _ hY hj
  have hBW : W.heap[B]? = some (Obj.cells #[.int .u8 op, .string nm, .slice a m c] 25 (0, 0)) := (hW.block B (Array.getElem?_eq_some_iff.1 hB).1).trans hB
  have c0 : W.cell? ⟨B, 0, none⟩ = some (.int .u8 op) := by simp [World.cell?, hBW]
  have c1 : W.cell? ⟨B, 1, none⟩ = some (.string nm) := by simp [World.cell?, hBW]
  have c2 : W.cell? ⟨B, 2, none⟩ = some (.slice a m c) := by simp [World.cell?, hBW]
  have HC := Aside.mk (walkIn_c l f.size Y W.heap.size J Jx hJ (fun m pre x W1 h1 h2 => YieldAt.anyDepth_ rfl m (hY pre x W1 h1 h2)) f (n - 1) nil8 op nm a m c [] W (hT.keep hW) hw hsz (by show 0 + 2 * f.depth ≤ 1000000; omega) hj (by show 0 + f.size ≤ f.size; omega))
  clear hBW hB hT hJ hY hj hW
  refine callsIn_of_wp Tryz.func127 rfl trivial ?_ rfl
  simp only [Tryz.ntmps127, List.size_toArray, List.length_cons, List.length_nil, Nat.reduceAdd, Nat.reduceSub, Array.replicate_succ, Array.replicate_zero, List.push_toArray, List.append_toArray, List.nil_append, List.cons_append]
  gi_wp2_with fail
  refine ⟨trivial, fun h => (by cases h), ?_⟩
  refine HC.out.mono ?_
  rintro e W1 (⟨rfl, ⟨xs, hxs, hjx⟩, _⟩ | ⟨rfl, xs, _, hjx⟩)
  · have HX := Aside.mk (And.intro hxs hjx)
    clear hxs hjx
    gi_wp2_with fail
    go_end0
    exact ⟨⟨_, rfl⟩, .inl ⟨xs, HX.out.1, by simpa using HX.out.2⟩⟩
  · have HX := Aside.mk hjx
    clear hjx
    gi_wp2_with fail
    go_end0
    exact ⟨⟨_, rfl⟩, .inr ⟨xs, trivial, by simpa using HX.out⟩⟩
end Go.Proofs.YtmmakkaolknbaaaGreatDoor
