/- tree.Names: the names of a tree, each once, in the order in which they come first. -/
import Derived.Test.YtmmakkaolknbaaaGreatDoorWalk
import Derived.RangeFuncBox
import Derived.RangeFuncWrites
import Derived.Maps.OwnIn
import Derived.Maps.OwnOps
import Derived.Maps.Views
import Derived.StringKeys
namespace Go.Proofs.YtmmakkaolknbaaaGreatDoor
set_option linter.unusedVariables false
set_option linter.unusedSimpArgs false
open Go.RowKit Go.Shelf Go.Maps Go.WideMaps
attribute [local go_sem] Oper.semAt_some

/-- A slice of strings. -/
def IsStr (W : World) (a : Option Addr) (n : Nat) (l : List ByteArray) : Prop :=
  n = l.length ∧ n ≤ 9223372036854775807 ∧ (0 < n → ∃ b o, a = some ⟨b, o, none⟩ ∧ ∀ (i : Nat) (h : i < l.length), W.cell? ⟨b, o + i, none⟩ = some (.string l[i]))
theorem IsStr.keep {W W' : World} {a : Option Addr} {n : Nat} {l : List ByteArray} (h : IsStr W a n l) (hb : Below W.heap.size W W') : IsStr W' a n l :=
  ⟨h.1, h.2.1, fun hp => by
    obtain ⟨b, o, e, hc⟩ := h.2.2 hp
    exact ⟨b, o, e, fun i hi => cell_below hb (hc i hi)⟩⟩
theorem IsStr.at_ {W : World} {a : Option Addr} {n : Nat} {l : List ByteArray} (h : IsStr W a n l) (i : Nat) (hi : i < n) : ∃ b o s, a = some ⟨b, o, none⟩ ∧ b < W.heap.size ∧ l[i]? = some s ∧ W.cell? ⟨b, o + i, none⟩ = some (.string s) := by
  obtain ⟨b, o, e, hc⟩ := h.2.2 (by omega)
  have hi' : i < l.length := by have := h.1; omega
  exact ⟨b, o, l[i], e, World.block_lt_of_cell? W _ (hc i hi'), List.getElem?_eq_getElem hi', hc i hi'⟩

open Classical in
noncomputable def nmStep (L : List ByteArray) (x : Int × ByteArray) : List ByteArray := if x.1 = 3 ∧ x.2 ∉ L then L ++ [x.2] else L
noncomputable def nmsOf (l : List (Int × ByteArray)) : List ByteArray := l.foldl nmStep []
noncomputable def Fm.names (f : Fm) : List ByteArray := nmsOf f.flat
theorem nmsOf_snoc (l : List (Int × ByteArray)) (x : Int × ByteArray) : nmsOf (l ++ [x]) = nmStep (nmsOf l) x := by simp [nmsOf]
theorem nmStep_len (L : List ByteArray) (x : Int × ByteArray) : (nmStep L x).length ≤ L.length + 1 := by unfold nmStep; split <;> simp
theorem nmFold_len (l : List (Int × ByteArray)) : ∀ L, (l.foldl nmStep L).length ≤ L.length + l.length := by
  induction l with
  | nil => intro L; simp
  | cons x l ih => intro L; have h1 := ih (nmStep L x); have h2 := nmStep_len L x; simp only [List.foldl_cons, List.length_cons]; omega
theorem nmsOf_len (l : List (Int × ByteArray)) : (nmsOf l).length ≤ l.length := by have := nmFold_len l []; simpa [nmsOf] using this
noncomputable def namesOf (pre : List Vis) : List ByteArray := nmsOf (pre.map Vis.key)

open Classical in
/-- What the map says: which names have come. -/
def SeenD (D : DataW Unit) (L : List ByteArray) : Prop := IsMap D ∧ ∀ s : ByteArray, D.atKey (.string s.data.toList) (.lit (.int .i64 0)) = .lit (.int .i64 (if s ∈ L then 1 else 0))
theorem seen_nil : SeenD (.map []) [] := ⟨isMap_empty, fun s => by rw [if_neg (by simp)]; rfl⟩
theorem seen_put {D : DataW Unit} {L : List ByteArray} (h : SeenD D L) (s : ByteArray) : SeenD (D.put (.string s.data.toList) (.lit (.int .i64 1))) (L ++ [s]) := by
  refine ⟨?_, fun t => ?_⟩
  · obtain ⟨es, rfl⟩ := h.1
    exact ⟨_, rfl⟩
  · by_cases e : t = s
    · subst e
      rw [atKey_put_same h.1 (by simp [WideAt.IsKeyLit]), if_pos (by simp)]
    · rw [atKey_put_other (by intro hh; injection hh with hh; exact e (nm_ext hh)), h.2 t]
      by_cases hm : t ∈ L
      · rw [if_pos hm, if_pos (by simp [hm])]
      · rw [if_neg hm, if_neg (by simp [hm, e])]

structure NI (w w2 : World) (pre : List Vis) (W : World) : Prop where
  b : Below w.heap.size w W
  ge : w2.heap.size ≤ W.heap.size
  mc : W.cell? ⟨w.heap.size + 1 + 1 + 1, 0, none⟩ = some (.map (some (w.heap.size + 1 + 1)))
  ex : ∃ v D, Boxed W (w.heap.size + 1) 34 v ∧ W.ownsRow w2.heap.size 9 1 v (namesOf pre).length ((namesOf pre).map Value.string) ∧ W.ownsMap Tryz.prog 9 (plainElem (H := Unit) Tryz.prog 3) (w.heap.size + 1 + 1) pre.length D ∧ SeenD D (namesOf pre)
theorem NI.grown {w w2 W W' : World} {pre : List Vis} {row : Option Nat} (h : NI w w2 pre W) (hz : w.heap.size + 4 ≤ w2.heap.size) (hg : W.grownBy W' row) (hr : ∀ r, row = some r → w2.heap.size ≤ r ∧ ∃ o : Obj, W.heap[r]? = some o ∧ o.isCells = false) : NI w w2 pre W' := by
  obtain ⟨v, D, h1, h2, h3, h4⟩ := h.ex
  have hlt : ∀ k, k < w2.heap.size → some k ≠ row := fun k hk e => by have := (hr k e.symm).1; omega
  refine ⟨h.b.grown hg h.b.size (fun r e => by have := (hr r e).1; omega), Nat.le_trans h.ge hg.size, ?_, v, D, h1.kept hg (hlt _ (by omega)), h2.kept hg ?_, h3.kept hg (hlt _ (by omega)), h4⟩
  · exact (World.cell?_of_block (w := W) (hg.block _ (World.block_lt_of_cell? W _ h.mc) (hlt _ (by simp; omega)))).trans h.mc
  · rcases h2.2 with ⟨rfl, _⟩ | ⟨g, cap, cur, rfl, _, hgb, _⟩
    · exact .inl rfl
    · refine .inr fun e => ?_
      obtain ⟨_, o, ho, hoc⟩ := hr g e.symm
      rw [hgb] at ho
      cases ho
      cases hoc
theorem NI.alloc {w w2 W : World} {pre : List Vis} (h : NI w w2 pre W) (hz : w.heap.size + 4 ≤ w2.heap.size) (o : Obj) : NI w w2 pre (W.alloc o) :=
  h.grown hz (World.grownBy_alloc W o none) (fun r e => by cases e)
/-- The loop variable's box. -/
def NAx (w w2 : World) (op : Int) (nm : ByteArray) (a : Option Addr) (n c B : Nat) (x : Vis) (a' : Act) (W : World) : Prop :=
  ∃ Bx, w2.heap.size ≤ Bx ∧ W.heap[Bx]? = some (Obj.cells #[.int .u8 x.op, .string x.nm, .slice x.a x.n x.c] 25 (0, 0)) ∧ a' = { tmps :=
        #[fv op nm a n c, .pointer (some ⟨w.heap.size, 0, none⟩), .slice none 0 0, .pointer (some ⟨w.heap.size + 1, 0, none⟩), .pointer (some ⟨w.heap.size + 1 + 1 + 1, 0, none⟩), undef, .pointer (some ⟨Bx, 0, none⟩),
          .map (some (w.heap.size + 1 + 1)), fv op nm a n c, .func (.func 127) #[] #[.pointer (some ⟨B, 0, none⟩)], .string x.path, fv x.op x.nm x.a x.n x.c, undef, undef,
          undef, undef, undef, undef, undef, undef, undef, undef, undef, undef, undef, undef, undef, undef, undef, undef, undef, undef, undef], defers := [] }
theorem namesOf_snoc (pre : List Vis) (x : Vis) : namesOf (pre ++ [x]) = nmStep (namesOf pre) x.key := by simp [namesOf, nmsOf]
theorem nmStep_hit {L : List ByteArray} {x : Vis} (h : x.op = 3) (hm : x.nm ∉ L) : nmStep L x.key = L ++ [x.nm] := by
  unfold nmStep; exact if_pos ⟨h, hm⟩
theorem nmStep_miss {L : List ByteArray} {x : Vis} (h : x.op = 3 → x.nm ∈ L) : nmStep L x.key = L := by
  unfold nmStep; exact if_neg fun e => e.2 (h e.1)
theorem KpY.of_grown {Y : Nat → Prop} {A B : World} {row : Option Nat} (hg : A.grownBy B row) (hr : ∀ r, row = some r → ¬ Y r ∧ ∀ cs : Array Value, A.heap[r]? ≠ some (Obj.cells cs 25 (0, 0))) : KpY Y A B :=
  ⟨hg.size, fun b hb hl => hg.block b hl fun e => (hr b e.symm).1 hb, fun b cs hc => (hg.block b (Array.getElem?_eq_some_iff.1 hc).1 fun e => (hr b e.symm).2 cs hc).trans hc⟩
theorem keeps_row {N : Nat} {A B : World} {base : Nat} {e : TypeId} {size n : Nat} {v : Value} {xs : List Value} (h : A.ownsRow base e size v n xs) (hg : A.grownBy B v.ownBlock) : KeepsFrom N A B :=
  ⟨hg.size, fun k o _ hk ho => (hg.block k (Array.getElem?_eq_some_iff.1 hk).1 fun e2 => by
    rcases h.2 with ⟨rfl, _⟩ | ⟨g, cap, cur, rfl, _, hgb, _⟩
    · cases e2
    · simp only [Value.ownBlock, Option.some.injEq] at e2
      subst e2
      rw [hgb] at hk
      cases hk
      cases ho).trans hk⟩
theorem own_ge {W : World} {base : Nat} {e : TypeId} {size n : Nat} {v : Value} {xs : List Value} (h : W.ownsRow base e size v n xs) : ∀ r, v.ownBlock = some r → base ≤ r ∧ r < W.heap.size ∧ ∃ cs, W.heap[r]? = some (Obj.cells cs e (0, 0)) := by
  intro r hr
  rcases h.2 with ⟨rfl, _⟩ | ⟨g, cap, cur, rfl, hb, hgb, _⟩
  · cases hr
  · simp only [Value.ownBlock, Option.some.injEq] at hr
    subst hr
    exact ⟨hb, (Array.getElem?_eq_some_iff.1 hgb).1, cur, hgb⟩
theorem infoStr : (Tryz.prog.info? 9).map (fun i => (i.zero, i.size, i.bytes)) = some (some (.string nil8), 1, 16) := by kernel_rfl
theorem zeroInt (w : World) : (zeroValue 3).run Tryz.prog w = .ok (.int .i64 0) w := by kernel_rfl

def NamP (f : Fm) (w : World) (e : Ending) (w' : World) : Prop := ∃ a c, e = .returned (.slice a f.names.length c) ∧ IsStr w' a f.names.length f.names ∧ Below w.heap.size w w'

set_option maxRecDepth 100000 in
set_option maxHeartbeats 4000000 in
theorem names_c (f : Fm) (op : Int) (nm : ByteArray) (a : Option Addr) (n c : Nat) (w : World) (h : IsT w op nm a n c f) (hw : f.Wf) (hsz : f.size ≤ 1000000) (hdp : f.depth ≤ 400000) :
    Calls Tryz.prog 23 #[fv op nm a n c] w (NamP f w) := by
  have hmm := @run_makeMap Tryz.prog
  obtain ⟨i0, hi, hzz⟩ := Option.map_eq_some_iff.1 infoStr
  simp only [Prod.mk.injEq] at hzz
  obtain ⟨hz0, hz1, hz2⟩ := hzz
  have HI := Aside.mk (And.intro hi (And.intro hz0 (And.intro hz1 hz2)))
  clear hi hz0 hz1 hz2
  have HC := Aside.mk (fun W (hW : Below w.heap.size w W) => (callsIn_wide (n := 4)).2 (All_c f op nm a n c W (h.keep hW) (by omega)))
  clear h
  refine (callsIn_wide (n := 5)).1 ?_
  refine callsIn_of_wp_marks Tryz.func23 rfl trivial ?_ rfl
  simp only [Tryz.ntmps23, List.size_toArray, List.length_cons, List.length_nil, Nat.reduceAdd, Nat.reduceSub, Array.replicate_succ, Array.replicate_zero, List.push_toArray, List.append_toArray, List.nil_append, List.cons_append]
  gi_wp2_with fail
  refine ⟨trivial, ?_⟩
  refine (HC.out _ (by repeat (first | (with_reducible exact Below.refl _ _) | (with_reducible assumption) | refine below_alloc ?_ _ | refine Below.drew ?_ | refine below_drewN ?_ _))).mono ?_
  rintro e w2 ⟨B, o2, n2, a2, l2, d2, rfl, hB, hBk, hT2, hb2⟩
  have hz2 : w.heap.size + 4 ≤ w2.heap.size := by have := hb2.size; simp at this; omega
  have hB2 : Below w.heap.size w w2 := below_to (by repeat (first | (with_reducible exact Below.refl _ _) | (with_reducible assumption) | refine below_alloc ?_ _ | refine Below.drew ?_ | refine below_drewN ?_ _)) hb2
  have hm2 : w2.cell? ⟨w.heap.size + 1 + 1 + 1, 0, none⟩ = some (.map (some (w.heap.size + 1 + 1))) := cell_below hb2 (by go_simp)
  have hx2 : Boxed w2 (w.heap.size + 1) 34 (.slice none 0 0) := by
    have h0 := ((Boxed.new (w.alloc (.cells #[.int .u8 op, .string nm, .slice a n c] 25)) 34 (.slice none 0 0)).alloc (.map #[] 0)).alloc (.cells #[.map (some (w.heap.size + 1 + 1))] 103)
    simp only [World.size_alloc] at h0
    exact h0.kept (row := none) ⟨hb2.os, hb2.tape, hb2.output, hb2.size, fun i hi _ => hb2.block i hi⟩ (by simp)
  have ho2 : w2.ownsMap Tryz.prog 9 (plainElem (H := Unit) Tryz.prog 3) (w.heap.size + 1 + 1) 0 (.map []) := by
    have h0 := World.ownsMap_made ((w.alloc (.cells #[.int .u8 op, .string nm, .slice a n c] 25)).alloc (.cells #[.slice none 0 0] 34)) Tryz.prog 9 (plainElem (H := Unit) Tryz.prog 3)
    have h1 := h0.alloc (.cells #[.map (some (w.heap.size + 1 + 1))] 103)
    simp only [World.size_alloc] at h1
    exact h1.kept (row := none) ⟨hb2.os, hb2.tape, hb2.output, hb2.size, fun i hi _ => hb2.block i hi⟩ (by simp)
  have hN0 : NI w w2 [] w2 := ⟨hB2, Nat.le_refl _, hm2, _, _, hx2, World.ownsRow_nil _ _ _ _, ho2, seen_nil⟩
  have HN0 := Aside.mk hN0
  have HST := Aside.mk (all_stops 4 (fun b => w.heap.size + 4 ≤ b ∧ b < w2.heap.size) B f o2 n2 a2 l2 d2 w2 hBk ((hT2.old).mono fun b hb _ => ⟨by have := hb.1; simp at this; omega, hb.2⟩) hw (by omega) hdp)
  clear hB2 hm2 hx2 ho2 hN0 hT2 hBk hb2 HC hmm hB
  gi_wp2_with fail
  refine wpIn_rangeFunc_ownH rfl (by omega) (gf := 127) (lb := #[.pointer (some ⟨B, 0, none⟩)]) rfl trivial (enters_of Tryz.func127 (by kernel_rfl) rfl)
    HST.out KpY.trans ?hkb (Below.refl _ _) (fun _ => rfl) (NI w w2) (fun _ _ _ => False) (fun s A C row hs hg hr => hs.grown hz2 hg hr) (fun _ _ _ _ _ hs _ _ => hs) HN0.out
    (NAx w w2 op nm a n c B) ?hax ?assign ?body ?done ?stop
  case hkb =>
    intro W l o o' hl ho hoc _
    refine ⟨by simp, fun b hb hlt => World.putObj_heap_other (by omega), fun b cs hbc => ?_⟩
    by_cases e : b = l
    · subst e
      rw [hbc] at ho
      cases ho
      cases hoc
    · exact (World.putObj_heap_other e).trans hbc
  case hax =>
    rintro x a' _ A C row ⟨Bx, h1, h2, h3⟩ hg hr
    refine ⟨Bx, h1, (hg.block Bx (Array.getElem?_eq_some_iff.1 h2).1 fun e => ?_).trans h2, h3⟩
    obtain ⟨_, o, ho, hoc⟩ := hr Bx e.symm
    rw [h2] at ho
    cases ho
    cases hoc
  case assign =>
    intro l pre x W K hi hK
    have HIW := Aside.mk hi
    clear hi
    gi_wp2
    refine hK _ _ ((KeepsOthers.alloc _ _).from _) (KpY.of ((Below.refl _ W).alloc (Nat.le_refl _) _)) (HIW.out.alloc hz2 _) ⟨W.heap.size, HIW.out.ge, heap_alloc_new W _, ?_⟩
    rfl
  case body =>
    rintro l pre x a' W _ _ hi ⟨Bx, hBx, hbx, rfl⟩ hlt
    obtain ⟨v, D, h1, h2, h3, h4⟩ := hi.ex
    have c0 : W.cell? ⟨Bx, 0, none⟩ = some (.int .u8 x.op) := by simp [World.cell?, hbx]
    have c1 : W.cell? ⟨Bx, 1, none⟩ = some (.string x.nm) := by simp [World.cell?, hbx]
    have hmc := hi.mc
    have hkey := keyOf_string_mk (P := Tryz.prog) Tryz.underlying9 (s := x.nm) (by unfold maxLen; exact x.hz)
    obtain ⟨cc, hrun, hat, hwf⟩ := h3.lookup_int (string_keyed Tryz.underlying9) Tryz.underlying103 Tryz.underlying3 (zeroInt W) hkey
    rw [h4.2 x.nm] at hat
    have hHK := Aside.mk hkey
    have HI2 := Aside.mk hi
    have H12 := Aside.mk (And.intro h1 (And.intro h2 (And.intro h3 h4)))
    have HBX := Aside.mk hbx
    have hge := hi.ge
    have HLT := Aside.mk hlt
    clear hkey hi h1 h2 h3 h4 hbx hlt hwf
    by_cases hop : x.op = 3
    · have e3 : (x.op == 3) = true := by simp [hop]
      by_cases hm : x.nm ∈ namesOf pre
      · rw [if_pos hm] at hat
        obtain rfl : cc = 1 := by cases hat; rfl
        have HM := Aside.mk (namesOf_snoc pre x |>.trans (nmStep_miss fun _ => hm))
        clear hat hop hm
        gi_wp2_with fail
        refine ⟨KeepsFrom.refl _ _, KpY.refl _ _, HI2.out.b, HI2.out.ge, HI2.out.mc, v, D, H12.out.1, ?_, (H12.out.2.2.1).mono (by simp), ?_⟩
        · rw [HM.out]; exact H12.out.2.1
        · rw [HM.out]; exact H12.out.2.2.2
      · rw [if_neg hm] at hat
        obtain rfl : cc = 0 := by cases hat; rfl
        have HM := Aside.mk (namesOf_snoc pre x |>.trans (nmStep_hit hop hm))
        have hln : (namesOf pre).length ≤ pre.length := by have := nmsOf_len (pre.map Vis.key); simpa [namesOf] using this
        have HLN := Aside.mk hln
        clear hat hop hm hln
        gi_wp2_with (gi_at_mapUpdate; refine Aside.out ?_)
        refine ⟨?_⟩
        refine wpListIn_mapUpdate_own _ rfl _ _ _ 103 rfl 9 3 (string_keyed Tryz.underlying9) Tryz.underlying103 _ (w.heap.size + 1 + 1) pre.length _ rfl H12.out.2.2.1 (by have := HLT.out; unfold maxLen; omega) _ _ _ rfl rfl hHK.out _ [] (plainElem_int Tryz.underlying3 (by decide)) ?_
        intro w1 hown1 hgrow1
        have hb1 := H12.out.1.kept hgrow1 (by simp)
        have hr1 := H12.out.2.1.kept hgrow1 (by
          by_cases e : v.ownBlock = none
          · exact .inl e
          · refine .inr fun e2 => ?_
            have := (own_ge H12.out.2.1 _ e2).1
            omega)
        have hbx1 := (hgrow1.block Bx (Array.getElem?_eq_some_iff.1 HBX.out).1 (by intro e; injection e with e; omega)).trans HBX.out
        have hmc1 := (World.cell?_of_block (w := W) (hgrow1.block _ (World.block_lt_of_cell? W _ hmc) (by simp))).trans hmc
        have d1 : w1.cell? ⟨Bx, 1, none⟩ = some (.string x.nm) := by simp [World.cell?, hbx1]
        have dl := hb1.cell
        have hsz1 := hgrow1.size
        have H1 := Aside.mk (And.intro hb1 (And.intro hr1 (And.intro hmc1 (And.intro hown1 hgrow1))))
        clear hb1 hr1 hbx1 hmc1 hown1 hgrow1 c0 c1 hmc hrun
        gi_wp2_with (gi_at_builtin; refine Aside.out ?_)
        refine ⟨?_⟩
        refine wpListIn_append_own_at _ rfl _ _ 34 rfl w2.heap.size 9 i0 (.string nil8) 1 16 Tryz.underlying34 HI.out.1 HI.out.2.1 HI.out.2.2.1 HI.out.2.2.2 rfl (by decide) v _ _ rfl (H1.out.2.1.alloc _) ⟨w1.heap.size, 0, none⟩ 1 1 [.string x.nm] rfl rfl (cell_one_new _ _ _) (by simp [Value.oneCell']) (by have := HLT.out; have := HLN.out; unfold maxLen; omega) (by have := HLT.out; have := HLN.out; omega) (by simp; omega) ?_
        intro v' w3 hown3 hgrow3 _ hat3
        obtain ⟨g', cap', rfl⟩ := ownsRow_succ hown3
        have hne : some (w.heap.size + 1) ≠ v.ownBlock := fun e => by have := (own_ge H1.out.2.1 _ e.symm).1; omega
        have hb3 : Boxed w3 (w.heap.size + 1) 34 v := (H1.out.1.alloc _).kept hgrow3 hne
        have dl3 := hb3.cell
        have df3 := hb3.frozen
        have hsz3 : w1.heap.size + 1 ≤ w3.heap.size := by have := hgrow3.size; simpa using this
        have hlt3 : w.heap.size + 1 < w3.heap.size := by omega
        have hmc3 : w3.cell? ⟨w.heap.size + 1 + 1 + 1, 0, none⟩ = some (.map (some (w.heap.size + 1 + 1))) := (World.cell?_of_block (w := w1.alloc _) (hgrow3.block _ (by simp; omega) (fun e => by have h9 : w2.heap.size ≤ w.heap.size + 1 + 1 + 1 := (own_ge H1.out.2.1 _ e.symm).1; omega))).trans ((World.cell?_alloc_lt w1 _ ⟨w.heap.size + 1 + 1 + 1, 0, none⟩ (by show w.heap.size + 1 + 1 + 1 < w1.heap.size; omega)).trans H1.out.2.2.1)
        have hm3 := (H1.out.2.2.2.1.alloc (.cells #[.string x.nm] 9)).kept hgrow3 (fun e => by have := (own_ge H1.out.2.1 _ e.symm).1; omega)
        have H3 := Aside.mk (And.intro hb3 (And.intro hown3 (And.intro hgrow3 (And.intro hmc3 (And.intro hm3 hne)))))
        clear hb3 hown3 hgrow3 hmc3 hm3 hne hat3 dl d1
        gi_wp2_with fail
        have hrA := H1.out.2.1.alloc (.cells #[.string x.nm] 9)
        refine ⟨(KeepsFrom.of_grownBy H1.out.2.2.2.2 (fun j e => by cases e; omega)).trans (((KeepsOthers.alloc _ _).from _).trans ((keeps_row hrA H3.out.2.2.1).trans ((KeepsOthers.setCell _ _ _).from _))),
          (KpY.of_grown H1.out.2.2.2.2 ?k1).trans ((KpY.of ((Below.refl _ _).alloc (Nat.le_refl _) _)).trans ((KpY.of_grown H3.out.2.2.1 ?k2).trans (KpY.of_grown (grown_set _ _ _ _) ?k3))), ?k4⟩
        case k1 =>
          intro r e
          cases e
          refine ⟨by omega, fun cs => ?_⟩
          obtain ⟨es, ck, hh, _⟩ := H12.out.2.2.1
          rw [hh]
          intro e2
          cases e2
        case k2 =>
          intro r e
          obtain ⟨g1, _, cs', hcs⟩ := own_ge hrA _ e
          refine ⟨by omega, fun cs => ?_⟩
          rw [hcs]
          intro e2
          cases e2
        case k3 =>
          intro r e
          cases e
          refine ⟨by omega, fun cs => ?_⟩
          rw [show w3.heap[w.heap.size + 1]? = _ from H3.out.1]
          intro e2
          cases e2
        case k4 =>
          have hge3 : w2.heap.size ≤ w3.heap.size := by omega
          have hg' := (own_ge H3.out.2.1 g' rfl).1
          refine ⟨(((HI2.out.b.grown H1.out.2.2.2.2 HI2.out.b.size (fun r e => by cases e; omega)).alloc (by omega) _).grown H3.out.2.2.1 (by simp; omega) (fun r e => by have := (own_ge hrA _ e).1; omega)).setCell (p := ⟨w.heap.size + 1, 0, none⟩) (by simp) _, by simpa using hge3, ?_, _, _, H3.out.1.set _, ?_, ?_, by rw [HM.out]; exact seen_put H12.out.2.2.2 x.nm⟩
          · rw [World.cell?_setCell_other _ _ _ _ (by simp)]; exact H3.out.2.2.2.1
          · have hr := H3.out.2.1.kept (grown_set w3 (w.heap.size + 1) 0 (.slice (some ⟨g', 0, none⟩) ((namesOf pre).length + 1) cap')) (.inr (by simp only [Value.ownBlock, ne_eq, Option.some.injEq]; omega))
            rw [HM.out, List.length_append, List.map_append]
            exact hr
          · rw [List.length_append]
            exact H3.out.2.2.2.2.1.kept (grown_set _ _ _ _) (by simp)
    · have e3 : (x.op == 3) = false := by simp [hop]
      have HM := Aside.mk (namesOf_snoc pre x |>.trans (nmStep_miss fun e => absurd e hop))
      clear hat hop
      gi_wp2_with fail
      refine ⟨KeepsFrom.refl _ _, KpY.refl _ _, HI2.out.b, HI2.out.ge, HI2.out.mc, v, D, H12.out.1, ?_, (H12.out.2.2.1).mono (by simp), ?_⟩
      · rw [HM.out]; exact H12.out.2.1
      · rw [HM.out]; exact H12.out.2.2.2
  case done =>
    intro D xs W hD hxs hi hK
    obtain ⟨v, DD, h1, h2, h3, h4⟩ := hi.ex
    have hc := h1.cell
    have HH := Aside.mk (And.intro hi h2)
    clear hi h2 h3 h4 h1
    gi_wp2
    refine ⟨by simp, .inl ⟨_, _, rfl, run_takeDeferred hK, ?_⟩⟩
    refine ⟨_, results_tmp rfl _ _ _, ?_⟩
    have hnf : namesOf xs = f.names := by unfold namesOf Fm.names; rw [hxs]
    have hln : (namesOf xs).length ≤ 1000000 := by
      have h1 := nmsOf_len (xs.map Vis.key)
      have h2 := Fm.flat_len f
      rw [hxs] at h1
      unfold namesOf
      rw [hxs]
      omega
    have hrow := ownsRow_putObj HH.out.2 (Obj.deferred none) hK rfl
    have hbel : Below w.heap.size w (W.putObj D (.deferred none)) := HH.out.1.b.grown (grownBy_putObj' W D _) HH.out.1.b.size (fun r e => by cases e; omega)
    rw [hnf] at hrow hln
    rcases hrow.2 with ⟨rfl, h0⟩ | ⟨g, cap, cur, rfl, _, hgb, hle, _, hcur, htk⟩
    · refine ⟨none, 0, by simp [h0], ⟨rfl, by omega, fun hp => by omega⟩, hbel⟩
    · refine ⟨some ⟨g, 0, none⟩, cap, rfl, ⟨rfl, by omega, fun _ => ⟨g, 0, rfl, fun i hi => ?_⟩⟩, hbel⟩
      have e1 : (cur.toList.take (f.names.length * 1))[i]? = some (.string f.names[i]) := by rw [htk]; simp [hi]
      rw [List.getElem?_take_of_lt (by omega)] at e1
      simp only [World.cell?, hgb, Nat.zero_add]
      simpa using e1
  case stop =>
    rintro D c pre W _ _ h _
    exact h.elim
end Go.Proofs.YtmmakkaolknbaaaGreatDoor
