/- Contract of tree.Copy: the same tree, in new blocks alone. -/
import Derived.Test.YtmmakkaolknbaaaGreatDoorOwn2
namespace Go.Proofs.YtmmakkaolknbaaaGreatDoor
set_option linter.unusedVariables false
set_option linter.unusedSimpArgs false
open Go.RowKit Go.Shelf

/-- The one element's list: in a block from N on. -/
def slB (N : Nat) (x : Fm) (v : Value) (W : World) : Prop :=
  ∃ b o2 n2 a2 l2 d2, v = .slice (some ⟨b, 0, none⟩) 1 1 ∧ N ≤ b ∧ W.heap[b]? = some (.cells #[.int .u8 o2, .string n2, .slice a2 l2 d2] 25 (0, 0)) ∧ IsTX (fun b' => N ≤ b') W o2 n2 a2 l2 d2 x
theorem stab_tr {st late : List (Nat × Nat)} {i N : Nat} {x : Fm} (h : ∀ b ∈ oth2 st (aftB late i) i, b < N) : StabD st late i (trV (fun b => N ≤ b) x) := by
  rintro v W W' row hr ⟨op, nm, a, n, c, e, hT⟩ hg
  exact ⟨op, nm, a, n, c, e, hT.grown hg fun b hb e => by have := h b (hr b e); omega⟩
theorem stab_slB {st late : List (Nat × Nat)} {i N : Nat} {x : Fm} (h : ∀ b ∈ oth2 st (aftB late i) i, b < N) : StabD st late i (slB N x) := by
  rintro v W W' row hr ⟨b, op, nm, a, n, c, e, hN, hb, hT⟩ hg
  have hlt : b < W.heap.size := (Array.getElem?_eq_some_iff.1 hb).1
  exact ⟨b, op, nm, a, n, c, e, hN, (hg.block b hlt fun e => by have := h b (hr b e.symm); omega).trans hb, hT.grown hg fun b hb e => by have := h b (hr b e); omega⟩
def ownV (base : Nat) (L : List Fm) (v : Value) (W : World) : Prop := OwnT (fun b => base ≤ b) base W v L
theorem stab_own {st late : List (Nat × Nat)} {i base : Nat} {L : List Fm} (h : ∀ b ∈ oth2 st (aftB late i) i, b < base) : StabD st late i (ownV base L) := by
  rintro v W W' row hr hO hg
  exact OwnT.grown hO hg (fun b e e2 => by have := h b (hr b e); have := (OwnT.lt hO b e2).1; omega) fun b hb e => by have := h b (hr b e); omega
/-- The tree that a call fills: its box at r; its kids so far. -/
structure OutB (r base : Nat) (op : Int) (nm : ByteArray) (s : Value) (L : List Fm) (W : World) : Prop where
  c0 : W.cell? ⟨r, 0, none⟩ = some (.int .u8 op)
  c1 : W.cell? ⟨r, 1, none⟩ = some (.string nm)
  c2 : W.cell? ⟨r, 2, none⟩ = some s
  f0 : W.frozen? ⟨r, 0, none⟩ = false
  f1 : W.frozen? ⟨r, 1, none⟩ = false
  f2 : W.frozen? ⟨r, 2, none⟩ = false
  own : OwnT (fun b => base ≤ b) base W s L
theorem OutB.keep {r base : Nat} {op : Int} {nm : ByteArray} {s : Value} {L : List Fm} {W W' : World} (h : OutB r base op nm s L W) (hb : Below W.heap.size W W') : OutB r base op nm s L W' :=
  ⟨cell_below hb h.c0, cell_below hb h.c1, cell_below hb h.c2, frozen_below hb h.c0 h.f0, frozen_below hb h.c1 h.f1, frozen_below hb h.c2 h.f2, h.own.keep hb⟩
theorem OutB.put {r base : Nat} {op : Int} {nm : ByteArray} {s s' : Value} {L L' : List Fm} {w W : World} {S : List Nat} (h : OutB r base op nm s L w) (hg : Gr S w W) (hS : r ∉ S) (hr : r < base) (ho : OwnT (fun b => base ≤ b) base W s' L') :
    OutB r base op nm s' L' (W.setCell ⟨r, 2, none⟩ s') := by
  have hlt := World.block_lt_of_cell? w _ h.c0
  have k0 := (hg.cell (p := ⟨r, 0, none⟩) hlt hS).trans h.c0
  have k1 := (hg.cell (p := ⟨r, 1, none⟩) hlt hS).trans h.c1
  have k2 := (hg.cell (p := ⟨r, 2, none⟩) hlt hS).trans h.c2
  refine ⟨?_, ?_, ?_, ?_, ?_, ?_, ho.grown (grown_set W r 2 s') (fun b e e2 => ?_) (fun b hb e => ?_)⟩
  · rw [World.cell?_setCell_other _ _ _ _ (by simp)]; exact k0
  · rw [World.cell?_setCell_other _ _ _ _ (by simp)]; exact k1
  · exact World.cell?_setCell_same' _ _ _ (by rw [k2]; rfl)
  · rw [World.frozen?_setCell]; exact (hg.frozen (p := ⟨r, 0, none⟩) hlt hS).trans h.f0
  · rw [World.frozen?_setCell]; exact (hg.frozen (p := ⟨r, 1, none⟩) hlt hS).trans h.f1
  · rw [World.frozen?_setCell]; exact (hg.frozen (p := ⟨r, 2, none⟩) hlt hS).trans h.f2
  · cases e; have := (ho.lt _ e2).1; omega
  · cases e; omega
abbrev lateA : List (Nat × Nat) := [(0, 1), (0, 5), (0, 7), (1, 5), (1, 7), (2, 3), (2, 4), (2, 5), (2, 7), (3, 4), (3, 5), (3, 7), (4, 5), (4, 7), (5, 7)]

set_option maxRecDepth 100000 in
set_option maxHeartbeats 4000000 in
/-- tree.Copy. -/
theorem copy_c (f : Fm) : ∀ (op : Int) (nm : ByteArray) (a : Option Addr) (n c : Nat) (w : World), IsT w op nm a n c f → f.size ≤ 1000000000000 →
    Calls Tryz.prog 47 #[fv op nm a n c] w (RetX (fun _ => False) f w) := by
  induction f using Fm.ind_ with | h o_ n_ ks ih
  intro op nm a n c w h hsz
  obtain ⟨h0, h1, h2, ks_, e, hS⟩ := h.parts
  obtain ⟨rfl, rfl, rfl⟩ : op = o_ ∧ nm = n_ ∧ ks = ks_ := by cases e; exact ⟨rfl, rfl, rfl⟩
  clear e h
  have hn1 : n ≤ 9223372036854775807 := Nat.le_trans hS.2.1 hS.2.2.1
  have hkl : ks.length ≤ 1000000000000 := by have := Fm.length_le_sizeL ks; simp only [Fm.size] at hsz; omega
  have HZ : Aside (∀ x ∈ ks, x.size ≤ 1000000000000) := ⟨fun x hx => by have := Fm.size_mem hx; simp only [Fm.size] at hsz; omega⟩
  have HN := Aside.mk hS.1
  have HS := Aside.mk hS
  have IH := Aside.mk ih
  clear hS ih hsz
  go_enter Tryz.func47, Tryz.ntmps47
  go_wp2_with fail
  go_loopg [14] n (fun gg s14 wr => ∃ (k : Nat) (s : Value), k ≤ n ∧ n - k ≤ gg ∧ s14 = .int .i64 k ∧ Aside (Below (w.heap.size + 2) (simpW w op nm a n c) wr) ∧ w.heap.size + 2 < wr.heap.size ∧ Aside (OutB (w.heap.size + 1 + 1) (w.heap.size + 3) op nm s (ks.take k) wr))
  case atStart => exact ⟨0, .slice none 0 0, Nat.zero_le _, by omega, rfl, ⟨(Below.refl _ _).alloc (by simp [simpW]) _⟩, by simp, ⟨⟨by go_simp, by go_simp, by go_simp, by go_simp, by go_simp, by go_simp, OwnT.nil _ _ _⟩⟩⟩
  case round =>
    obtain ⟨k, s, hk, hg, rfl, HQ, hzr, HO⟩ := hrel
    have HB : Aside (Below w.heap.size w wr) := ⟨(simpW_below w op nm a n c).trans (HQ.out.mono (by omega))⟩
    by_cases hlt : k < n
    · have hlti : (k : Int) < (n : Int) := by omega
      obtain ⟨b, o, rfl, hbl, x, op1, nm1, a1, n1, c1, X, q0, q1, q2, hT1⟩ := (HS.out.keep HB.out).at_ k hlt
      have HC := Aside.mk (fun W hW => IH.out x X.mem op1 nm1 a1 n1 c1 W (IsTX.keep (w := wr) hW hT1) (HZ.out x X.mem))
      have HX := Aside.mk X
      clear hT1 X
      have hlen : (ks.take k).length = k := List.length_take_of_le (by have := HN.out; omega)
      have HL := Aside.mk hlen
      clear hlen
      go_wp2_with fail
      have hs := HO.out.own.cases
      have hN3 : w.heap.size + 3 ≤ wr.heap.size + 1 := by omega
      -- the block that the list lies in
      have hst : ∃ st : List (Nat × Nat), (ownB st 5 = s.ownBlock) ∧ (∀ i, i ≠ 5 → i ≠ 7 → ownB st i = none) ∧ ownB st 7 = some (w.heap.size + 1 + 1) ∧ (∀ x ∈ st, x.1 < 8) ∧ (∀ i, (∀ b ∈ oth2 st (aftB lateA i) i, b < wr.heap.size + 1)) ∧ (∀ b ∈ oth2 st (aftB lateA 5) 5, b < w.heap.size + 3) ∧ oth2 st (aftB lateA 7) 7 = [] ∧
          (∀ i, i < 6 → oth2 st (befB lateA i) i = []) ∧ (w.heap.size + 1 + 1 ∉ oth2 st (befB lateA 7) 7) ∧ (∀ b ∈ st.map Prod.snd, w.heap.size + 2 ≤ b) := by
        rcases hs with ⟨rfl, _⟩ | ⟨g, cap, rfl, hg1, hg2⟩
        · refine ⟨[(7, w.heap.size + 1 + 1)], rfl, ?_, rfl, by simp, ?_, ?_, by simp [oth2, aftB], ?_, by simp [oth2], by simp⟩
          · intro i h5 h7; simp [ownB]; omega
          · intro i b hb; simp [oth2] at hb; omega
          · intro b hb; simp [oth2] at hb; omega
          · intro i hi; rcases (show i = 0 ∨ i = 1 ∨ i = 2 ∨ i = 3 ∨ i = 4 ∨ i = 5 by omega) with rfl | rfl | rfl | rfl | rfl | rfl <;> simp [oth2, befB]
        · refine ⟨[(5, g), (7, w.heap.size + 1 + 1)], rfl, ?_, rfl, by simp, ?_, ?_, by simp [oth2, aftB], ?_, ?_, ?_⟩
          · intro i h5 h7; simp [ownB]; omega
          · intro i b hb
            simp only [oth2, List.mem_map, List.mem_filter] at hb
            obtain ⟨y, ⟨hy, _⟩, rfl⟩ := hb
            simp at hy
            rcases hy with rfl | rfl <;> simp <;> omega
          · intro b hb; simp [oth2, aftB] at hb; omega
          · intro i hi; rcases (show i = 0 ∨ i = 1 ∨ i = 2 ∨ i = 3 ∨ i = 4 ∨ i = 5 by omega) with rfl | rfl | rfl | rfl | rfl | rfl <;> simp [oth2, befB]
          · simp [oth2, befB]; omega
          · intro b hb; simp at hb; omega
      obtain ⟨st, st5, stn, st7, stm, sta, stb, stc, std, ste, stf⟩ := hst
      clear hs
      have HST := Aside.mk (And.intro st5 (And.intro stn (And.intro st7 (And.intro std (And.intro ste stf)))))
      clear st5 stn st7 std ste stf
      refine wp_region_dag 8 st lateA (by kernel_rfl) (by kernel_rfl) (by kernel_rfl) stm
        [fun v _ => v = .pointer (some ⟨w.heap.size + 1 + 1, 2, none⟩), fun v _ => v = s, fun v _ => v = fv op1 nm1 a1 n1 c1, trV (fun b => wr.heap.size + 1 ≤ b) x, slB (wr.heap.size + 1) x, ownV (w.heap.size + 3) (ks.take k ++ [x]), fun v _ => v = .pointer (some ⟨w.heap.size + 1 + 1, 2, none⟩),
         fun _ W => ∃ u, OutB (w.heap.size + 1 + 1) (w.heap.size + 3) op nm u (ks.take k ++ [x]) W]
        ⟨stabD_eq _ _ _ _, stabD_eq _ _ _ _, stabD_eq _ _ _ _, stab_tr (sta _), stab_slB (sta _), stab_own stb, stabD_eq _ _ _ _, stabD_of (fun v W W' ⟨u, hu⟩ hb => ⟨u, hu.keep hb⟩) stc, trivial⟩ ?_ ?_
      · clear stm sta stb stc
        simp only [List.take_succ_cons, List.take_zero]
        refine dag_cons ?_ (dag_cons ?_ (dag_cons ?_ (dag_cons ?_ (dag_cons ?_ (dag_cons ?_ (dag_cons ?_ (dag_cons ?_ dag_nil)))))))
        all_goals intro vals W hW hv; try simp only [Act.put, List.setIfInBounds_toArray, List.set_cons_zero, List.set_cons_succ]
        · clear hW hv
          go_wp2_with fail
          exact ⟨rfl, _, rfl, grown_of_bel (Below.refl _ _) _, rfl⟩
        · have e0 : vals 0 = _ := hv ⟨0, .data⟩ (by simp) rfl
          rw [HST.out.2.2.2.1 1 (by omega)] at hW
          have hc := cell_below (gr_nil hW) (show World.cell? _ ⟨w.heap.size + 1 + 1, 2, none⟩ = some s from cell_below ((Below.refl wr.heap.size wr).alloc (Nat.le_refl _) _) HO.out.c2)
          simp only [e0]
          clear hW hv
          go_wp2_with fail
          exact ⟨rfl, _, rfl, grown_of_bel (Below.refl _ _) _, rfl⟩
        · rw [HST.out.2.2.2.1 2 (by omega)] at hW
          have z0 : W.cell? ⟨wr.heap.size, 0, none⟩ = some (.int .u8 op1) := cell_below (gr_nil hW) (by go_simp)
          have z1 : W.cell? ⟨wr.heap.size, 1, none⟩ = some (.string nm1) := cell_below (gr_nil hW) (by go_simp)
          have z2 : W.cell? ⟨wr.heap.size, 2, none⟩ = some (.slice a1 n1 c1) := cell_below (gr_nil hW) (by go_simp)
          clear hW hv
          go_wp2_with fail
          exact ⟨rfl, _, rfl, grown_of_bel (Below.refl _ _) _, rfl⟩
        · have e2 : vals 2 = _ := hv ⟨2, .data⟩ (by simp) rfl
          rw [HST.out.2.2.2.1 3 (by omega)] at hW
          have hWB := Aside.mk (below_to ((Below.refl wr.heap.size wr).alloc (Nat.le_refl _) _) (gr_nil hW))
          have hsz : wr.heap.size + 1 ≤ W.heap.size := by have := hW.size; simpa using this
          simp only [e2]
          clear hW hv
          go_wp2_with fail
          refine (HC.out _ hWB.out).mono ?_
          rintro e w2 ⟨o2, n2, a2, l2, d2, rfl, hT2, hb2⟩
          have HT2 := Aside.mk hT2
          clear hT2
          go_wp2_with fail
          exact ⟨rfl, _, rfl, grown_of_bel hb2 _, o2, n2, a2, l2, d2, rfl, HT2.out.mono fun b hb _ => hb.elim False.elim (fun hb => by omega)⟩
        · obtain ⟨o2, n2, a2, l2, d2, e3, hT2⟩ := hv ⟨3, .data⟩ (by simp) rfl
          rw [HST.out.2.2.2.1 4 (by omega)] at hW
          have HT2 := Aside.mk hT2
          have hsz : wr.heap.size + 1 ≤ W.heap.size := by have := hW.size; simpa using this
          simp only [e3]
          clear hW hv hT2
          go_wp2_with fail
          exact ⟨rfl, _, rfl, grown_of_bel ((Below.refl _ _).alloc (Nat.le_refl _) _) _, W.heap.size, o2, n2, a2, l2, d2, rfl, hsz, heap_alloc_new W _, HT2.out.keep ((Below.refl _ _).alloc (Nat.le_refl _) _)⟩
        · have e1 : vals 1 = s := hv ⟨1, .data⟩ (by simp) rfl
          obtain ⟨b4, o2, n2, a2, l2, d2, e4, hb4, hbk, hT2⟩ := hv ⟨4, .data⟩ (by simp) rfl
          rw [HST.out.2.2.2.1 5 (by omega)] at hW
          have HT2 := Aside.mk hT2
          have HBK := Aside.mk hbk
          have HWB := Aside.mk (below_to ((Below.refl wr.heap.size wr).alloc (Nat.le_refl _) _) (gr_nil hW))
          have HS5 := Aside.mk HST.out.1
          simp only [e1, e4]
          clear hW hv hT2 hbk
          go_wp2_with (at_builtin; refine Aside.out ?_)
          refine ⟨?_⟩
          refine append_tree2 (X := fun b => w.heap.size + 3 ≤ b) (w.heap.size + 3) rfl _ _ rfl s (ks.take k) x o2 n2 a2 l2 d2 b4 rfl rfl HBK.out ?g1 ?g2 ?g3 ?g4 ?_
          case g1 => exact HO.out.own.keep HWB.out
          case g2 => exact HT2.out.mono fun b hb _ => ⟨by omega, fun e => by have := (HO.out.own.lt _ e).2; omega⟩
          case g3 => have := HWB.out.size; omega
          case g4 => rw [HL.out]; have := HN.out; omega
          intro v' W' hO' hg' _
          exact ⟨rfl, _, rfl, by rw [HS5.out]; exact hg', hO'⟩
        · clear hW hv
          go_wp2_with fail
          exact ⟨rfl, _, rfl, grown_of_bel (Below.refl _ _) _, rfl⟩
        · have h5 : ownV _ _ (vals 5) W := hv ⟨5, .data⟩ (by simp) rfl
          have e6 : vals 6 = _ := hv ⟨6, .data⟩ (by simp) rfl
          have HO1 : Aside (OutB (w.heap.size + 1 + 1) (w.heap.size + 3) op nm s (ks.take k) (wr.alloc (.cells #[.int .u8 op1, .string nm1, .slice a1 n1 c1] 25))) := ⟨HO.out.keep ((Below.refl _ _).alloc (Nat.le_refl _) _)⟩
          have hne := HST.out.2.2.2.2.1
          have k2 := (hW.cell (p := ⟨w.heap.size + 1 + 1, 2, none⟩) (by simp; omega) hne).trans HO1.out.c2
          have kf := (hW.frozen (p := ⟨w.heap.size + 1 + 1, 2, none⟩) (by simp; omega) hne).trans HO1.out.f2
          have hzz : w.heap.size + 1 + 1 < W.heap.size := by have := hW.size; simp at this; omega
          have HW := Aside.mk hW
          have H5 := Aside.mk h5
          obtain ⟨g', cap', e5⟩ : ∃ g' cap', vals 5 = .slice (some ⟨g', 0, none⟩) (ks.take k ++ [x]).length cap' := by
            rcases OwnT.cases h5 with ⟨_, h⟩ | ⟨g', cap', h, _⟩
            · simp at h
            · exact ⟨g', cap', h⟩
          rw [e5] at H5
          generalize (ks.take k ++ [x]).length = len at e5 H5
          have HS7 := Aside.mk HST.out.2.2.1
          have HNE := Aside.mk hne
          simp only [e5, e6]
          clear hW hv h5 hne
          go_wp2_with fail
          exact ⟨rfl, undef, rfl, by rw [HS7.out]; exact grown_set _ _ _ _, _, HO1.out.put HW.out HNE.out (by omega) H5.out⟩
      · intro vals W hW hv
        obtain ⟨u, hu⟩ := hv 7 (by omega)
        have HU := Aside.mk hu
        have HQ2 : Aside (Below (w.heap.size + 2) (simpW w op nm (some ⟨b, o, none⟩) n c) W) := ⟨hW.below (HQ.out.alloc (by omega) _) HST.out.2.2.2.2.2 (by simp; omega)⟩
        have hz2 : w.heap.size + 2 < W.heap.size := by have := hW.size; simp at this; omega
        simp only [List.take_succ_cons, List.take_zero, List.drop_succ_cons, List.drop_zero, lexL, Act.put, List.setIfInBounds_toArray, List.set_cons_zero, List.set_cons_succ]
        clear hW hv hu stm sta stb stc
        go_wp2_with fail
        go_roundg (n - (k + 1))
        case measure => omega
        case rel => exact ⟨k + 1, u, by omega, by omega, by go_num, HQ2, hz2, ⟨by rw [HX.out.take]; exact HU.out⟩⟩
    · have hlti : ¬ (k : Int) < (n : Int) := by omega
      have hT : ks.take k = ks := List.take_of_length_le (by have := HN.out; omega)
      rw [hT] at HO
      obtain ⟨sa, sc, rfl, hSS⟩ := HO.out.own.slice
      have hlen : ks.length = n := HN.out.symm
      rw [hlen] at hSS HO
      have HSS := Aside.mk hSS
      obtain ⟨_, ⟨r0, r1, r2⟩, ⟨f0, f1, f2⟩, _, hsz3⟩ := simp_of HQ.out
      have k0 := HO.out.c0
      have k1 := HO.out.c1
      have k2 := HO.out.c2
      clear hSS hT hlen HO
      go_wp2_with fail
      refine bodyPost_ret (v := fv op nm sa n sc) (by simp [results, Tryz.results47, go_sem, r0, r1, r2]) rfl ?_
      refine RetX.at_ (X := fun _ => False) (w.heap.size + 3) ?_ HB.out (by omega) (by omega) _ _ _
      refine IsTX.of_parts h0 h1 h2 (HSS.out.mono fun b hb _ => .inr ?_)
      rcases hb with hb | hb <;> exact hb
end Go.Proofs.YtmmakkaolknbaaaGreatDoor
