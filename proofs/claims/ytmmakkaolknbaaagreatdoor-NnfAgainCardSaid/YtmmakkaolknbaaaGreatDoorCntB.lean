/- Contract: nnf.counts. -/
import Derived.Test.YtmmakkaolknbaaaGreatDoorCntA
namespace Go.Proofs.YtmmakkaolknbaaaGreatDoor
set_option linter.unusedVariables false
set_option linter.unusedSimpArgs false
open Go.RowKit Go.Shelf

/-- An array of two counts. -/
structure Arr2 (W : World) (b : Nat) (p q : Cn) : Prop where
  c0 : W.cell? ⟨b, 0, none⟩ = some (.int .i64 p.1)
  c1 : W.cell? ⟨b, 1, none⟩ = some (.int .i64 p.2)
  c2 : W.cell? ⟨b, 2, none⟩ = some (.int .i64 q.1)
  c3 : W.cell? ⟨b, 3, none⟩ = some (.int .i64 q.2)
  f0 : W.frozen? ⟨b, 0, none⟩ = false
  f1 : W.frozen? ⟨b, 1, none⟩ = false
  f2 : W.frozen? ⟨b, 2, none⟩ = false
  f3 : W.frozen? ⟨b, 3, none⟩ = false
theorem Arr2.keep {W W' : World} {b : Nat} {p q : Cn} (h : Arr2 W b p q) (hb : Below W.heap.size W W') : Arr2 W' b p q :=
  have hlt : b < W.heap.size := World.block_lt_of_cell? W _ h.c0
  ⟨cell_below hb h.c0, cell_below hb h.c1, cell_below hb h.c2, cell_below hb h.c3, (hb.frozen hlt).trans h.f0, (hb.frozen hlt).trans h.f1, (hb.frozen hlt).trans h.f2, (hb.frozen hlt).trans h.f3⟩

abbrev arO : Obj := .cells #[.int .i64 0, .int .i64 0, .int .i64 0, .int .i64 0] 227
abbrev cntW (w1 : World) : World := ((w1.alloc (cnO oneC)).alloc arO).alloc arO
theorem arr_set0 {W : World} {b : Nat} {p q x : Cn} (h : Arr2 W b p q) : Arr2 ((W.setCell ⟨b, 0, none⟩ (.int .i64 x.1)).setCell ⟨b, 1, none⟩ (.int .i64 x.2)) b x q := by
  obtain ⟨c0, c1, c2, c3, f0, f1, f2, f3⟩ := h
  have hlt : b < W.heap.size := World.block_lt_of_cell? W _ c0
  constructor <;> go_simp
theorem arr_set1 {W : World} {b : Nat} {p q x : Cn} (h : Arr2 W b p q) : Arr2 ((W.setCell ⟨b, 2, none⟩ (.int .i64 x.1)).setCell ⟨b, 3, none⟩ (.int .i64 x.2)) b p x := by
  obtain ⟨c0, c1, c2, c3, f0, f1, f2, f3⟩ := h
  have hlt : b < W.heap.size := World.block_lt_of_cell? W _ c0
  constructor <;> go_simp
theorem Arr2.at_ {W : World} {b : Nat} {p q : Cn} (h : Arr2 W b p q) (k : Nat) (hk : k < 2) : ∃ u v : Int, W.cell? ⟨b, k * 2, none⟩ = some (.int .i64 u) ∧ W.cell? ⟨b, k * 2 + 1, none⟩ = some (.int .i64 v) ∧ W.frozen? ⟨b, k * 2, none⟩ = false ∧ W.frozen? ⟨b, k * 2 + 1, none⟩ = false := by
  rcases (show k = 0 ∨ k = 1 by omega) with rfl | rfl
  · exact ⟨_, _, h.c0, h.c1, h.f0, h.f1⟩
  · exact ⟨_, _, h.c2, h.c3, h.f2, h.f3⟩
theorem arr_set {W : World} {b : Nat} {x : Cn} {l : List Cn} (k : Nat) (hl : l.length = k) (hk : k < 2) (h : Arr2 W b (l.getD 0 (0, 0)) (l.getD 1 (0, 0))) :
    Arr2 ((W.setCell ⟨b, k * 2, none⟩ (.int .i64 x.1)).setCell ⟨b, k * 2 + 1, none⟩ (.int .i64 x.2)) b ((l ++ [x]).getD 0 (0, 0)) ((l ++ [x]).getD 1 (0, 0)) := by
  rcases (show k = 0 ∨ k = 1 by omega) with rfl | rfl
  · obtain rfl : l = [] := List.eq_nil_of_length_eq_zero hl
    exact arr_set0 h
  · match l, hl with
    | [y], _ => exact arr_set1 h
theorem arr_far {W : World} {b b' o o' : Nat} {p q : Cn} {u v : Value} (h : Arr2 W b p q) (hne : b ≠ b') : Arr2 ((W.setCell ⟨b', o, none⟩ u).setCell ⟨b', o', none⟩ v) b p q := by
  have hb : ∀ k, k = b → ((W.setCell ⟨b', o, none⟩ u).setCell ⟨b', o', none⟩ v).heap[k]? = W.heap[k]? := fun k hk => by
    have hk' : k ≠ b' := fun e => hne (by rw [← hk, e])
    rw [Below.heap_setCell _ _ _ _ hk', Below.heap_setCell _ _ _ _ hk']
  obtain ⟨c0, c1, c2, c3, f0, f1, f2, f3⟩ := h
  exact ⟨(World.cell?_of_block (hb b rfl)).trans c0, (World.cell?_of_block (hb b rfl)).trans c1, (World.cell?_of_block (hb b rfl)).trans c2, (World.cell?_of_block (hb b rfl)).trans c3,
    (World.frozen?_of_block (hb b rfl)).trans f0, (World.frozen?_of_block (hb b rfl)).trans f1, (World.frozen?_of_block (hb b rfl)).trans f2, (World.frozen?_of_block (hb b rfl)).trans f3⟩

theorem box_cell {W : World} {b : Nat} {x : Cn} (h : W.heap[b]? = some (cnO x)) : W.cell? ⟨b, 0, none⟩ = some (.int .i64 x.1) ∧ W.cell? ⟨b, 1, none⟩ = some (.int .i64 x.2) ∧ W.frozen? ⟨b, 0, none⟩ = false ∧ W.frozen? ⟨b, 1, none⟩ = false := by
  refine ⟨?_, ?_, ?_, ?_⟩ <;> simp [World.cell?, World.frozen?, h]
theorem box_set {W : World} {b : Nat} {y x : Cn} (h : W.heap[b]? = some (cnO y)) : ((W.setCell ⟨b, 0, none⟩ (.int .i64 x.1)).setCell ⟨b, 1, none⟩ (.int .i64 x.2)).heap[b]? = some (cnO x) := by
  simp [World.setCell, Array.getElem?_modify, h]

theorem ne2 {b r s : Nat} (h : b ≠ r) (h' : b ≠ s) : b ∉ [r, s] := by simp [h, h']
theorem lt2 {r s N : Nat} (h : r < N) (h' : s < N) : ∀ b ∈ [r, s], b < N := by simp [h, h']

set_option maxRecDepth 100000 in
set_option maxHeartbeats 16000000 in
theorem counts_c (f : Fm) : ∀ (op : Int) (nm : ByteArray) (a : Option Addr) (n c : Nat) (w : World), IsT w op nm a n c f → f.Wf →
    Calls Tryz.prog 146 #[fv op nm a n c] w fun e w' => e = .returned (.tuple #[cv f.cnt.1, cv f.cnt.2]) ∧ Below w.heap.size w w' := by
  induction f using Fm.ind_ with | h o_ n_ ks ih
  intro op nm a n c w h hW
  obtain ⟨h0, h1, h2, ks_, e, hS⟩ := h.parts
  obtain ⟨rfl, rfl, rfl⟩ : op = o_ ∧ nm = n_ ∧ ks = ks_ := by cases e; exact ⟨rfl, rfl, rfl⟩
  clear e
  have hn1 : n ≤ 9223372036854775807 := Nat.le_trans hS.2.1 hS.2.2.1
  have hln : n = ks.length := hS.1
  have hle := hW.len
  have hop := hW.op_
  simp only [Fm.op] at hop
  have hl2 : n ≤ 2 := by have := kidsOf_range op; simp only [Fm.op, Fm.ks] at hle; omega
  have HE : Aside ((Fm.mk op nm ks).cnt = cntOp op ((ks.map fun f => f.cnt.1).getD 0 (0, 0)) ((ks.map fun f => f.cnt.1).getD 1 (0, 0)) ((ks.map fun f => f.cnt.2).getD 0 (0, 0)) ((ks.map fun f => f.cnt.2).getD 1 (0, 0))) := ⟨by
    simp only [Fm.cnt, cntO, cntL_map, List.getD_eq_getElem?_getD, List.getElem?_map]
    cases ks[0]? <;> cases ks[1]? <;> rfl⟩
  generalize (Fm.mk op nm ks).cnt = R at HE ⊢
  have IH := Aside.mk (fun x hx => ih x hx)
  have HK := Aside.mk (fun x (hx : x ∈ ks) => hW.kid x hx)
  have HS := Aside.mk hS
  have HN : Aside (n = ks.length) := ⟨hln⟩
  clear ih h hW hS hle hln
  go_enter Tryz.func146, Tryz.ntmps146
  go_wp2_with fail
  refine (joined_c [] (by simp) none 0 0 _ ⟨rfl, by omega, fun h => by omega⟩).mono ?_
  rintro e w1 ⟨rfl, hb1⟩
  have HB1 : Aside (Below w.heap.size w w1) := ⟨below_to (by repeat (first | (with_reducible exact Below.refl _ _) | (with_reducible assumption) | refine below_alloc ?_ _ | refine Below.drew ?_ | refine below_drewN ?_ _)) hb1⟩
  have hz1 := hb1.size
  have hsz2 : w.heap.size + 1 + 1 < w1.heap.size := by simp at hz1; omega
  have hsz1 : w.heap.size + 1 < w1.heap.size := by omega
  have hsz0 : w.heap.size < w1.heap.size := by omega
  have hA0 : w.heap.size < w1.heap.size + 1 := by omega
  have hA1 : w.heap.size < w1.heap.size + 1 + 1 := by omega
  have p0 : w1.cell? ⟨w.heap.size, 0, none⟩ = some (.int .u8 op) := cell_below hb1 (by go_simp)
  have p2 : w1.cell? ⟨w.heap.size, 2, none⟩ = some (.slice a n c) := cell_below hb1 (by go_simp)
  have r0 : w1.cell? ⟨w.heap.size + 1, 0, none⟩ = some (.int .i64 0) := cell_below hb1 (by go_simp)
  have r1 : w1.cell? ⟨w.heap.size + 1, 1, none⟩ = some (.int .i64 0) := cell_below hb1 (by go_simp)
  have s0 : w1.cell? ⟨w.heap.size + 1 + 1, 0, none⟩ = some (.int .i64 0) := cell_below hb1 (by go_simp)
  have s1 : w1.cell? ⟨w.heap.size + 1 + 1, 1, none⟩ = some (.int .i64 0) := cell_below hb1 (by go_simp)
  have f0 : w1.frozen? ⟨w.heap.size + 1, 0, none⟩ = false := (hb1.frozen (by simp)).trans (by go_simp)
  have f1 : w1.frozen? ⟨w.heap.size + 1, 1, none⟩ = false := (hb1.frozen (by simp)).trans (by go_simp)
  have g0 : w1.frozen? ⟨w.heap.size + 1 + 1, 0, none⟩ = false := (hb1.frozen (by simp)).trans (by go_simp)
  have g1 : w1.frozen? ⟨w.heap.size + 1 + 1, 1, none⟩ = false := (hb1.frozen (by simp)).trans (by go_simp)
  clear hb1 hz1
  rw [jn_nil]
  go_wp2_with fail
  go_loopg [17] n (fun gg s17 wr => ∃ k : Nat, k ≤ n ∧ n - k ≤ gg ∧ s17 = .int .i64 k ∧ Aside (Below (w1.heap.size + 1) (cntW w1) wr) ∧ Aside (w1.heap.size + 1 + 1 < wr.heap.size) ∧
    Aside (Arr2 wr (w1.heap.size + 1) (((ks.take k).map fun f => f.cnt.1).getD 0 (0, 0)) (((ks.take k).map fun f => f.cnt.1).getD 1 (0, 0))) ∧ Aside (Arr2 wr (w1.heap.size + 1 + 1) (((ks.take k).map fun f => f.cnt.2).getD 0 (0, 0)) (((ks.take k).map fun f => f.cnt.2).getD 1 (0, 0))))
  case atStart => exact ⟨0, Nat.zero_le _, by omega, rfl, ⟨Below.refl _ _⟩, ⟨by simp⟩, ⟨by constructor <;> go_simp⟩, ⟨by constructor <;> go_simp⟩⟩
  case round =>
    obtain ⟨k, hk, hg, rfl, HQ, HZ, HA5, HA6⟩ := hrel
    have HBr : Aside (Below w.heap.size w wr) := ⟨(below_alloc (below_alloc (below_alloc HB1.out (cnO oneC)) arO) arO).trans (HQ.out.mono (by omega))⟩
    have hzr := HZ.out
    by_cases hlt : k < n
    · have hlti : (k : Int) < (n : Int) := by omega
      obtain ⟨b, o, rfl, hbl, x, op1, nm1, a1, n1, c1, X1, q0, q1, q2, hT1⟩ := (IsSX.keep HBr.out HS.out).at_ k hlt
      have HC := Aside.mk (fun W hW => IH.out x X1.mem op1 nm1 a1 n1 c1 W (IsTX.keep (w := wr) hW hT1) (HK.out x X1.mem))
      have HX := Aside.mk X1
      clear hT1 X1
      have hk2 : k < 2 := by omega
      have hk2i : (k : Int) < 2 := by omega
      go_wp2_with fail
      refine (HC.out _ (by repeat (first | (with_reducible exact Below.refl _ _) | (with_reducible assumption) | refine below_alloc ?_ _ | refine Below.drew ?_ | refine below_drewN ?_ _))).mono ?_
      rintro e w2 ⟨rfl, hb2⟩
      have HQ2 : Aside (Below wr.heap.size wr w2) := ⟨below_to (by repeat (first | (with_reducible exact Below.refl _ _) | (with_reducible assumption) | refine below_alloc ?_ _ | refine Below.drew ?_ | refine below_drewN ?_ _)) hb2⟩
      have hzw : wr.heap.size ≤ w2.heap.size := HQ2.out.size
      have HA5' := Aside.mk (HA5.out.keep HQ2.out)
      have HA6' := Aside.mk (HA6.out.keep HQ2.out)
      obtain ⟨u0, u1, c50, c51, f50, f51⟩ := HA5'.out.at_ k hk2
      obtain ⟨v0, v1, c60, c61, f60, f61⟩ := HA6'.out.at_ k hk2
      have hz2 : w1.heap.size + 1 + 1 < w2.heap.size := by omega
      have hz3 : w1.heap.size + 1 < w2.heap.size := by omega
      clear hb2 HC
      go_wp2_with fail
      go_roundg (n - (k + 1))
      case measure => omega
      case rel =>
        have hlen : ∀ g : Fm → Cn, ((ks.take k).map g).length = k := fun g => by have := HX.out.lt; simp; omega
        have htk : ∀ g : Fm → Cn, (ks.take (k + 1)).map g = (ks.take k).map g ++ [g x] := fun g => by rw [HX.out.take, List.map_append]; rfl
        refine ⟨k + 1, by omega, by omega, by go_num, ⟨?_⟩, ⟨by simp; omega⟩, ⟨?_⟩, ⟨?_⟩⟩
        · exact (((((HQ.out.trans (HQ2.out.mono (by omega))).setCell (p := ⟨w1.heap.size + 1, k * 2, none⟩) (by simp) _).setCell (p := ⟨w1.heap.size + 1, k * 2 + 1, none⟩) (by simp) _).setCell (p := ⟨w1.heap.size + 1 + 1, k * 2, none⟩) (by simp) _).setCell (p := ⟨w1.heap.size + 1 + 1, k * 2 + 1, none⟩) (by simp) _)
        · rw [htk]
          exact arr_far (arr_set k (hlen _) hk2 HA5'.out) (by omega)
        · rw [htk]
          exact arr_set k (hlen _) hk2 (arr_far HA6'.out (by omega))
    · have hlti : ¬ (k : Int) < (n : Int) := by omega
      obtain rfl : k = n := by omega
      have hT : ks.take k = ks := List.take_of_length_le (by have := HN.out; omega)
      rw [hT] at HA5 HA6
      obtain ⟨okA, okX⟩ : (∀ i, Cn.ok ((ks.map fun f => f.cnt.1).getD i (0, 0))) ∧ (∀ i, Cn.ok ((ks.map fun f => f.cnt.2).getD i (0, 0))) := by
        constructor <;> intro i <;> rw [List.getD_eq_getElem?_getD, List.getElem?_map] <;> cases ks[i]? <;> first | exact ⟨by decide, by decide⟩ | exact (cnt_ok _).1 | exact (cnt_ok _).2
      have ka := okA 0
      have kb := okA 1
      have kx := okX 0
      have ky := okX 1
      generalize (ks.map fun f => f.cnt.1).getD 0 (0, 0) = ca at HA5 HE ka
      generalize (ks.map fun f => f.cnt.1).getD 1 (0, 0) = cb at HA5 HE kb
      generalize (ks.map fun f => f.cnt.2).getD 0 (0, 0) = cx at HA6 HE kx
      generalize (ks.map fun f => f.cnt.2).getD 1 (0, 0) = cy at HA6 HE ky
      have OK := Aside.mk (And.intro ka (And.intro kb (And.intro kx ky)))
      clear okA okX ka kb kx ky hT IH HS HK
      go_wp2_with fail
      refine wp_region_inv 16 (B8 wr (fun i => if i = 0 then ca else if i = 1 then cb else if i = 2 then cx else cy) (fun i => match i with
        | 0 => .pointer (some ⟨w1.heap.size + 1, 0, none⟩) | 1 => cv ca | 2 => .pointer (some ⟨w1.heap.size + 1, 2, none⟩) | 3 => cv cb
        | 4 => .pointer (some ⟨w1.heap.size + 1 + 1, 0, none⟩) | 5 => cv cx | 6 => .pointer (some ⟨w1.heap.size + 1 + 1, 2, none⟩) | _ => cv cy)) (by kernel_rfl) (by kernel_rfl)
        (fun L vals hL => B8.start _ _ _ _ _ hL) ?_ ?_
      · simp only [List.take_succ_cons, List.take_zero]
        refine inv_cons ?_ (inv_cons ?_ (inv_cons ?_ (inv_cons ?_ (inv_cons ?_ (inv_cons ?_ (inv_cons ?_ (inv_cons ?_ (inv_cons ?_ (inv_cons ?_ (inv_cons ?_ (inv_cons ?_ (inv_cons ?_ (inv_cons ?_ (inv_cons ?_ (inv_cons ?_ inv_nil)))))))))))))))
        all_goals intro L vals W hLi hE hJ; have HJ := Aside.mk hJ; clear hJ; try simp only [Act.put, List.setIfInBounds_toArray, List.set_cons_zero, List.set_cons_succ]
        · go_wp2_with fail
          exact ⟨rfl, _, rfl, HJ.out.pureStep 0 (by omega)⟩
        · have e0 : vals 0 = .pointer (some ⟨w1.heap.size + 1, 0, none⟩) := HJ.out.pure 0 (by omega) (hE ⟨0, .data⟩ (by simp) rfl)
          have c0 := cell_below HJ.out.low HA5.out.c0
          have c1 := cell_below HJ.out.low HA5.out.c1
          simp only [e0]
          go_wp2_with fail
          exact ⟨rfl, _, rfl, HJ.out.pureStep 1 (by omega)⟩
        · go_wp2_with fail
          exact ⟨rfl, _, rfl, HJ.out.pureStep 2 (by omega)⟩
        · have e0 : vals 2 = .pointer (some ⟨w1.heap.size + 1, 2, none⟩) := HJ.out.pure 2 (by omega) (hE ⟨2, .data⟩ (by simp) rfl)
          have c0 := cell_below HJ.out.low HA5.out.c2
          have c1 := cell_below HJ.out.low HA5.out.c3
          simp only [e0]
          go_wp2_with fail
          exact ⟨rfl, _, rfl, HJ.out.pureStep 3 (by omega)⟩
        · go_wp2_with fail
          exact ⟨rfl, _, rfl, HJ.out.pureStep 4 (by omega)⟩
        · have e0 : vals 4 = .pointer (some ⟨w1.heap.size + 1 + 1, 0, none⟩) := HJ.out.pure 4 (by omega) (hE ⟨4, .data⟩ (by simp) rfl)
          have c0 := cell_below HJ.out.low HA6.out.c0
          have c1 := cell_below HJ.out.low HA6.out.c1
          simp only [e0]
          go_wp2_with fail
          exact ⟨rfl, _, rfl, HJ.out.pureStep 5 (by omega)⟩
        · go_wp2_with fail
          exact ⟨rfl, _, rfl, HJ.out.pureStep 6 (by omega)⟩
        · have e0 : vals 6 = .pointer (some ⟨w1.heap.size + 1 + 1, 2, none⟩) := HJ.out.pure 6 (by omega) (hE ⟨6, .data⟩ (by simp) rfl)
          have c0 := cell_below HJ.out.low HA6.out.c2
          have c1 := cell_below HJ.out.low HA6.out.c3
          simp only [e0]
          go_wp2_with fail
          exact ⟨rfl, _, rfl, HJ.out.pureStep 7 (by omega)⟩
        · go_wp2_with fail
          exact ⟨rfl, _, rfl, HJ.out.allocStep 0 (by omega) hLi⟩
        · go_wp2_with fail
          exact ⟨rfl, _, rfl, HJ.out.allocStep 1 (by omega) hLi⟩
        · go_wp2_with fail
          exact ⟨rfl, _, rfl, HJ.out.allocStep 2 (by omega) hLi⟩
        · go_wp2_with fail
          exact ⟨rfl, _, rfl, HJ.out.allocStep 3 (by omega) hLi⟩
        · have hLa := hE ⟨8, .data⟩ (by simp) rfl
          obtain ⟨b, hv, hwb, hbk⟩ := HJ.out.box 0 (by omega) hLa
          rw [hLi] at hbk
          simp only [Bool.false_eq_true, if_false] at hbk
          have e1 : vals 1 = cv ca := HJ.out.pure 1 (by omega) (hE ⟨1, .data⟩ (by simp) rfl)
          obtain ⟨c0, c1, g0, g1⟩ := box_cell hbk
          simp only [Nat.reduceAdd] at hv
          simp only [e1, hv]
          clear hE
          go_wp2_with fail
          exact ⟨rfl, undef, rfl, HJ.out.storeStep 0 (by omega) hLa b hv hwb (grown_set2 _ _ _ _) (box_set hbk)⟩
        · have hLa := hE ⟨9, .data⟩ (by simp) rfl
          obtain ⟨b, hv, hwb, hbk⟩ := HJ.out.box 1 (by omega) hLa
          rw [hLi] at hbk
          simp only [Bool.false_eq_true, if_false] at hbk
          have e1 : vals 3 = cv cb := HJ.out.pure 3 (by omega) (hE ⟨3, .data⟩ (by simp) rfl)
          obtain ⟨c0, c1, g0, g1⟩ := box_cell hbk
          simp only [Nat.reduceAdd] at hv
          simp only [e1, hv]
          clear hE
          go_wp2_with fail
          exact ⟨rfl, undef, rfl, HJ.out.storeStep 1 (by omega) hLa b hv hwb (grown_set2 _ _ _ _) (box_set hbk)⟩
        · have hLa := hE ⟨10, .data⟩ (by simp) rfl
          obtain ⟨b, hv, hwb, hbk⟩ := HJ.out.box 2 (by omega) hLa
          rw [hLi] at hbk
          simp only [Bool.false_eq_true, if_false] at hbk
          have e1 : vals 5 = cv cx := HJ.out.pure 5 (by omega) (hE ⟨5, .data⟩ (by simp) rfl)
          obtain ⟨c0, c1, g0, g1⟩ := box_cell hbk
          simp only [Nat.reduceAdd] at hv
          simp only [e1, hv]
          clear hE
          go_wp2_with fail
          exact ⟨rfl, undef, rfl, HJ.out.storeStep 2 (by omega) hLa b hv hwb (grown_set2 _ _ _ _) (box_set hbk)⟩
        · have hLa := hE ⟨11, .data⟩ (by simp) rfl
          obtain ⟨b, hv, hwb, hbk⟩ := HJ.out.box 3 (by omega) hLa
          rw [hLi] at hbk
          simp only [Bool.false_eq_true, if_false] at hbk
          have e1 : vals 7 = cv cy := HJ.out.pure 7 (by omega) (hE ⟨7, .data⟩ (by simp) rfl)
          obtain ⟨c0, c1, g0, g1⟩ := box_cell hbk
          simp only [Nat.reduceAdd] at hv
          simp only [e1, hv]
          clear hE
          go_wp2_with fail
          exact ⟨rfl, undef, rfl, HJ.out.storeStep 3 (by omega) hLa b hv hwb (grown_set2 _ _ _ _) (box_set hbk)⟩
      · intro L vals W hL hJ
        have HBW : Aside (Below w.heap.size w W) := ⟨below_to HBr.out hJ.low⟩
        have tt : ∀ i, i < 4 → L (12 + i) = true := fun i hi => hL _ (by omega)
        obtain ⟨d9, v9, hd9, hk9⟩ := hJ.box 0 (by omega) (hL 8 (by omega))
        obtain ⟨d10, v10, hd10, hk10⟩ := hJ.box 1 (by omega) (hL 9 (by omega))
        obtain ⟨d11, v11, hd11, hk11⟩ := hJ.box 2 (by omega) (hL 10 (by omega))
        obtain ⟨d12, v12, hd12, hk12⟩ := hJ.box 3 (by omega) (hL 11 (by omega))
        rw [tt 0 (by omega)] at hk9
        rw [tt 1 (by omega)] at hk10
        rw [tt 2 (by omega)] at hk11
        rw [tt 3 (by omega)] at hk12
        simp only [if_true] at hk9 hk10 hk11 hk12
        have a_lt : d9 < W.heap.size := (Array.getElem?_eq_some_iff.1 hk9).1
        have b_lt : d10 < W.heap.size := (Array.getElem?_eq_some_iff.1 hk10).1
        have x_lt : d11 < W.heap.size := (Array.getElem?_eq_some_iff.1 hk11).1
        have y_lt : d12 < W.heap.size := (Array.getElem?_eq_some_iff.1 hk12).1
        have hzl := hJ.low.size
        have hzz : w1.heap.size ≤ W.heap.size := by omega
        have t_lt : w1.heap.size < W.heap.size := by omega
        have r_lt : w.heap.size + 1 < W.heap.size := by omega
        have s_lt : w.heap.size + 1 + 1 < W.heap.size := by omega
        have w_lt : w.heap.size < W.heap.size := by omega
        obtain ⟨a_0, a_1, _, _⟩ := box_cell hk9
        obtain ⟨b_0, b_1, _, _⟩ := box_cell (show W.heap[d10]? = some (cnO cb) from hk10)
        obtain ⟨x_0, x_1, _, _⟩ := box_cell (show W.heap[d11]? = some (cnO cx) from hk11)
        obtain ⟨y_0, y_1, _, _⟩ := box_cell (show W.heap[d12]? = some (cnO cy) from hk12)
        have a_n1 : d9 ≠ w.heap.size + 1 := by omega
        have a_n2 : d9 ≠ w.heap.size + 1 + 1 := by omega
        have b_n1 : d10 ≠ w.heap.size + 1 := by omega
        have b_n2 : d10 ≠ w.heap.size + 1 + 1 := by omega
        have x_n1 : d11 ≠ w.heap.size + 1 := by omega
        have x_n2 : d11 ≠ w.heap.size + 1 + 1 := by omega
        have y_n1 : d12 ≠ w.heap.size + 1 := by omega
        have y_n2 : d12 ≠ w.heap.size + 1 + 1 := by omega
        have t_n1 : w1.heap.size ≠ w.heap.size + 1 := by omega
        have t_n2 : w1.heap.size ≠ w.heap.size + 1 + 1 := by omega
        have keepC : ∀ (b o : Nat) (v : Value), b < w1.heap.size + 1 → (cntW w1).cell? ⟨b, o, none⟩ = some v → W.cell? ⟨b, o, none⟩ = some v := fun b o v hb hc => cell_below hJ.low ((HQ.out.cell (p := ⟨b, o, none⟩) hb).trans hc)
        have keepF : ∀ (b o : Nat), b < w1.heap.size + 1 → (cntW w1).frozen? ⟨b, o, none⟩ = false → W.frozen? ⟨b, o, none⟩ = false := fun b o hb hc => (hJ.low.frozen (p := ⟨b, o, none⟩) (by show b < wr.heap.size; omega)).trans ((HQ.out.frozen (p := ⟨b, o, none⟩) hb).trans hc)
        have p_0 : W.cell? ⟨w.heap.size, 0, none⟩ = some (.int .u8 op) := keepC _ _ _ (by omega) (by go_simp)
        have t_0 : W.cell? ⟨w1.heap.size, 0, none⟩ = some (.int .i64 oneC.1) := keepC _ _ _ (by omega) (by go_simp)
        have t_1 : W.cell? ⟨w1.heap.size, 1, none⟩ = some (.int .i64 oneC.2) := keepC _ _ _ (by omega) (by go_simp)
        have r_0 : W.cell? ⟨w.heap.size + 1, 0, none⟩ = some (.int .i64 0) := keepC _ _ _ (by omega) (by go_simp)
        have r_1 : W.cell? ⟨w.heap.size + 1, 1, none⟩ = some (.int .i64 0) := keepC _ _ _ (by omega) (by go_simp)
        have s_0 : W.cell? ⟨w.heap.size + 1 + 1, 0, none⟩ = some (.int .i64 0) := keepC _ _ _ (by omega) (by go_simp)
        have s_1 : W.cell? ⟨w.heap.size + 1 + 1, 1, none⟩ = some (.int .i64 0) := keepC _ _ _ (by omega) (by go_simp)
        have r_f0 : W.frozen? ⟨w.heap.size + 1, 0, none⟩ = false := keepF _ _ (by omega) (by go_simp)
        have r_f1 : W.frozen? ⟨w.heap.size + 1, 1, none⟩ = false := keepF _ _ (by omega) (by go_simp)
        have s_f0 : W.frozen? ⟨w.heap.size + 1 + 1, 0, none⟩ = false := keepF _ _ (by omega) (by go_simp)
        have s_f1 : W.frozen? ⟨w.heap.size + 1 + 1, 1, none⟩ = false := keepF _ _ (by omega) (by go_simp)
        have r_no : w.heap.size + 1 ∉ [w.heap.size + 1 + 1] := by simp
        have s_no : w.heap.size + 1 + 1 ∉ [w.heap.size + 1] := by simp
        simp only [Nat.reduceAdd] at v9 v10 v11 v12
        simp only [List.take_succ_cons, List.take_zero, List.drop_succ_cons, List.drop_zero, lexL, Act.put, List.setIfInBounds_toArray, List.set_cons_zero, List.set_cons_succ, v9, v10, v11, v12]
        clear keepC keepF hk9 hk10 hk11 hk12 v9 v10 v11 v12 tt hL hJ p0 r0 r1 s0 s1 f0 f1 g0 g1 hA0 hA1 HA5 HA6 HBr HQ HZ hzr
        obtain ⟨hop0, hop1⟩ := hop
        rcases (show op = 1 ∨ op = 2 ∨ op = 3 ∨ op = 4 ∨ op = 5 ∨ op = 6 ∨ op = 7 ∨ op = 8 ∨ op = 9 ∨ op = 10 ∨ op = 11 ∨ op = 12 ∨ op = 13 ∨ op = 14 ∨ op = 15 by omega) with rfl | rfl | rfl | rfl | rfl | rfl | rfl | rfl | rfl | rfl | rfl | rfl | rfl | rfl | rfl
        · go_wp2_with fail
          refine wp_region_st 4 [(2, w.heap.size + 1), (3, w.heap.size + 1 + 1)] (by kernel_rfl) (by kernel_rfl) [fun v _ => v = cv oneC, fun v _ => v = cv oneC, fun _ W => W.cell? ⟨w.heap.size + 1, 0, none⟩ = some (.int .i64 oneC.1) ∧ W.cell? ⟨w.heap.size + 1, 1, none⟩ = some (.int .i64 oneC.2), fun _ W => W.cell? ⟨w.heap.size + 1 + 1, 0, none⟩ = some (.int .i64 oneC.1) ∧ W.cell? ⟨w.heap.size + 1 + 1, 1, none⟩ = some (.int .i64 oneC.2)]
            ⟨stabAt_eq _ _ _, stabAt_eq _ _ _, stab_store _ _ _ oneC (fun hb => by have := List.eq_of_mem_singleton hb; omega), stab_store _ _ _ oneC (fun hb => by have := List.eq_of_mem_singleton hb; omega), trivial⟩ ?_ ?_
          · simp only [List.take_succ_cons, List.take_zero]
            refine st_cons ?_ (st_cons ?_ (st_cons ?_ (st_cons ?_ st_nil)))
            all_goals intro vals W hW hv; have HW := Aside.mk hW; clear hW; try simp only [Act.put, List.setIfInBounds_toArray, List.set_cons_zero, List.set_cons_succ]
            · have c0 := (HW.out.cell (p := ⟨w1.heap.size, 0, none⟩) t_lt (ne2 t_n1 t_n2)).trans t_0
              have c1 := (HW.out.cell (p := ⟨w1.heap.size, 1, none⟩) t_lt (ne2 t_n1 t_n2)).trans t_1
              clear hv
              go_wp2_with fail
              exact ⟨rfl, _, rfl, grown_refl _ _, rfl⟩
            · have c0 := (HW.out.cell (p := ⟨w1.heap.size, 0, none⟩) t_lt (ne2 t_n1 t_n2)).trans t_0
              have c1 := (HW.out.cell (p := ⟨w1.heap.size, 1, none⟩) t_lt (ne2 t_n1 t_n2)).trans t_1
              clear hv
              go_wp2_with fail
              exact ⟨rfl, _, rfl, grown_refl _ _, rfl⟩
            · have e : vals 0 = cv oneC := hv ⟨0, .data⟩ (by simp) rfl
              have c0 := (HW.out.cell (p := ⟨w.heap.size + 1, 0, none⟩) r_lt r_no).trans r_0
              have c1 := (HW.out.cell (p := ⟨w.heap.size + 1, 1, none⟩) r_lt r_no).trans r_1
              have g0 := (HW.out.frozen (p := ⟨w.heap.size + 1, 0, none⟩) r_lt r_no).trans r_f0
              have g1 := (HW.out.frozen (p := ⟨w.heap.size + 1, 1, none⟩) r_lt r_no).trans r_f1
              have hlt := Nat.lt_of_lt_of_le r_lt HW.out.size
              simp only [e]
              clear hv
              go_wp2_with fail
              exact ⟨rfl, undef, rfl, grown_set2 _ _ _ _, by go_simp, by go_simp⟩
            · have e : vals 1 = cv oneC := hv ⟨1, .data⟩ (by simp) rfl
              have c0 := (HW.out.cell (p := ⟨w.heap.size + 1 + 1, 0, none⟩) s_lt s_no).trans s_0
              have c1 := (HW.out.cell (p := ⟨w.heap.size + 1 + 1, 1, none⟩) s_lt s_no).trans s_1
              have g0 := (HW.out.frozen (p := ⟨w.heap.size + 1 + 1, 0, none⟩) s_lt s_no).trans s_f0
              have g1 := (HW.out.frozen (p := ⟨w.heap.size + 1 + 1, 1, none⟩) s_lt s_no).trans s_f1
              have hlt := Nat.lt_of_lt_of_le s_lt HW.out.size
              simp only [e]
              clear hv
              go_wp2_with fail
              exact ⟨rfl, undef, rfl, grown_set2 _ _ _ _, by go_simp, by go_simp⟩
          · intro vals W hW hv
            obtain ⟨a0, a1⟩ : W.cell? ⟨w.heap.size + 1, 0, none⟩ = some (.int .i64 oneC.1) ∧ W.cell? ⟨w.heap.size + 1, 1, none⟩ = some (.int .i64 oneC.2) := hv 2 (by omega)
            obtain ⟨b0, b1⟩ : W.cell? ⟨w.heap.size + 1 + 1, 0, none⟩ = some (.int .i64 oneC.1) ∧ W.cell? ⟨w.heap.size + 1 + 1, 1, none⟩ = some (.int .i64 oneC.2) := hv 3 (by omega)
            have HB2 := Aside.mk (hW.below HBW.out (fun k hk => by simp at hk; omega) (by omega))
            have HE2 : Aside (R = (oneC, oneC)) := ⟨HE.out.trans (by simp [cntOp])⟩
            clear hv hW
            simp only [List.take_succ_cons, List.take_zero, List.drop_succ_cons, List.drop_zero, lexL, Act.put, List.setIfInBounds_toArray, List.set_cons_zero, List.set_cons_succ]
            go_wp2_with fail
            refine bodyPost_ret (v := .tuple #[cv oneC, cv oneC]) (by simp [results, Tryz.results146, go_sem, a0, a1, b0, b1]) rfl ?_
            exact ⟨by rw [HE2.out], HB2.out⟩
        · go_wp2_with fail
          refine wp_region_st 4 [(2, w.heap.size + 1), (3, w.heap.size + 1 + 1)] (by kernel_rfl) (by kernel_rfl) [fun v _ => v = cv oneC, fun v _ => v = cv oneC, fun _ W => W.cell? ⟨w.heap.size + 1, 0, none⟩ = some (.int .i64 oneC.1) ∧ W.cell? ⟨w.heap.size + 1, 1, none⟩ = some (.int .i64 oneC.2), fun _ W => W.cell? ⟨w.heap.size + 1 + 1, 0, none⟩ = some (.int .i64 oneC.1) ∧ W.cell? ⟨w.heap.size + 1 + 1, 1, none⟩ = some (.int .i64 oneC.2)]
            ⟨stabAt_eq _ _ _, stabAt_eq _ _ _, stab_store _ _ _ oneC (fun hb => by have := List.eq_of_mem_singleton hb; omega), stab_store _ _ _ oneC (fun hb => by have := List.eq_of_mem_singleton hb; omega), trivial⟩ ?_ ?_
          · simp only [List.take_succ_cons, List.take_zero]
            refine st_cons ?_ (st_cons ?_ (st_cons ?_ (st_cons ?_ st_nil)))
            all_goals intro vals W hW hv; have HW := Aside.mk hW; clear hW; try simp only [Act.put, List.setIfInBounds_toArray, List.set_cons_zero, List.set_cons_succ]
            · have c0 := (HW.out.cell (p := ⟨w1.heap.size, 0, none⟩) t_lt (ne2 t_n1 t_n2)).trans t_0
              have c1 := (HW.out.cell (p := ⟨w1.heap.size, 1, none⟩) t_lt (ne2 t_n1 t_n2)).trans t_1
              clear hv
              go_wp2_with fail
              exact ⟨rfl, _, rfl, grown_refl _ _, rfl⟩
            · have c0 := (HW.out.cell (p := ⟨w1.heap.size, 0, none⟩) t_lt (ne2 t_n1 t_n2)).trans t_0
              have c1 := (HW.out.cell (p := ⟨w1.heap.size, 1, none⟩) t_lt (ne2 t_n1 t_n2)).trans t_1
              clear hv
              go_wp2_with fail
              exact ⟨rfl, _, rfl, grown_refl _ _, rfl⟩
            · have e : vals 0 = cv oneC := hv ⟨0, .data⟩ (by simp) rfl
              have c0 := (HW.out.cell (p := ⟨w.heap.size + 1, 0, none⟩) r_lt r_no).trans r_0
              have c1 := (HW.out.cell (p := ⟨w.heap.size + 1, 1, none⟩) r_lt r_no).trans r_1
              have g0 := (HW.out.frozen (p := ⟨w.heap.size + 1, 0, none⟩) r_lt r_no).trans r_f0
              have g1 := (HW.out.frozen (p := ⟨w.heap.size + 1, 1, none⟩) r_lt r_no).trans r_f1
              have hlt := Nat.lt_of_lt_of_le r_lt HW.out.size
              simp only [e]
              clear hv
              go_wp2_with fail
              exact ⟨rfl, undef, rfl, grown_set2 _ _ _ _, by go_simp, by go_simp⟩
            · have e : vals 1 = cv oneC := hv ⟨1, .data⟩ (by simp) rfl
              have c0 := (HW.out.cell (p := ⟨w.heap.size + 1 + 1, 0, none⟩) s_lt s_no).trans s_0
              have c1 := (HW.out.cell (p := ⟨w.heap.size + 1 + 1, 1, none⟩) s_lt s_no).trans s_1
              have g0 := (HW.out.frozen (p := ⟨w.heap.size + 1 + 1, 0, none⟩) s_lt s_no).trans s_f0
              have g1 := (HW.out.frozen (p := ⟨w.heap.size + 1 + 1, 1, none⟩) s_lt s_no).trans s_f1
              have hlt := Nat.lt_of_lt_of_le s_lt HW.out.size
              simp only [e]
              clear hv
              go_wp2_with fail
              exact ⟨rfl, undef, rfl, grown_set2 _ _ _ _, by go_simp, by go_simp⟩
          · intro vals W hW hv
            obtain ⟨a0, a1⟩ : W.cell? ⟨w.heap.size + 1, 0, none⟩ = some (.int .i64 oneC.1) ∧ W.cell? ⟨w.heap.size + 1, 1, none⟩ = some (.int .i64 oneC.2) := hv 2 (by omega)
            obtain ⟨b0, b1⟩ : W.cell? ⟨w.heap.size + 1 + 1, 0, none⟩ = some (.int .i64 oneC.1) ∧ W.cell? ⟨w.heap.size + 1 + 1, 1, none⟩ = some (.int .i64 oneC.2) := hv 3 (by omega)
            have HB2 := Aside.mk (hW.below HBW.out (fun k hk => by simp at hk; omega) (by omega))
            have HE2 : Aside (R = (oneC, oneC)) := ⟨HE.out.trans (by simp [cntOp])⟩
            clear hv hW
            simp only [List.take_succ_cons, List.take_zero, List.drop_succ_cons, List.drop_zero, lexL, Act.put, List.setIfInBounds_toArray, List.set_cons_zero, List.set_cons_succ]
            go_wp2_with fail
            refine bodyPost_ret (v := .tuple #[cv oneC, cv oneC]) (by simp [results, Tryz.results146, go_sem, a0, a1, b0, b1]) rfl ?_
            exact ⟨by rw [HE2.out], HB2.out⟩
        · go_wp2_with fail
          refine wp_region_st 6 [(4, w.heap.size + 1), (5, w.heap.size + 1 + 1)] (by kernel_rfl) (by kernel_rfl) [fun v _ => v = cv oneC, fun v _ => v = cv oneC, fun v W => ∃ b, v = .slice (some ⟨b, 0, none⟩) 1 1 ∧ w1.heap.size ≤ b ∧ b < W.heap.size ∧ IsC W (some ⟨b, 0, none⟩) 1 [oneC], fun v _ => v = cv (jn [oneC]), fun _ W => W.cell? ⟨w.heap.size + 1, 0, none⟩ = some (.int .i64 oneC.1) ∧ W.cell? ⟨w.heap.size + 1, 1, none⟩ = some (.int .i64 oneC.2), fun _ W => W.cell? ⟨w.heap.size + 1 + 1, 0, none⟩ = some (.int .i64 (jn [oneC]).1) ∧ W.cell? ⟨w.heap.size + 1 + 1, 1, none⟩ = some (.int .i64 (jn [oneC]).2)]
            ⟨stabAt_eq _ _ _, stabAt_eq _ _ _, stab_build _ _ _ _ _ (lt2 hsz1 hsz2), stabAt_eq _ _ _, stab_store _ _ _ oneC (fun hb => by have := List.eq_of_mem_singleton hb; omega), stab_store _ _ _ (jn [oneC]) (fun hb => by have := List.eq_of_mem_singleton hb; omega), trivial⟩ ?_ ?_
          · simp only [List.take_succ_cons, List.take_zero]
            refine st_cons ?_ (st_cons ?_ (st_cons ?_ (st_cons ?_ (st_cons ?_ (st_cons ?_ st_nil)))))
            all_goals intro vals W hW hv; have HW := Aside.mk hW; clear hW; try simp only [Act.put, List.setIfInBounds_toArray, List.set_cons_zero, List.set_cons_succ]
            · have c0 := (HW.out.cell (p := ⟨w1.heap.size, 0, none⟩) t_lt (ne2 t_n1 t_n2)).trans t_0
              have c1 := (HW.out.cell (p := ⟨w1.heap.size, 1, none⟩) t_lt (ne2 t_n1 t_n2)).trans t_1
              clear hv
              go_wp2_with fail
              exact ⟨rfl, _, rfl, grown_refl _ _, rfl⟩
            · have c0 := (HW.out.cell (p := ⟨w1.heap.size, 0, none⟩) t_lt (ne2 t_n1 t_n2)).trans t_0
              have c1 := (HW.out.cell (p := ⟨w1.heap.size, 1, none⟩) t_lt (ne2 t_n1 t_n2)).trans t_1
              clear hv
              go_wp2_with fail
              exact ⟨rfl, _, rfl, grown_refl _ _, rfl⟩
            · have e1 : vals 1 = cv oneC := hv ⟨1, .data⟩ (by simp) rfl
              simp only [e1]
              clear hv
              go_wp2_with fail
              exact ⟨rfl, _, rfl, World.grownBy_alloc _ _ _, W.heap.size, rfl, Nat.le_trans hzz HW.out.size, by simp, isC1 (by go_simp) (by go_simp)⟩
            · obtain ⟨b, e, hb1, hb2, hC⟩ : ∃ b, vals 2 = .slice (some ⟨b, 0, none⟩) 1 1 ∧ w1.heap.size ≤ b ∧ b < W.heap.size ∧ IsC W (some ⟨b, 0, none⟩) 1 [oneC] := hv ⟨2, .data⟩ (by simp) rfl
              have HC := Aside.mk hC
              simp only [e]
              clear hv hC
              go_wp2_with fail
              refine (joined_c [oneC] (ok1 one_ok) _ _ _ W HC.out).mono ?_
              rintro e w' ⟨rfl, hb⟩
              go_wp2_with fail
              exact ⟨rfl, _, rfl, grown_below hb _, rfl⟩
            · have e : vals 0 = cv oneC := hv ⟨0, .data⟩ (by simp) rfl
              have c0 := (HW.out.cell (p := ⟨w.heap.size + 1, 0, none⟩) r_lt r_no).trans r_0
              have c1 := (HW.out.cell (p := ⟨w.heap.size + 1, 1, none⟩) r_lt r_no).trans r_1
              have g0 := (HW.out.frozen (p := ⟨w.heap.size + 1, 0, none⟩) r_lt r_no).trans r_f0
              have g1 := (HW.out.frozen (p := ⟨w.heap.size + 1, 1, none⟩) r_lt r_no).trans r_f1
              have hlt := Nat.lt_of_lt_of_le r_lt HW.out.size
              simp only [e]
              clear hv
              go_wp2_with fail
              exact ⟨rfl, undef, rfl, grown_set2 _ _ _ _, by go_simp, by go_simp⟩
            · have e : vals 3 = cv (jn [oneC]) := hv ⟨3, .data⟩ (by simp) rfl
              have c0 := (HW.out.cell (p := ⟨w.heap.size + 1 + 1, 0, none⟩) s_lt s_no).trans s_0
              have c1 := (HW.out.cell (p := ⟨w.heap.size + 1 + 1, 1, none⟩) s_lt s_no).trans s_1
              have g0 := (HW.out.frozen (p := ⟨w.heap.size + 1 + 1, 0, none⟩) s_lt s_no).trans s_f0
              have g1 := (HW.out.frozen (p := ⟨w.heap.size + 1 + 1, 1, none⟩) s_lt s_no).trans s_f1
              have hlt := Nat.lt_of_lt_of_le s_lt HW.out.size
              simp only [e]
              clear hv
              go_wp2_with fail
              exact ⟨rfl, undef, rfl, grown_set2 _ _ _ _, by go_simp, by go_simp⟩
          · intro vals W hW hv
            obtain ⟨a0, a1⟩ : W.cell? ⟨w.heap.size + 1, 0, none⟩ = some (.int .i64 oneC.1) ∧ W.cell? ⟨w.heap.size + 1, 1, none⟩ = some (.int .i64 oneC.2) := hv 4 (by omega)
            obtain ⟨b0, b1⟩ : W.cell? ⟨w.heap.size + 1 + 1, 0, none⟩ = some (.int .i64 (jn [oneC]).1) ∧ W.cell? ⟨w.heap.size + 1 + 1, 1, none⟩ = some (.int .i64 (jn [oneC]).2) := hv 5 (by omega)
            have HB2 := Aside.mk (hW.below HBW.out (fun k hk => by simp at hk; omega) (by omega))
            have HE2 : Aside (R = (oneC, (jn [oneC]))) := ⟨HE.out.trans (by simp [cntOp])⟩
            clear hv hW
            simp only [List.take_succ_cons, List.take_zero, List.drop_succ_cons, List.drop_zero, lexL, Act.put, List.setIfInBounds_toArray, List.set_cons_zero, List.set_cons_succ]
            go_wp2_with fail
            refine bodyPost_ret (v := .tuple #[cv oneC, cv (jn [oneC])]) (by simp [results, Tryz.results146, go_sem, a0, a1, b0, b1]) rfl ?_
            exact ⟨by rw [HE2.out], HB2.out⟩
        · go_wp2_with fail
          refine wp_region_st 4 [(2, w.heap.size + 1), (3, w.heap.size + 1 + 1)] (by kernel_rfl) (by kernel_rfl) [fun v _ => v = cv cx, fun v _ => v = cv ca, fun _ W => W.cell? ⟨w.heap.size + 1, 0, none⟩ = some (.int .i64 cx.1) ∧ W.cell? ⟨w.heap.size + 1, 1, none⟩ = some (.int .i64 cx.2), fun _ W => W.cell? ⟨w.heap.size + 1 + 1, 0, none⟩ = some (.int .i64 ca.1) ∧ W.cell? ⟨w.heap.size + 1 + 1, 1, none⟩ = some (.int .i64 ca.2)]
            ⟨stabAt_eq _ _ _, stabAt_eq _ _ _, stab_store _ _ _ cx (fun hb => by have := List.eq_of_mem_singleton hb; omega), stab_store _ _ _ ca (fun hb => by have := List.eq_of_mem_singleton hb; omega), trivial⟩ ?_ ?_
          · simp only [List.take_succ_cons, List.take_zero]
            refine st_cons ?_ (st_cons ?_ (st_cons ?_ (st_cons ?_ st_nil)))
            all_goals intro vals W hW hv; have HW := Aside.mk hW; clear hW; try simp only [Act.put, List.setIfInBounds_toArray, List.set_cons_zero, List.set_cons_succ]
            · have c0 := (HW.out.cell (p := ⟨d11, 0, none⟩) x_lt (ne2 x_n1 x_n2)).trans x_0
              have c1 := (HW.out.cell (p := ⟨d11, 1, none⟩) x_lt (ne2 x_n1 x_n2)).trans x_1
              clear hv
              go_wp2_with fail
              exact ⟨rfl, _, rfl, grown_refl _ _, rfl⟩
            · have c0 := (HW.out.cell (p := ⟨d9, 0, none⟩) a_lt (ne2 a_n1 a_n2)).trans a_0
              have c1 := (HW.out.cell (p := ⟨d9, 1, none⟩) a_lt (ne2 a_n1 a_n2)).trans a_1
              clear hv
              go_wp2_with fail
              exact ⟨rfl, _, rfl, grown_refl _ _, rfl⟩
            · have e : vals 0 = cv cx := hv ⟨0, .data⟩ (by simp) rfl
              have c0 := (HW.out.cell (p := ⟨w.heap.size + 1, 0, none⟩) r_lt r_no).trans r_0
              have c1 := (HW.out.cell (p := ⟨w.heap.size + 1, 1, none⟩) r_lt r_no).trans r_1
              have g0 := (HW.out.frozen (p := ⟨w.heap.size + 1, 0, none⟩) r_lt r_no).trans r_f0
              have g1 := (HW.out.frozen (p := ⟨w.heap.size + 1, 1, none⟩) r_lt r_no).trans r_f1
              have hlt := Nat.lt_of_lt_of_le r_lt HW.out.size
              simp only [e]
              clear hv
              go_wp2_with fail
              exact ⟨rfl, undef, rfl, grown_set2 _ _ _ _, by go_simp, by go_simp⟩
            · have e : vals 1 = cv ca := hv ⟨1, .data⟩ (by simp) rfl
              have c0 := (HW.out.cell (p := ⟨w.heap.size + 1 + 1, 0, none⟩) s_lt s_no).trans s_0
              have c1 := (HW.out.cell (p := ⟨w.heap.size + 1 + 1, 1, none⟩) s_lt s_no).trans s_1
              have g0 := (HW.out.frozen (p := ⟨w.heap.size + 1 + 1, 0, none⟩) s_lt s_no).trans s_f0
              have g1 := (HW.out.frozen (p := ⟨w.heap.size + 1 + 1, 1, none⟩) s_lt s_no).trans s_f1
              have hlt := Nat.lt_of_lt_of_le s_lt HW.out.size
              simp only [e]
              clear hv
              go_wp2_with fail
              exact ⟨rfl, undef, rfl, grown_set2 _ _ _ _, by go_simp, by go_simp⟩
          · intro vals W hW hv
            obtain ⟨a0, a1⟩ : W.cell? ⟨w.heap.size + 1, 0, none⟩ = some (.int .i64 cx.1) ∧ W.cell? ⟨w.heap.size + 1, 1, none⟩ = some (.int .i64 cx.2) := hv 2 (by omega)
            obtain ⟨b0, b1⟩ : W.cell? ⟨w.heap.size + 1 + 1, 0, none⟩ = some (.int .i64 ca.1) ∧ W.cell? ⟨w.heap.size + 1 + 1, 1, none⟩ = some (.int .i64 ca.2) := hv 3 (by omega)
            have HB2 := Aside.mk (hW.below HBW.out (fun k hk => by simp at hk; omega) (by omega))
            have HE2 : Aside (R = (cx, ca)) := ⟨HE.out.trans (by simp [cntOp])⟩
            clear hv hW
            simp only [List.take_succ_cons, List.take_zero, List.drop_succ_cons, List.drop_zero, lexL, Act.put, List.setIfInBounds_toArray, List.set_cons_zero, List.set_cons_succ]
            go_wp2_with fail
            refine bodyPost_ret (v := .tuple #[cv cx, cv ca]) (by simp [results, Tryz.results146, go_sem, a0, a1, b0, b1]) rfl ?_
            exact ⟨by rw [HE2.out], HB2.out⟩
        · go_wp2_with fail
          refine wp_region_st 10 [(8, w.heap.size + 1), (9, w.heap.size + 1 + 1)] (by kernel_rfl) (by kernel_rfl) [fun v _ => v = cv ca, fun v _ => v = cv cb, fun v W => ∃ b, v = .slice (some ⟨b, 0, none⟩) 2 2 ∧ w1.heap.size ≤ b ∧ b < W.heap.size ∧ IsC W (some ⟨b, 0, none⟩) 2 [ca, cb], fun v _ => v = cv (jn [ca, cb]), fun v _ => v = cv cx, fun v _ => v = cv cy, fun v W => ∃ b, v = .slice (some ⟨b, 0, none⟩) 2 2 ∧ w1.heap.size ≤ b ∧ b < W.heap.size ∧ IsC W (some ⟨b, 0, none⟩) 2 [cx, cy], fun v _ => v = cv (jn [cx, cy]), fun _ W => W.cell? ⟨w.heap.size + 1, 0, none⟩ = some (.int .i64 (jn [ca, cb]).1) ∧ W.cell? ⟨w.heap.size + 1, 1, none⟩ = some (.int .i64 (jn [ca, cb]).2), fun _ W => W.cell? ⟨w.heap.size + 1 + 1, 0, none⟩ = some (.int .i64 (jn [cx, cy]).1) ∧ W.cell? ⟨w.heap.size + 1 + 1, 1, none⟩ = some (.int .i64 (jn [cx, cy]).2)]
            ⟨stabAt_eq _ _ _, stabAt_eq _ _ _, stab_build _ _ _ _ _ (lt2 hsz1 hsz2), stabAt_eq _ _ _, stabAt_eq _ _ _, stabAt_eq _ _ _, stab_build _ _ _ _ _ (lt2 hsz1 hsz2), stabAt_eq _ _ _, stab_store _ _ _ (jn [ca, cb]) (fun hb => by have := List.eq_of_mem_singleton hb; omega), stab_store _ _ _ (jn [cx, cy]) (fun hb => by have := List.eq_of_mem_singleton hb; omega), trivial⟩ ?_ ?_
          · simp only [List.take_succ_cons, List.take_zero]
            refine st_cons ?_ (st_cons ?_ (st_cons ?_ (st_cons ?_ (st_cons ?_ (st_cons ?_ (st_cons ?_ (st_cons ?_ (st_cons ?_ (st_cons ?_ st_nil)))))))))
            all_goals intro vals W hW hv; have HW := Aside.mk hW; clear hW; try simp only [Act.put, List.setIfInBounds_toArray, List.set_cons_zero, List.set_cons_succ]
            · have c0 := (HW.out.cell (p := ⟨d9, 0, none⟩) a_lt (ne2 a_n1 a_n2)).trans a_0
              have c1 := (HW.out.cell (p := ⟨d9, 1, none⟩) a_lt (ne2 a_n1 a_n2)).trans a_1
              clear hv
              go_wp2_with fail
              exact ⟨rfl, _, rfl, grown_refl _ _, rfl⟩
            · have c0 := (HW.out.cell (p := ⟨d10, 0, none⟩) b_lt (ne2 b_n1 b_n2)).trans b_0
              have c1 := (HW.out.cell (p := ⟨d10, 1, none⟩) b_lt (ne2 b_n1 b_n2)).trans b_1
              clear hv
              go_wp2_with fail
              exact ⟨rfl, _, rfl, grown_refl _ _, rfl⟩
            · have e0 : vals 0 = cv ca := hv ⟨0, .data⟩ (by simp) rfl
              have e1 : vals 1 = cv cb := hv ⟨1, .data⟩ (by simp) rfl
              simp only [e0, e1]
              clear hv
              go_wp2_with fail
              exact ⟨rfl, _, rfl, World.grownBy_alloc _ _ _, W.heap.size, rfl, Nat.le_trans hzz HW.out.size, by simp, isC2 (by go_simp) (by go_simp) (by go_simp) (by go_simp)⟩
            · obtain ⟨b, e, hb1, hb2, hC⟩ : ∃ b, vals 2 = .slice (some ⟨b, 0, none⟩) 2 2 ∧ w1.heap.size ≤ b ∧ b < W.heap.size ∧ IsC W (some ⟨b, 0, none⟩) 2 [ca, cb] := hv ⟨2, .data⟩ (by simp) rfl
              have HC := Aside.mk hC
              simp only [e]
              clear hv hC
              go_wp2_with fail
              refine (joined_c [ca, cb] (ok2 OK.out.1 OK.out.2.1) _ _ _ W HC.out).mono ?_
              rintro e w' ⟨rfl, hb⟩
              go_wp2_with fail
              exact ⟨rfl, _, rfl, grown_below hb _, rfl⟩
            · have c0 := (HW.out.cell (p := ⟨d11, 0, none⟩) x_lt (ne2 x_n1 x_n2)).trans x_0
              have c1 := (HW.out.cell (p := ⟨d11, 1, none⟩) x_lt (ne2 x_n1 x_n2)).trans x_1
              clear hv
              go_wp2_with fail
              exact ⟨rfl, _, rfl, grown_refl _ _, rfl⟩
            · have c0 := (HW.out.cell (p := ⟨d12, 0, none⟩) y_lt (ne2 y_n1 y_n2)).trans y_0
              have c1 := (HW.out.cell (p := ⟨d12, 1, none⟩) y_lt (ne2 y_n1 y_n2)).trans y_1
              clear hv
              go_wp2_with fail
              exact ⟨rfl, _, rfl, grown_refl _ _, rfl⟩
            · have e4 : vals 4 = cv cx := hv ⟨4, .data⟩ (by simp) rfl
              have e5 : vals 5 = cv cy := hv ⟨5, .data⟩ (by simp) rfl
              simp only [e4, e5]
              clear hv
              go_wp2_with fail
              exact ⟨rfl, _, rfl, World.grownBy_alloc _ _ _, W.heap.size, rfl, Nat.le_trans hzz HW.out.size, by simp, isC2 (by go_simp) (by go_simp) (by go_simp) (by go_simp)⟩
            · obtain ⟨b, e, hb1, hb2, hC⟩ : ∃ b, vals 6 = .slice (some ⟨b, 0, none⟩) 2 2 ∧ w1.heap.size ≤ b ∧ b < W.heap.size ∧ IsC W (some ⟨b, 0, none⟩) 2 [cx, cy] := hv ⟨6, .data⟩ (by simp) rfl
              have HC := Aside.mk hC
              simp only [e]
              clear hv hC
              go_wp2_with fail
              refine (joined_c [cx, cy] (ok2 OK.out.2.2.1 OK.out.2.2.2) _ _ _ W HC.out).mono ?_
              rintro e w' ⟨rfl, hb⟩
              go_wp2_with fail
              exact ⟨rfl, _, rfl, grown_below hb _, rfl⟩
            · have e : vals 3 = cv (jn [ca, cb]) := hv ⟨3, .data⟩ (by simp) rfl
              have c0 := (HW.out.cell (p := ⟨w.heap.size + 1, 0, none⟩) r_lt r_no).trans r_0
              have c1 := (HW.out.cell (p := ⟨w.heap.size + 1, 1, none⟩) r_lt r_no).trans r_1
              have g0 := (HW.out.frozen (p := ⟨w.heap.size + 1, 0, none⟩) r_lt r_no).trans r_f0
              have g1 := (HW.out.frozen (p := ⟨w.heap.size + 1, 1, none⟩) r_lt r_no).trans r_f1
              have hlt := Nat.lt_of_lt_of_le r_lt HW.out.size
              simp only [e]
              clear hv
              go_wp2_with fail
              exact ⟨rfl, undef, rfl, grown_set2 _ _ _ _, by go_simp, by go_simp⟩
            · have e : vals 7 = cv (jn [cx, cy]) := hv ⟨7, .data⟩ (by simp) rfl
              have c0 := (HW.out.cell (p := ⟨w.heap.size + 1 + 1, 0, none⟩) s_lt s_no).trans s_0
              have c1 := (HW.out.cell (p := ⟨w.heap.size + 1 + 1, 1, none⟩) s_lt s_no).trans s_1
              have g0 := (HW.out.frozen (p := ⟨w.heap.size + 1 + 1, 0, none⟩) s_lt s_no).trans s_f0
              have g1 := (HW.out.frozen (p := ⟨w.heap.size + 1 + 1, 1, none⟩) s_lt s_no).trans s_f1
              have hlt := Nat.lt_of_lt_of_le s_lt HW.out.size
              simp only [e]
              clear hv
              go_wp2_with fail
              exact ⟨rfl, undef, rfl, grown_set2 _ _ _ _, by go_simp, by go_simp⟩
          · intro vals W hW hv
            obtain ⟨a0, a1⟩ : W.cell? ⟨w.heap.size + 1, 0, none⟩ = some (.int .i64 (jn [ca, cb]).1) ∧ W.cell? ⟨w.heap.size + 1, 1, none⟩ = some (.int .i64 (jn [ca, cb]).2) := hv 8 (by omega)
            obtain ⟨b0, b1⟩ : W.cell? ⟨w.heap.size + 1 + 1, 0, none⟩ = some (.int .i64 (jn [cx, cy]).1) ∧ W.cell? ⟨w.heap.size + 1 + 1, 1, none⟩ = some (.int .i64 (jn [cx, cy]).2) := hv 9 (by omega)
            have HB2 := Aside.mk (hW.below HBW.out (fun k hk => by simp at hk; omega) (by omega))
            have HE2 : Aside (R = ((jn [ca, cb]), (jn [cx, cy]))) := ⟨HE.out.trans (by simp [cntOp])⟩
            clear hv hW
            simp only [List.take_succ_cons, List.take_zero, List.drop_succ_cons, List.drop_zero, lexL, Act.put, List.setIfInBounds_toArray, List.set_cons_zero, List.set_cons_succ]
            go_wp2_with fail
            refine bodyPost_ret (v := .tuple #[cv (jn [ca, cb]), cv (jn [cx, cy])]) (by simp [results, Tryz.results146, go_sem, a0, a1, b0, b1]) rfl ?_
            exact ⟨by rw [HE2.out], HB2.out⟩
        · go_wp2_with fail
          refine wp_region_st 10 [(8, w.heap.size + 1), (9, w.heap.size + 1 + 1)] (by kernel_rfl) (by kernel_rfl) [fun v _ => v = cv ca, fun v _ => v = cv cb, fun v W => ∃ b, v = .slice (some ⟨b, 0, none⟩) 2 2 ∧ w1.heap.size ≤ b ∧ b < W.heap.size ∧ IsC W (some ⟨b, 0, none⟩) 2 [ca, cb], fun v _ => v = cv (jn [ca, cb]), fun v _ => v = cv cx, fun v _ => v = cv cy, fun v W => ∃ b, v = .slice (some ⟨b, 0, none⟩) 2 2 ∧ w1.heap.size ≤ b ∧ b < W.heap.size ∧ IsC W (some ⟨b, 0, none⟩) 2 [cx, cy], fun v _ => v = cv (jn [cx, cy]), fun _ W => W.cell? ⟨w.heap.size + 1, 0, none⟩ = some (.int .i64 (jn [ca, cb]).1) ∧ W.cell? ⟨w.heap.size + 1, 1, none⟩ = some (.int .i64 (jn [ca, cb]).2), fun _ W => W.cell? ⟨w.heap.size + 1 + 1, 0, none⟩ = some (.int .i64 (jn [cx, cy]).1) ∧ W.cell? ⟨w.heap.size + 1 + 1, 1, none⟩ = some (.int .i64 (jn [cx, cy]).2)]
            ⟨stabAt_eq _ _ _, stabAt_eq _ _ _, stab_build _ _ _ _ _ (lt2 hsz1 hsz2), stabAt_eq _ _ _, stabAt_eq _ _ _, stabAt_eq _ _ _, stab_build _ _ _ _ _ (lt2 hsz1 hsz2), stabAt_eq _ _ _, stab_store _ _ _ (jn [ca, cb]) (fun hb => by have := List.eq_of_mem_singleton hb; omega), stab_store _ _ _ (jn [cx, cy]) (fun hb => by have := List.eq_of_mem_singleton hb; omega), trivial⟩ ?_ ?_
          · simp only [List.take_succ_cons, List.take_zero]
            refine st_cons ?_ (st_cons ?_ (st_cons ?_ (st_cons ?_ (st_cons ?_ (st_cons ?_ (st_cons ?_ (st_cons ?_ (st_cons ?_ (st_cons ?_ st_nil)))))))))
            all_goals intro vals W hW hv; have HW := Aside.mk hW; clear hW; try simp only [Act.put, List.setIfInBounds_toArray, List.set_cons_zero, List.set_cons_succ]
            · have c0 := (HW.out.cell (p := ⟨d9, 0, none⟩) a_lt (ne2 a_n1 a_n2)).trans a_0
              have c1 := (HW.out.cell (p := ⟨d9, 1, none⟩) a_lt (ne2 a_n1 a_n2)).trans a_1
              clear hv
              go_wp2_with fail
              exact ⟨rfl, _, rfl, grown_refl _ _, rfl⟩
            · have c0 := (HW.out.cell (p := ⟨d10, 0, none⟩) b_lt (ne2 b_n1 b_n2)).trans b_0
              have c1 := (HW.out.cell (p := ⟨d10, 1, none⟩) b_lt (ne2 b_n1 b_n2)).trans b_1
              clear hv
              go_wp2_with fail
              exact ⟨rfl, _, rfl, grown_refl _ _, rfl⟩
            · have e0 : vals 0 = cv ca := hv ⟨0, .data⟩ (by simp) rfl
              have e1 : vals 1 = cv cb := hv ⟨1, .data⟩ (by simp) rfl
              simp only [e0, e1]
              clear hv
              go_wp2_with fail
              exact ⟨rfl, _, rfl, World.grownBy_alloc _ _ _, W.heap.size, rfl, Nat.le_trans hzz HW.out.size, by simp, isC2 (by go_simp) (by go_simp) (by go_simp) (by go_simp)⟩
            · obtain ⟨b, e, hb1, hb2, hC⟩ : ∃ b, vals 2 = .slice (some ⟨b, 0, none⟩) 2 2 ∧ w1.heap.size ≤ b ∧ b < W.heap.size ∧ IsC W (some ⟨b, 0, none⟩) 2 [ca, cb] := hv ⟨2, .data⟩ (by simp) rfl
              have HC := Aside.mk hC
              simp only [e]
              clear hv hC
              go_wp2_with fail
              refine (joined_c [ca, cb] (ok2 OK.out.1 OK.out.2.1) _ _ _ W HC.out).mono ?_
              rintro e w' ⟨rfl, hb⟩
              go_wp2_with fail
              exact ⟨rfl, _, rfl, grown_below hb _, rfl⟩
            · have c0 := (HW.out.cell (p := ⟨d11, 0, none⟩) x_lt (ne2 x_n1 x_n2)).trans x_0
              have c1 := (HW.out.cell (p := ⟨d11, 1, none⟩) x_lt (ne2 x_n1 x_n2)).trans x_1
              clear hv
              go_wp2_with fail
              exact ⟨rfl, _, rfl, grown_refl _ _, rfl⟩
            · have c0 := (HW.out.cell (p := ⟨d12, 0, none⟩) y_lt (ne2 y_n1 y_n2)).trans y_0
              have c1 := (HW.out.cell (p := ⟨d12, 1, none⟩) y_lt (ne2 y_n1 y_n2)).trans y_1
              clear hv
              go_wp2_with fail
              exact ⟨rfl, _, rfl, grown_refl _ _, rfl⟩
            · have e4 : vals 4 = cv cx := hv ⟨4, .data⟩ (by simp) rfl
              have e5 : vals 5 = cv cy := hv ⟨5, .data⟩ (by simp) rfl
              simp only [e4, e5]
              clear hv
              go_wp2_with fail
              exact ⟨rfl, _, rfl, World.grownBy_alloc _ _ _, W.heap.size, rfl, Nat.le_trans hzz HW.out.size, by simp, isC2 (by go_simp) (by go_simp) (by go_simp) (by go_simp)⟩
            · obtain ⟨b, e, hb1, hb2, hC⟩ : ∃ b, vals 6 = .slice (some ⟨b, 0, none⟩) 2 2 ∧ w1.heap.size ≤ b ∧ b < W.heap.size ∧ IsC W (some ⟨b, 0, none⟩) 2 [cx, cy] := hv ⟨6, .data⟩ (by simp) rfl
              have HC := Aside.mk hC
              simp only [e]
              clear hv hC
              go_wp2_with fail
              refine (joined_c [cx, cy] (ok2 OK.out.2.2.1 OK.out.2.2.2) _ _ _ W HC.out).mono ?_
              rintro e w' ⟨rfl, hb⟩
              go_wp2_with fail
              exact ⟨rfl, _, rfl, grown_below hb _, rfl⟩
            · have e : vals 3 = cv (jn [ca, cb]) := hv ⟨3, .data⟩ (by simp) rfl
              have c0 := (HW.out.cell (p := ⟨w.heap.size + 1, 0, none⟩) r_lt r_no).trans r_0
              have c1 := (HW.out.cell (p := ⟨w.heap.size + 1, 1, none⟩) r_lt r_no).trans r_1
              have g0 := (HW.out.frozen (p := ⟨w.heap.size + 1, 0, none⟩) r_lt r_no).trans r_f0
              have g1 := (HW.out.frozen (p := ⟨w.heap.size + 1, 1, none⟩) r_lt r_no).trans r_f1
              have hlt := Nat.lt_of_lt_of_le r_lt HW.out.size
              simp only [e]
              clear hv
              go_wp2_with fail
              exact ⟨rfl, undef, rfl, grown_set2 _ _ _ _, by go_simp, by go_simp⟩
            · have e : vals 7 = cv (jn [cx, cy]) := hv ⟨7, .data⟩ (by simp) rfl
              have c0 := (HW.out.cell (p := ⟨w.heap.size + 1 + 1, 0, none⟩) s_lt s_no).trans s_0
              have c1 := (HW.out.cell (p := ⟨w.heap.size + 1 + 1, 1, none⟩) s_lt s_no).trans s_1
              have g0 := (HW.out.frozen (p := ⟨w.heap.size + 1 + 1, 0, none⟩) s_lt s_no).trans s_f0
              have g1 := (HW.out.frozen (p := ⟨w.heap.size + 1 + 1, 1, none⟩) s_lt s_no).trans s_f1
              have hlt := Nat.lt_of_lt_of_le s_lt HW.out.size
              simp only [e]
              clear hv
              go_wp2_with fail
              exact ⟨rfl, undef, rfl, grown_set2 _ _ _ _, by go_simp, by go_simp⟩
          · intro vals W hW hv
            obtain ⟨a0, a1⟩ : W.cell? ⟨w.heap.size + 1, 0, none⟩ = some (.int .i64 (jn [ca, cb]).1) ∧ W.cell? ⟨w.heap.size + 1, 1, none⟩ = some (.int .i64 (jn [ca, cb]).2) := hv 8 (by omega)
            obtain ⟨b0, b1⟩ : W.cell? ⟨w.heap.size + 1 + 1, 0, none⟩ = some (.int .i64 (jn [cx, cy]).1) ∧ W.cell? ⟨w.heap.size + 1 + 1, 1, none⟩ = some (.int .i64 (jn [cx, cy]).2) := hv 9 (by omega)
            have HB2 := Aside.mk (hW.below HBW.out (fun k hk => by simp at hk; omega) (by omega))
            have HE2 : Aside (R = ((jn [ca, cb]), (jn [cx, cy]))) := ⟨HE.out.trans (by simp [cntOp])⟩
            clear hv hW
            simp only [List.take_succ_cons, List.take_zero, List.drop_succ_cons, List.drop_zero, lexL, Act.put, List.setIfInBounds_toArray, List.set_cons_zero, List.set_cons_succ]
            go_wp2_with fail
            refine bodyPost_ret (v := .tuple #[cv (jn [ca, cb]), cv (jn [cx, cy])]) (by simp [results, Tryz.results146, go_sem, a0, a1, b0, b1]) rfl ?_
            exact ⟨by rw [HE2.out], HB2.out⟩
        · go_wp2_with fail
          refine wp_region_st 10 [(8, w.heap.size + 1), (9, w.heap.size + 1 + 1)] (by kernel_rfl) (by kernel_rfl) [fun v _ => v = cv cx, fun v _ => v = cv cb, fun v W => ∃ b, v = .slice (some ⟨b, 0, none⟩) 2 2 ∧ w1.heap.size ≤ b ∧ b < W.heap.size ∧ IsC W (some ⟨b, 0, none⟩) 2 [cx, cb], fun v _ => v = cv (jn [cx, cb]), fun v _ => v = cv ca, fun v _ => v = cv cy, fun v W => ∃ b, v = .slice (some ⟨b, 0, none⟩) 2 2 ∧ w1.heap.size ≤ b ∧ b < W.heap.size ∧ IsC W (some ⟨b, 0, none⟩) 2 [ca, cy], fun v _ => v = cv (jn [ca, cy]), fun _ W => W.cell? ⟨w.heap.size + 1, 0, none⟩ = some (.int .i64 (jn [cx, cb]).1) ∧ W.cell? ⟨w.heap.size + 1, 1, none⟩ = some (.int .i64 (jn [cx, cb]).2), fun _ W => W.cell? ⟨w.heap.size + 1 + 1, 0, none⟩ = some (.int .i64 (jn [ca, cy]).1) ∧ W.cell? ⟨w.heap.size + 1 + 1, 1, none⟩ = some (.int .i64 (jn [ca, cy]).2)]
            ⟨stabAt_eq _ _ _, stabAt_eq _ _ _, stab_build _ _ _ _ _ (lt2 hsz1 hsz2), stabAt_eq _ _ _, stabAt_eq _ _ _, stabAt_eq _ _ _, stab_build _ _ _ _ _ (lt2 hsz1 hsz2), stabAt_eq _ _ _, stab_store _ _ _ (jn [cx, cb]) (fun hb => by have := List.eq_of_mem_singleton hb; omega), stab_store _ _ _ (jn [ca, cy]) (fun hb => by have := List.eq_of_mem_singleton hb; omega), trivial⟩ ?_ ?_
          · simp only [List.take_succ_cons, List.take_zero]
            refine st_cons ?_ (st_cons ?_ (st_cons ?_ (st_cons ?_ (st_cons ?_ (st_cons ?_ (st_cons ?_ (st_cons ?_ (st_cons ?_ (st_cons ?_ st_nil)))))))))
            all_goals intro vals W hW hv; have HW := Aside.mk hW; clear hW; try simp only [Act.put, List.setIfInBounds_toArray, List.set_cons_zero, List.set_cons_succ]
            · have c0 := (HW.out.cell (p := ⟨d11, 0, none⟩) x_lt (ne2 x_n1 x_n2)).trans x_0
              have c1 := (HW.out.cell (p := ⟨d11, 1, none⟩) x_lt (ne2 x_n1 x_n2)).trans x_1
              clear hv
              go_wp2_with fail
              exact ⟨rfl, _, rfl, grown_refl _ _, rfl⟩
            · have c0 := (HW.out.cell (p := ⟨d10, 0, none⟩) b_lt (ne2 b_n1 b_n2)).trans b_0
              have c1 := (HW.out.cell (p := ⟨d10, 1, none⟩) b_lt (ne2 b_n1 b_n2)).trans b_1
              clear hv
              go_wp2_with fail
              exact ⟨rfl, _, rfl, grown_refl _ _, rfl⟩
            · have e0 : vals 0 = cv cx := hv ⟨0, .data⟩ (by simp) rfl
              have e1 : vals 1 = cv cb := hv ⟨1, .data⟩ (by simp) rfl
              simp only [e0, e1]
              clear hv
              go_wp2_with fail
              exact ⟨rfl, _, rfl, World.grownBy_alloc _ _ _, W.heap.size, rfl, Nat.le_trans hzz HW.out.size, by simp, isC2 (by go_simp) (by go_simp) (by go_simp) (by go_simp)⟩
            · obtain ⟨b, e, hb1, hb2, hC⟩ : ∃ b, vals 2 = .slice (some ⟨b, 0, none⟩) 2 2 ∧ w1.heap.size ≤ b ∧ b < W.heap.size ∧ IsC W (some ⟨b, 0, none⟩) 2 [cx, cb] := hv ⟨2, .data⟩ (by simp) rfl
              have HC := Aside.mk hC
              simp only [e]
              clear hv hC
              go_wp2_with fail
              refine (joined_c [cx, cb] (ok2 OK.out.2.2.1 OK.out.2.1) _ _ _ W HC.out).mono ?_
              rintro e w' ⟨rfl, hb⟩
              go_wp2_with fail
              exact ⟨rfl, _, rfl, grown_below hb _, rfl⟩
            · have c0 := (HW.out.cell (p := ⟨d9, 0, none⟩) a_lt (ne2 a_n1 a_n2)).trans a_0
              have c1 := (HW.out.cell (p := ⟨d9, 1, none⟩) a_lt (ne2 a_n1 a_n2)).trans a_1
              clear hv
              go_wp2_with fail
              exact ⟨rfl, _, rfl, grown_refl _ _, rfl⟩
            · have c0 := (HW.out.cell (p := ⟨d12, 0, none⟩) y_lt (ne2 y_n1 y_n2)).trans y_0
              have c1 := (HW.out.cell (p := ⟨d12, 1, none⟩) y_lt (ne2 y_n1 y_n2)).trans y_1
              clear hv
              go_wp2_with fail
              exact ⟨rfl, _, rfl, grown_refl _ _, rfl⟩
            · have e4 : vals 4 = cv ca := hv ⟨4, .data⟩ (by simp) rfl
              have e5 : vals 5 = cv cy := hv ⟨5, .data⟩ (by simp) rfl
              simp only [e4, e5]
              clear hv
              go_wp2_with fail
              exact ⟨rfl, _, rfl, World.grownBy_alloc _ _ _, W.heap.size, rfl, Nat.le_trans hzz HW.out.size, by simp, isC2 (by go_simp) (by go_simp) (by go_simp) (by go_simp)⟩
            · obtain ⟨b, e, hb1, hb2, hC⟩ : ∃ b, vals 6 = .slice (some ⟨b, 0, none⟩) 2 2 ∧ w1.heap.size ≤ b ∧ b < W.heap.size ∧ IsC W (some ⟨b, 0, none⟩) 2 [ca, cy] := hv ⟨6, .data⟩ (by simp) rfl
              have HC := Aside.mk hC
              simp only [e]
              clear hv hC
              go_wp2_with fail
              refine (joined_c [ca, cy] (ok2 OK.out.1 OK.out.2.2.2) _ _ _ W HC.out).mono ?_
              rintro e w' ⟨rfl, hb⟩
              go_wp2_with fail
              exact ⟨rfl, _, rfl, grown_below hb _, rfl⟩
            · have e : vals 3 = cv (jn [cx, cb]) := hv ⟨3, .data⟩ (by simp) rfl
              have c0 := (HW.out.cell (p := ⟨w.heap.size + 1, 0, none⟩) r_lt r_no).trans r_0
              have c1 := (HW.out.cell (p := ⟨w.heap.size + 1, 1, none⟩) r_lt r_no).trans r_1
              have g0 := (HW.out.frozen (p := ⟨w.heap.size + 1, 0, none⟩) r_lt r_no).trans r_f0
              have g1 := (HW.out.frozen (p := ⟨w.heap.size + 1, 1, none⟩) r_lt r_no).trans r_f1
              have hlt := Nat.lt_of_lt_of_le r_lt HW.out.size
              simp only [e]
              clear hv
              go_wp2_with fail
              exact ⟨rfl, undef, rfl, grown_set2 _ _ _ _, by go_simp, by go_simp⟩
            · have e : vals 7 = cv (jn [ca, cy]) := hv ⟨7, .data⟩ (by simp) rfl
              have c0 := (HW.out.cell (p := ⟨w.heap.size + 1 + 1, 0, none⟩) s_lt s_no).trans s_0
              have c1 := (HW.out.cell (p := ⟨w.heap.size + 1 + 1, 1, none⟩) s_lt s_no).trans s_1
              have g0 := (HW.out.frozen (p := ⟨w.heap.size + 1 + 1, 0, none⟩) s_lt s_no).trans s_f0
              have g1 := (HW.out.frozen (p := ⟨w.heap.size + 1 + 1, 1, none⟩) s_lt s_no).trans s_f1
              have hlt := Nat.lt_of_lt_of_le s_lt HW.out.size
              simp only [e]
              clear hv
              go_wp2_with fail
              exact ⟨rfl, undef, rfl, grown_set2 _ _ _ _, by go_simp, by go_simp⟩
          · intro vals W hW hv
            obtain ⟨a0, a1⟩ : W.cell? ⟨w.heap.size + 1, 0, none⟩ = some (.int .i64 (jn [cx, cb]).1) ∧ W.cell? ⟨w.heap.size + 1, 1, none⟩ = some (.int .i64 (jn [cx, cb]).2) := hv 8 (by omega)
            obtain ⟨b0, b1⟩ : W.cell? ⟨w.heap.size + 1 + 1, 0, none⟩ = some (.int .i64 (jn [ca, cy]).1) ∧ W.cell? ⟨w.heap.size + 1 + 1, 1, none⟩ = some (.int .i64 (jn [ca, cy]).2) := hv 9 (by omega)
            have HB2 := Aside.mk (hW.below HBW.out (fun k hk => by simp at hk; omega) (by omega))
            have HE2 : Aside (R = ((jn [cx, cb]), (jn [ca, cy]))) := ⟨HE.out.trans (by simp [cntOp])⟩
            clear hv hW
            simp only [List.take_succ_cons, List.take_zero, List.drop_succ_cons, List.drop_zero, lexL, Act.put, List.setIfInBounds_toArray, List.set_cons_zero, List.set_cons_succ]
            go_wp2_with fail
            refine bodyPost_ret (v := .tuple #[cv (jn [cx, cb]), cv (jn [ca, cy])]) (by simp [results, Tryz.results146, go_sem, a0, a1, b0, b1]) rfl ?_
            exact ⟨by rw [HE2.out], HB2.out⟩
        · go_wp2_with fail
          refine wp_region_st 22 [(20, w.heap.size + 1), (21, w.heap.size + 1 + 1)] (by kernel_rfl) (by kernel_rfl) [fun v _ => v = cv ca, fun v _ => v = cv cb, fun v W => ∃ b, v = .slice (some ⟨b, 0, none⟩) 2 2 ∧ w1.heap.size ≤ b ∧ b < W.heap.size ∧ IsC W (some ⟨b, 0, none⟩) 2 [ca, cb], fun v _ => v = cv (jn [ca, cb]), fun v _ => v = cv cx, fun v _ => v = cv cy, fun v W => ∃ b, v = .slice (some ⟨b, 0, none⟩) 2 2 ∧ w1.heap.size ≤ b ∧ b < W.heap.size ∧ IsC W (some ⟨b, 0, none⟩) 2 [cx, cy], fun v _ => v = cv (jn [cx, cy]), fun v W => ∃ b, v = .slice (some ⟨b, 0, none⟩) 2 2 ∧ w1.heap.size ≤ b ∧ b < W.heap.size ∧ IsC W (some ⟨b, 0, none⟩) 2 [(jn [ca, cb]), (jn [cx, cy])], fun v _ => v = cv (jn [(jn [ca, cb]), (jn [cx, cy])]), fun v _ => v = cv ca, fun v _ => v = cv cy, fun v W => ∃ b, v = .slice (some ⟨b, 0, none⟩) 2 2 ∧ w1.heap.size ≤ b ∧ b < W.heap.size ∧ IsC W (some ⟨b, 0, none⟩) 2 [ca, cy], fun v _ => v = cv (jn [ca, cy]), fun v _ => v = cv cx, fun v _ => v = cv cb, fun v W => ∃ b, v = .slice (some ⟨b, 0, none⟩) 2 2 ∧ w1.heap.size ≤ b ∧ b < W.heap.size ∧ IsC W (some ⟨b, 0, none⟩) 2 [cx, cb], fun v _ => v = cv (jn [cx, cb]), fun v W => ∃ b, v = .slice (some ⟨b, 0, none⟩) 2 2 ∧ w1.heap.size ≤ b ∧ b < W.heap.size ∧ IsC W (some ⟨b, 0, none⟩) 2 [(jn [ca, cy]), (jn [cx, cb])], fun v _ => v = cv (jn [(jn [ca, cy]), (jn [cx, cb])]), fun _ W => W.cell? ⟨w.heap.size + 1, 0, none⟩ = some (.int .i64 (jn [(jn [ca, cb]), (jn [cx, cy])]).1) ∧ W.cell? ⟨w.heap.size + 1, 1, none⟩ = some (.int .i64 (jn [(jn [ca, cb]), (jn [cx, cy])]).2), fun _ W => W.cell? ⟨w.heap.size + 1 + 1, 0, none⟩ = some (.int .i64 (jn [(jn [ca, cy]), (jn [cx, cb])]).1) ∧ W.cell? ⟨w.heap.size + 1 + 1, 1, none⟩ = some (.int .i64 (jn [(jn [ca, cy]), (jn [cx, cb])]).2)]
            ⟨stabAt_eq _ _ _, stabAt_eq _ _ _, stab_build _ _ _ _ _ (lt2 hsz1 hsz2), stabAt_eq _ _ _, stabAt_eq _ _ _, stabAt_eq _ _ _, stab_build _ _ _ _ _ (lt2 hsz1 hsz2), stabAt_eq _ _ _, stab_build _ _ _ _ _ (lt2 hsz1 hsz2), stabAt_eq _ _ _, stabAt_eq _ _ _, stabAt_eq _ _ _, stab_build _ _ _ _ _ (lt2 hsz1 hsz2), stabAt_eq _ _ _, stabAt_eq _ _ _, stabAt_eq _ _ _, stab_build _ _ _ _ _ (lt2 hsz1 hsz2), stabAt_eq _ _ _, stab_build _ _ _ _ _ (lt2 hsz1 hsz2), stabAt_eq _ _ _, stab_store _ _ _ (jn [(jn [ca, cb]), (jn [cx, cy])]) (fun hb => by have := List.eq_of_mem_singleton hb; omega), stab_store _ _ _ (jn [(jn [ca, cy]), (jn [cx, cb])]) (fun hb => by have := List.eq_of_mem_singleton hb; omega), trivial⟩ ?_ ?_
          · simp only [List.take_succ_cons, List.take_zero]
            refine st_cons ?_ (st_cons ?_ (st_cons ?_ (st_cons ?_ (st_cons ?_ (st_cons ?_ (st_cons ?_ (st_cons ?_ (st_cons ?_ (st_cons ?_ (st_cons ?_ (st_cons ?_ (st_cons ?_ (st_cons ?_ (st_cons ?_ (st_cons ?_ (st_cons ?_ (st_cons ?_ (st_cons ?_ (st_cons ?_ (st_cons ?_ (st_cons ?_ st_nil)))))))))))))))))))))
            all_goals intro vals W hW hv; have HW := Aside.mk hW; clear hW; try simp only [Act.put, List.setIfInBounds_toArray, List.set_cons_zero, List.set_cons_succ]
            · have c0 := (HW.out.cell (p := ⟨d9, 0, none⟩) a_lt (ne2 a_n1 a_n2)).trans a_0
              have c1 := (HW.out.cell (p := ⟨d9, 1, none⟩) a_lt (ne2 a_n1 a_n2)).trans a_1
              clear hv
              go_wp2_with fail
              exact ⟨rfl, _, rfl, grown_refl _ _, rfl⟩
            · have c0 := (HW.out.cell (p := ⟨d10, 0, none⟩) b_lt (ne2 b_n1 b_n2)).trans b_0
              have c1 := (HW.out.cell (p := ⟨d10, 1, none⟩) b_lt (ne2 b_n1 b_n2)).trans b_1
              clear hv
              go_wp2_with fail
              exact ⟨rfl, _, rfl, grown_refl _ _, rfl⟩
            · have e0 : vals 0 = cv ca := hv ⟨0, .data⟩ (by simp) rfl
              have e1 : vals 1 = cv cb := hv ⟨1, .data⟩ (by simp) rfl
              simp only [e0, e1]
              clear hv
              go_wp2_with fail
              exact ⟨rfl, _, rfl, World.grownBy_alloc _ _ _, W.heap.size, rfl, Nat.le_trans hzz HW.out.size, by simp, isC2 (by go_simp) (by go_simp) (by go_simp) (by go_simp)⟩
            · obtain ⟨b, e, hb1, hb2, hC⟩ : ∃ b, vals 2 = .slice (some ⟨b, 0, none⟩) 2 2 ∧ w1.heap.size ≤ b ∧ b < W.heap.size ∧ IsC W (some ⟨b, 0, none⟩) 2 [ca, cb] := hv ⟨2, .data⟩ (by simp) rfl
              have HC := Aside.mk hC
              simp only [e]
              clear hv hC
              go_wp2_with fail
              refine (joined_c [ca, cb] (ok2 OK.out.1 OK.out.2.1) _ _ _ W HC.out).mono ?_
              rintro e w' ⟨rfl, hb⟩
              go_wp2_with fail
              exact ⟨rfl, _, rfl, grown_below hb _, rfl⟩
            · have c0 := (HW.out.cell (p := ⟨d11, 0, none⟩) x_lt (ne2 x_n1 x_n2)).trans x_0
              have c1 := (HW.out.cell (p := ⟨d11, 1, none⟩) x_lt (ne2 x_n1 x_n2)).trans x_1
              clear hv
              go_wp2_with fail
              exact ⟨rfl, _, rfl, grown_refl _ _, rfl⟩
            · have c0 := (HW.out.cell (p := ⟨d12, 0, none⟩) y_lt (ne2 y_n1 y_n2)).trans y_0
              have c1 := (HW.out.cell (p := ⟨d12, 1, none⟩) y_lt (ne2 y_n1 y_n2)).trans y_1
              clear hv
              go_wp2_with fail
              exact ⟨rfl, _, rfl, grown_refl _ _, rfl⟩
            · have e4 : vals 4 = cv cx := hv ⟨4, .data⟩ (by simp) rfl
              have e5 : vals 5 = cv cy := hv ⟨5, .data⟩ (by simp) rfl
              simp only [e4, e5]
              clear hv
              go_wp2_with fail
              exact ⟨rfl, _, rfl, World.grownBy_alloc _ _ _, W.heap.size, rfl, Nat.le_trans hzz HW.out.size, by simp, isC2 (by go_simp) (by go_simp) (by go_simp) (by go_simp)⟩
            · obtain ⟨b, e, hb1, hb2, hC⟩ : ∃ b, vals 6 = .slice (some ⟨b, 0, none⟩) 2 2 ∧ w1.heap.size ≤ b ∧ b < W.heap.size ∧ IsC W (some ⟨b, 0, none⟩) 2 [cx, cy] := hv ⟨6, .data⟩ (by simp) rfl
              have HC := Aside.mk hC
              simp only [e]
              clear hv hC
              go_wp2_with fail
              refine (joined_c [cx, cy] (ok2 OK.out.2.2.1 OK.out.2.2.2) _ _ _ W HC.out).mono ?_
              rintro e w' ⟨rfl, hb⟩
              go_wp2_with fail
              exact ⟨rfl, _, rfl, grown_below hb _, rfl⟩
            · have e3 : vals 3 = cv (jn [ca, cb]) := hv ⟨3, .data⟩ (by simp) rfl
              have e7 : vals 7 = cv (jn [cx, cy]) := hv ⟨7, .data⟩ (by simp) rfl
              simp only [e3, e7]
              clear hv
              go_wp2_with fail
              exact ⟨rfl, _, rfl, World.grownBy_alloc _ _ _, W.heap.size, rfl, Nat.le_trans hzz HW.out.size, by simp, isC2 (by go_simp) (by go_simp) (by go_simp) (by go_simp)⟩
            · obtain ⟨b, e, hb1, hb2, hC⟩ : ∃ b, vals 8 = .slice (some ⟨b, 0, none⟩) 2 2 ∧ w1.heap.size ≤ b ∧ b < W.heap.size ∧ IsC W (some ⟨b, 0, none⟩) 2 [(jn [ca, cb]), (jn [cx, cy])] := hv ⟨8, .data⟩ (by simp) rfl
              have HC := Aside.mk hC
              simp only [e]
              clear hv hC
              go_wp2_with fail
              refine (joined_c [(jn [ca, cb]), (jn [cx, cy])] (ok2 (jn_ok (ok2 OK.out.1 OK.out.2.1)) (jn_ok (ok2 OK.out.2.2.1 OK.out.2.2.2))) _ _ _ W HC.out).mono ?_
              rintro e w' ⟨rfl, hb⟩
              go_wp2_with fail
              exact ⟨rfl, _, rfl, grown_below hb _, rfl⟩
            · have c0 := (HW.out.cell (p := ⟨d9, 0, none⟩) a_lt (ne2 a_n1 a_n2)).trans a_0
              have c1 := (HW.out.cell (p := ⟨d9, 1, none⟩) a_lt (ne2 a_n1 a_n2)).trans a_1
              clear hv
              go_wp2_with fail
              exact ⟨rfl, _, rfl, grown_refl _ _, rfl⟩
            · have c0 := (HW.out.cell (p := ⟨d12, 0, none⟩) y_lt (ne2 y_n1 y_n2)).trans y_0
              have c1 := (HW.out.cell (p := ⟨d12, 1, none⟩) y_lt (ne2 y_n1 y_n2)).trans y_1
              clear hv
              go_wp2_with fail
              exact ⟨rfl, _, rfl, grown_refl _ _, rfl⟩
            · have e10 : vals 10 = cv ca := hv ⟨10, .data⟩ (by simp) rfl
              have e11 : vals 11 = cv cy := hv ⟨11, .data⟩ (by simp) rfl
              simp only [e10, e11]
              clear hv
              go_wp2_with fail
              exact ⟨rfl, _, rfl, World.grownBy_alloc _ _ _, W.heap.size, rfl, Nat.le_trans hzz HW.out.size, by simp, isC2 (by go_simp) (by go_simp) (by go_simp) (by go_simp)⟩
            · obtain ⟨b, e, hb1, hb2, hC⟩ : ∃ b, vals 12 = .slice (some ⟨b, 0, none⟩) 2 2 ∧ w1.heap.size ≤ b ∧ b < W.heap.size ∧ IsC W (some ⟨b, 0, none⟩) 2 [ca, cy] := hv ⟨12, .data⟩ (by simp) rfl
              have HC := Aside.mk hC
              simp only [e]
              clear hv hC
              go_wp2_with fail
              refine (joined_c [ca, cy] (ok2 OK.out.1 OK.out.2.2.2) _ _ _ W HC.out).mono ?_
              rintro e w' ⟨rfl, hb⟩
              go_wp2_with fail
              exact ⟨rfl, _, rfl, grown_below hb _, rfl⟩
            · have c0 := (HW.out.cell (p := ⟨d11, 0, none⟩) x_lt (ne2 x_n1 x_n2)).trans x_0
              have c1 := (HW.out.cell (p := ⟨d11, 1, none⟩) x_lt (ne2 x_n1 x_n2)).trans x_1
              clear hv
              go_wp2_with fail
              exact ⟨rfl, _, rfl, grown_refl _ _, rfl⟩
            · have c0 := (HW.out.cell (p := ⟨d10, 0, none⟩) b_lt (ne2 b_n1 b_n2)).trans b_0
              have c1 := (HW.out.cell (p := ⟨d10, 1, none⟩) b_lt (ne2 b_n1 b_n2)).trans b_1
              clear hv
              go_wp2_with fail
              exact ⟨rfl, _, rfl, grown_refl _ _, rfl⟩
            · have e14 : vals 14 = cv cx := hv ⟨14, .data⟩ (by simp) rfl
              have e15 : vals 15 = cv cb := hv ⟨15, .data⟩ (by simp) rfl
              simp only [e14, e15]
              clear hv
              go_wp2_with fail
              exact ⟨rfl, _, rfl, World.grownBy_alloc _ _ _, W.heap.size, rfl, Nat.le_trans hzz HW.out.size, by simp, isC2 (by go_simp) (by go_simp) (by go_simp) (by go_simp)⟩
            · obtain ⟨b, e, hb1, hb2, hC⟩ : ∃ b, vals 16 = .slice (some ⟨b, 0, none⟩) 2 2 ∧ w1.heap.size ≤ b ∧ b < W.heap.size ∧ IsC W (some ⟨b, 0, none⟩) 2 [cx, cb] := hv ⟨16, .data⟩ (by simp) rfl
              have HC := Aside.mk hC
              simp only [e]
              clear hv hC
              go_wp2_with fail
              refine (joined_c [cx, cb] (ok2 OK.out.2.2.1 OK.out.2.1) _ _ _ W HC.out).mono ?_
              rintro e w' ⟨rfl, hb⟩
              go_wp2_with fail
              exact ⟨rfl, _, rfl, grown_below hb _, rfl⟩
            · have e13 : vals 13 = cv (jn [ca, cy]) := hv ⟨13, .data⟩ (by simp) rfl
              have e17 : vals 17 = cv (jn [cx, cb]) := hv ⟨17, .data⟩ (by simp) rfl
              simp only [e13, e17]
              clear hv
              go_wp2_with fail
              exact ⟨rfl, _, rfl, World.grownBy_alloc _ _ _, W.heap.size, rfl, Nat.le_trans hzz HW.out.size, by simp, isC2 (by go_simp) (by go_simp) (by go_simp) (by go_simp)⟩
            · obtain ⟨b, e, hb1, hb2, hC⟩ : ∃ b, vals 18 = .slice (some ⟨b, 0, none⟩) 2 2 ∧ w1.heap.size ≤ b ∧ b < W.heap.size ∧ IsC W (some ⟨b, 0, none⟩) 2 [(jn [ca, cy]), (jn [cx, cb])] := hv ⟨18, .data⟩ (by simp) rfl
              have HC := Aside.mk hC
              simp only [e]
              clear hv hC
              go_wp2_with fail
              refine (joined_c [(jn [ca, cy]), (jn [cx, cb])] (ok2 (jn_ok (ok2 OK.out.1 OK.out.2.2.2)) (jn_ok (ok2 OK.out.2.2.1 OK.out.2.1))) _ _ _ W HC.out).mono ?_
              rintro e w' ⟨rfl, hb⟩
              go_wp2_with fail
              exact ⟨rfl, _, rfl, grown_below hb _, rfl⟩
            · have e : vals 9 = cv (jn [(jn [ca, cb]), (jn [cx, cy])]) := hv ⟨9, .data⟩ (by simp) rfl
              have c0 := (HW.out.cell (p := ⟨w.heap.size + 1, 0, none⟩) r_lt r_no).trans r_0
              have c1 := (HW.out.cell (p := ⟨w.heap.size + 1, 1, none⟩) r_lt r_no).trans r_1
              have g0 := (HW.out.frozen (p := ⟨w.heap.size + 1, 0, none⟩) r_lt r_no).trans r_f0
              have g1 := (HW.out.frozen (p := ⟨w.heap.size + 1, 1, none⟩) r_lt r_no).trans r_f1
              have hlt := Nat.lt_of_lt_of_le r_lt HW.out.size
              simp only [e]
              clear hv
              go_wp2_with fail
              exact ⟨rfl, undef, rfl, grown_set2 _ _ _ _, by go_simp, by go_simp⟩
            · have e : vals 19 = cv (jn [(jn [ca, cy]), (jn [cx, cb])]) := hv ⟨19, .data⟩ (by simp) rfl
              have c0 := (HW.out.cell (p := ⟨w.heap.size + 1 + 1, 0, none⟩) s_lt s_no).trans s_0
              have c1 := (HW.out.cell (p := ⟨w.heap.size + 1 + 1, 1, none⟩) s_lt s_no).trans s_1
              have g0 := (HW.out.frozen (p := ⟨w.heap.size + 1 + 1, 0, none⟩) s_lt s_no).trans s_f0
              have g1 := (HW.out.frozen (p := ⟨w.heap.size + 1 + 1, 1, none⟩) s_lt s_no).trans s_f1
              have hlt := Nat.lt_of_lt_of_le s_lt HW.out.size
              simp only [e]
              clear hv
              go_wp2_with fail
              exact ⟨rfl, undef, rfl, grown_set2 _ _ _ _, by go_simp, by go_simp⟩
          · intro vals W hW hv
            obtain ⟨a0, a1⟩ : W.cell? ⟨w.heap.size + 1, 0, none⟩ = some (.int .i64 (jn [(jn [ca, cb]), (jn [cx, cy])]).1) ∧ W.cell? ⟨w.heap.size + 1, 1, none⟩ = some (.int .i64 (jn [(jn [ca, cb]), (jn [cx, cy])]).2) := hv 20 (by omega)
            obtain ⟨b0, b1⟩ : W.cell? ⟨w.heap.size + 1 + 1, 0, none⟩ = some (.int .i64 (jn [(jn [ca, cy]), (jn [cx, cb])]).1) ∧ W.cell? ⟨w.heap.size + 1 + 1, 1, none⟩ = some (.int .i64 (jn [(jn [ca, cy]), (jn [cx, cb])]).2) := hv 21 (by omega)
            have HB2 := Aside.mk (hW.below HBW.out (fun k hk => by simp at hk; omega) (by omega))
            have HE2 : Aside (R = ((jn [(jn [ca, cb]), (jn [cx, cy])]), (jn [(jn [ca, cy]), (jn [cx, cb])]))) := ⟨HE.out.trans (by simp [cntOp])⟩
            clear hv hW
            simp only [List.take_succ_cons, List.take_zero, List.drop_succ_cons, List.drop_zero, lexL, Act.put, List.setIfInBounds_toArray, List.set_cons_zero, List.set_cons_succ]
            go_wp2_with fail
            refine bodyPost_ret (v := .tuple #[cv (jn [(jn [ca, cb]), (jn [cx, cy])]), cv (jn [(jn [ca, cy]), (jn [cx, cb])])]) (by simp [results, Tryz.results146, go_sem, a0, a1, b0, b1]) rfl ?_
            exact ⟨by rw [HE2.out], HB2.out⟩
        · go_wp2_with fail
          refine wp_region_st 8 [(6, w.heap.size + 1), (7, w.heap.size + 1 + 1)] (by kernel_rfl) (by kernel_rfl) [fun v _ => v = cv ca, fun v W => ∃ b, v = .slice (some ⟨b, 0, none⟩) 1 1 ∧ w1.heap.size ≤ b ∧ b < W.heap.size ∧ IsC W (some ⟨b, 0, none⟩) 1 [ca], fun v _ => v = cv (jn [ca]), fun v _ => v = cv cx, fun v W => ∃ b, v = .slice (some ⟨b, 0, none⟩) 1 1 ∧ w1.heap.size ≤ b ∧ b < W.heap.size ∧ IsC W (some ⟨b, 0, none⟩) 1 [cx], fun v _ => v = cv (jn [cx]), fun _ W => W.cell? ⟨w.heap.size + 1, 0, none⟩ = some (.int .i64 (jn [ca]).1) ∧ W.cell? ⟨w.heap.size + 1, 1, none⟩ = some (.int .i64 (jn [ca]).2), fun _ W => W.cell? ⟨w.heap.size + 1 + 1, 0, none⟩ = some (.int .i64 (jn [cx]).1) ∧ W.cell? ⟨w.heap.size + 1 + 1, 1, none⟩ = some (.int .i64 (jn [cx]).2)]
            ⟨stabAt_eq _ _ _, stab_build _ _ _ _ _ (lt2 hsz1 hsz2), stabAt_eq _ _ _, stabAt_eq _ _ _, stab_build _ _ _ _ _ (lt2 hsz1 hsz2), stabAt_eq _ _ _, stab_store _ _ _ (jn [ca]) (fun hb => by have := List.eq_of_mem_singleton hb; omega), stab_store _ _ _ (jn [cx]) (fun hb => by have := List.eq_of_mem_singleton hb; omega), trivial⟩ ?_ ?_
          · simp only [List.take_succ_cons, List.take_zero]
            refine st_cons ?_ (st_cons ?_ (st_cons ?_ (st_cons ?_ (st_cons ?_ (st_cons ?_ (st_cons ?_ (st_cons ?_ st_nil)))))))
            all_goals intro vals W hW hv; have HW := Aside.mk hW; clear hW; try simp only [Act.put, List.setIfInBounds_toArray, List.set_cons_zero, List.set_cons_succ]
            · have c0 := (HW.out.cell (p := ⟨d9, 0, none⟩) a_lt (ne2 a_n1 a_n2)).trans a_0
              have c1 := (HW.out.cell (p := ⟨d9, 1, none⟩) a_lt (ne2 a_n1 a_n2)).trans a_1
              clear hv
              go_wp2_with fail
              exact ⟨rfl, _, rfl, grown_refl _ _, rfl⟩
            · have e0 : vals 0 = cv ca := hv ⟨0, .data⟩ (by simp) rfl
              simp only [e0]
              clear hv
              go_wp2_with fail
              exact ⟨rfl, _, rfl, World.grownBy_alloc _ _ _, W.heap.size, rfl, Nat.le_trans hzz HW.out.size, by simp, isC1 (by go_simp) (by go_simp)⟩
            · obtain ⟨b, e, hb1, hb2, hC⟩ : ∃ b, vals 1 = .slice (some ⟨b, 0, none⟩) 1 1 ∧ w1.heap.size ≤ b ∧ b < W.heap.size ∧ IsC W (some ⟨b, 0, none⟩) 1 [ca] := hv ⟨1, .data⟩ (by simp) rfl
              have HC := Aside.mk hC
              simp only [e]
              clear hv hC
              go_wp2_with fail
              refine (joined_c [ca] (ok1 OK.out.1) _ _ _ W HC.out).mono ?_
              rintro e w' ⟨rfl, hb⟩
              go_wp2_with fail
              exact ⟨rfl, _, rfl, grown_below hb _, rfl⟩
            · have c0 := (HW.out.cell (p := ⟨d11, 0, none⟩) x_lt (ne2 x_n1 x_n2)).trans x_0
              have c1 := (HW.out.cell (p := ⟨d11, 1, none⟩) x_lt (ne2 x_n1 x_n2)).trans x_1
              clear hv
              go_wp2_with fail
              exact ⟨rfl, _, rfl, grown_refl _ _, rfl⟩
            · have e3 : vals 3 = cv cx := hv ⟨3, .data⟩ (by simp) rfl
              simp only [e3]
              clear hv
              go_wp2_with fail
              exact ⟨rfl, _, rfl, World.grownBy_alloc _ _ _, W.heap.size, rfl, Nat.le_trans hzz HW.out.size, by simp, isC1 (by go_simp) (by go_simp)⟩
            · obtain ⟨b, e, hb1, hb2, hC⟩ : ∃ b, vals 4 = .slice (some ⟨b, 0, none⟩) 1 1 ∧ w1.heap.size ≤ b ∧ b < W.heap.size ∧ IsC W (some ⟨b, 0, none⟩) 1 [cx] := hv ⟨4, .data⟩ (by simp) rfl
              have HC := Aside.mk hC
              simp only [e]
              clear hv hC
              go_wp2_with fail
              refine (joined_c [cx] (ok1 OK.out.2.2.1) _ _ _ W HC.out).mono ?_
              rintro e w' ⟨rfl, hb⟩
              go_wp2_with fail
              exact ⟨rfl, _, rfl, grown_below hb _, rfl⟩
            · have e : vals 2 = cv (jn [ca]) := hv ⟨2, .data⟩ (by simp) rfl
              have c0 := (HW.out.cell (p := ⟨w.heap.size + 1, 0, none⟩) r_lt r_no).trans r_0
              have c1 := (HW.out.cell (p := ⟨w.heap.size + 1, 1, none⟩) r_lt r_no).trans r_1
              have g0 := (HW.out.frozen (p := ⟨w.heap.size + 1, 0, none⟩) r_lt r_no).trans r_f0
              have g1 := (HW.out.frozen (p := ⟨w.heap.size + 1, 1, none⟩) r_lt r_no).trans r_f1
              have hlt := Nat.lt_of_lt_of_le r_lt HW.out.size
              simp only [e]
              clear hv
              go_wp2_with fail
              exact ⟨rfl, undef, rfl, grown_set2 _ _ _ _, by go_simp, by go_simp⟩
            · have e : vals 5 = cv (jn [cx]) := hv ⟨5, .data⟩ (by simp) rfl
              have c0 := (HW.out.cell (p := ⟨w.heap.size + 1 + 1, 0, none⟩) s_lt s_no).trans s_0
              have c1 := (HW.out.cell (p := ⟨w.heap.size + 1 + 1, 1, none⟩) s_lt s_no).trans s_1
              have g0 := (HW.out.frozen (p := ⟨w.heap.size + 1 + 1, 0, none⟩) s_lt s_no).trans s_f0
              have g1 := (HW.out.frozen (p := ⟨w.heap.size + 1 + 1, 1, none⟩) s_lt s_no).trans s_f1
              have hlt := Nat.lt_of_lt_of_le s_lt HW.out.size
              simp only [e]
              clear hv
              go_wp2_with fail
              exact ⟨rfl, undef, rfl, grown_set2 _ _ _ _, by go_simp, by go_simp⟩
          · intro vals W hW hv
            obtain ⟨a0, a1⟩ : W.cell? ⟨w.heap.size + 1, 0, none⟩ = some (.int .i64 (jn [ca]).1) ∧ W.cell? ⟨w.heap.size + 1, 1, none⟩ = some (.int .i64 (jn [ca]).2) := hv 6 (by omega)
            obtain ⟨b0, b1⟩ : W.cell? ⟨w.heap.size + 1 + 1, 0, none⟩ = some (.int .i64 (jn [cx]).1) ∧ W.cell? ⟨w.heap.size + 1 + 1, 1, none⟩ = some (.int .i64 (jn [cx]).2) := hv 7 (by omega)
            have HB2 := Aside.mk (hW.below HBW.out (fun k hk => by simp at hk; omega) (by omega))
            have HE2 : Aside (R = ((jn [ca]), (jn [cx]))) := ⟨HE.out.trans (by simp [cntOp])⟩
            clear hv hW
            simp only [List.take_succ_cons, List.take_zero, List.drop_succ_cons, List.drop_zero, lexL, Act.put, List.setIfInBounds_toArray, List.set_cons_zero, List.set_cons_succ]
            go_wp2_with fail
            refine bodyPost_ret (v := .tuple #[cv (jn [ca]), cv (jn [cx])]) (by simp [results, Tryz.results146, go_sem, a0, a1, b0, b1]) rfl ?_
            exact ⟨by rw [HE2.out], HB2.out⟩
        · go_wp2_with fail
          refine wp_region_st 10 [(8, w.heap.size + 1), (9, w.heap.size + 1 + 1)] (by kernel_rfl) (by kernel_rfl) [fun v _ => v = cv oneC, fun v _ => v = cv ca, fun v W => ∃ b, v = .slice (some ⟨b, 0, none⟩) 2 2 ∧ w1.heap.size ≤ b ∧ b < W.heap.size ∧ IsC W (some ⟨b, 0, none⟩) 2 [oneC, ca], fun v _ => v = cv (jn [oneC, ca]), fun v _ => v = cv oneC, fun v _ => v = cv cx, fun v W => ∃ b, v = .slice (some ⟨b, 0, none⟩) 2 2 ∧ w1.heap.size ≤ b ∧ b < W.heap.size ∧ IsC W (some ⟨b, 0, none⟩) 2 [oneC, cx], fun v _ => v = cv (jn [oneC, cx]), fun _ W => W.cell? ⟨w.heap.size + 1, 0, none⟩ = some (.int .i64 (jn [oneC, ca]).1) ∧ W.cell? ⟨w.heap.size + 1, 1, none⟩ = some (.int .i64 (jn [oneC, ca]).2), fun _ W => W.cell? ⟨w.heap.size + 1 + 1, 0, none⟩ = some (.int .i64 (jn [oneC, cx]).1) ∧ W.cell? ⟨w.heap.size + 1 + 1, 1, none⟩ = some (.int .i64 (jn [oneC, cx]).2)]
            ⟨stabAt_eq _ _ _, stabAt_eq _ _ _, stab_build _ _ _ _ _ (lt2 hsz1 hsz2), stabAt_eq _ _ _, stabAt_eq _ _ _, stabAt_eq _ _ _, stab_build _ _ _ _ _ (lt2 hsz1 hsz2), stabAt_eq _ _ _, stab_store _ _ _ (jn [oneC, ca]) (fun hb => by have := List.eq_of_mem_singleton hb; omega), stab_store _ _ _ (jn [oneC, cx]) (fun hb => by have := List.eq_of_mem_singleton hb; omega), trivial⟩ ?_ ?_
          · simp only [List.take_succ_cons, List.take_zero]
            refine st_cons ?_ (st_cons ?_ (st_cons ?_ (st_cons ?_ (st_cons ?_ (st_cons ?_ (st_cons ?_ (st_cons ?_ (st_cons ?_ (st_cons ?_ st_nil)))))))))
            all_goals intro vals W hW hv; have HW := Aside.mk hW; clear hW; try simp only [Act.put, List.setIfInBounds_toArray, List.set_cons_zero, List.set_cons_succ]
            · have c0 := (HW.out.cell (p := ⟨w1.heap.size, 0, none⟩) t_lt (ne2 t_n1 t_n2)).trans t_0
              have c1 := (HW.out.cell (p := ⟨w1.heap.size, 1, none⟩) t_lt (ne2 t_n1 t_n2)).trans t_1
              clear hv
              go_wp2_with fail
              exact ⟨rfl, _, rfl, grown_refl _ _, rfl⟩
            · have c0 := (HW.out.cell (p := ⟨d9, 0, none⟩) a_lt (ne2 a_n1 a_n2)).trans a_0
              have c1 := (HW.out.cell (p := ⟨d9, 1, none⟩) a_lt (ne2 a_n1 a_n2)).trans a_1
              clear hv
              go_wp2_with fail
              exact ⟨rfl, _, rfl, grown_refl _ _, rfl⟩
            · have e0 : vals 0 = cv oneC := hv ⟨0, .data⟩ (by simp) rfl
              have e1 : vals 1 = cv ca := hv ⟨1, .data⟩ (by simp) rfl
              simp only [e0, e1]
              clear hv
              go_wp2_with fail
              exact ⟨rfl, _, rfl, World.grownBy_alloc _ _ _, W.heap.size, rfl, Nat.le_trans hzz HW.out.size, by simp, isC2 (by go_simp) (by go_simp) (by go_simp) (by go_simp)⟩
            · obtain ⟨b, e, hb1, hb2, hC⟩ : ∃ b, vals 2 = .slice (some ⟨b, 0, none⟩) 2 2 ∧ w1.heap.size ≤ b ∧ b < W.heap.size ∧ IsC W (some ⟨b, 0, none⟩) 2 [oneC, ca] := hv ⟨2, .data⟩ (by simp) rfl
              have HC := Aside.mk hC
              simp only [e]
              clear hv hC
              go_wp2_with fail
              refine (joined_c [oneC, ca] (ok2 one_ok OK.out.1) _ _ _ W HC.out).mono ?_
              rintro e w' ⟨rfl, hb⟩
              go_wp2_with fail
              exact ⟨rfl, _, rfl, grown_below hb _, rfl⟩
            · have c0 := (HW.out.cell (p := ⟨w1.heap.size, 0, none⟩) t_lt (ne2 t_n1 t_n2)).trans t_0
              have c1 := (HW.out.cell (p := ⟨w1.heap.size, 1, none⟩) t_lt (ne2 t_n1 t_n2)).trans t_1
              clear hv
              go_wp2_with fail
              exact ⟨rfl, _, rfl, grown_refl _ _, rfl⟩
            · have c0 := (HW.out.cell (p := ⟨d11, 0, none⟩) x_lt (ne2 x_n1 x_n2)).trans x_0
              have c1 := (HW.out.cell (p := ⟨d11, 1, none⟩) x_lt (ne2 x_n1 x_n2)).trans x_1
              clear hv
              go_wp2_with fail
              exact ⟨rfl, _, rfl, grown_refl _ _, rfl⟩
            · have e4 : vals 4 = cv oneC := hv ⟨4, .data⟩ (by simp) rfl
              have e5 : vals 5 = cv cx := hv ⟨5, .data⟩ (by simp) rfl
              simp only [e4, e5]
              clear hv
              go_wp2_with fail
              exact ⟨rfl, _, rfl, World.grownBy_alloc _ _ _, W.heap.size, rfl, Nat.le_trans hzz HW.out.size, by simp, isC2 (by go_simp) (by go_simp) (by go_simp) (by go_simp)⟩
            · obtain ⟨b, e, hb1, hb2, hC⟩ : ∃ b, vals 6 = .slice (some ⟨b, 0, none⟩) 2 2 ∧ w1.heap.size ≤ b ∧ b < W.heap.size ∧ IsC W (some ⟨b, 0, none⟩) 2 [oneC, cx] := hv ⟨6, .data⟩ (by simp) rfl
              have HC := Aside.mk hC
              simp only [e]
              clear hv hC
              go_wp2_with fail
              refine (joined_c [oneC, cx] (ok2 one_ok OK.out.2.2.1) _ _ _ W HC.out).mono ?_
              rintro e w' ⟨rfl, hb⟩
              go_wp2_with fail
              exact ⟨rfl, _, rfl, grown_below hb _, rfl⟩
            · have e : vals 3 = cv (jn [oneC, ca]) := hv ⟨3, .data⟩ (by simp) rfl
              have c0 := (HW.out.cell (p := ⟨w.heap.size + 1, 0, none⟩) r_lt r_no).trans r_0
              have c1 := (HW.out.cell (p := ⟨w.heap.size + 1, 1, none⟩) r_lt r_no).trans r_1
              have g0 := (HW.out.frozen (p := ⟨w.heap.size + 1, 0, none⟩) r_lt r_no).trans r_f0
              have g1 := (HW.out.frozen (p := ⟨w.heap.size + 1, 1, none⟩) r_lt r_no).trans r_f1
              have hlt := Nat.lt_of_lt_of_le r_lt HW.out.size
              simp only [e]
              clear hv
              go_wp2_with fail
              exact ⟨rfl, undef, rfl, grown_set2 _ _ _ _, by go_simp, by go_simp⟩
            · have e : vals 7 = cv (jn [oneC, cx]) := hv ⟨7, .data⟩ (by simp) rfl
              have c0 := (HW.out.cell (p := ⟨w.heap.size + 1 + 1, 0, none⟩) s_lt s_no).trans s_0
              have c1 := (HW.out.cell (p := ⟨w.heap.size + 1 + 1, 1, none⟩) s_lt s_no).trans s_1
              have g0 := (HW.out.frozen (p := ⟨w.heap.size + 1 + 1, 0, none⟩) s_lt s_no).trans s_f0
              have g1 := (HW.out.frozen (p := ⟨w.heap.size + 1 + 1, 1, none⟩) s_lt s_no).trans s_f1
              have hlt := Nat.lt_of_lt_of_le s_lt HW.out.size
              simp only [e]
              clear hv
              go_wp2_with fail
              exact ⟨rfl, undef, rfl, grown_set2 _ _ _ _, by go_simp, by go_simp⟩
          · intro vals W hW hv
            obtain ⟨a0, a1⟩ : W.cell? ⟨w.heap.size + 1, 0, none⟩ = some (.int .i64 (jn [oneC, ca]).1) ∧ W.cell? ⟨w.heap.size + 1, 1, none⟩ = some (.int .i64 (jn [oneC, ca]).2) := hv 8 (by omega)
            obtain ⟨b0, b1⟩ : W.cell? ⟨w.heap.size + 1 + 1, 0, none⟩ = some (.int .i64 (jn [oneC, cx]).1) ∧ W.cell? ⟨w.heap.size + 1 + 1, 1, none⟩ = some (.int .i64 (jn [oneC, cx]).2) := hv 9 (by omega)
            have HB2 := Aside.mk (hW.below HBW.out (fun k hk => by simp at hk; omega) (by omega))
            have HE2 : Aside (R = ((jn [oneC, ca]), (jn [oneC, cx]))) := ⟨HE.out.trans (by simp [cntOp])⟩
            clear hv hW
            simp only [List.take_succ_cons, List.take_zero, List.drop_succ_cons, List.drop_zero, lexL, Act.put, List.setIfInBounds_toArray, List.set_cons_zero, List.set_cons_succ]
            go_wp2_with fail
            refine bodyPost_ret (v := .tuple #[cv (jn [oneC, ca]), cv (jn [oneC, cx])]) (by simp [results, Tryz.results146, go_sem, a0, a1, b0, b1]) rfl ?_
            exact ⟨by rw [HE2.out], HB2.out⟩
        · go_wp2_with fail
          refine wp_region_st 10 [(8, w.heap.size + 1), (9, w.heap.size + 1 + 1)] (by kernel_rfl) (by kernel_rfl) [fun v _ => v = cv oneC, fun v _ => v = cv ca, fun v W => ∃ b, v = .slice (some ⟨b, 0, none⟩) 2 2 ∧ w1.heap.size ≤ b ∧ b < W.heap.size ∧ IsC W (some ⟨b, 0, none⟩) 2 [oneC, ca], fun v _ => v = cv (jn [oneC, ca]), fun v _ => v = cv oneC, fun v _ => v = cv cx, fun v W => ∃ b, v = .slice (some ⟨b, 0, none⟩) 2 2 ∧ w1.heap.size ≤ b ∧ b < W.heap.size ∧ IsC W (some ⟨b, 0, none⟩) 2 [oneC, cx], fun v _ => v = cv (jn [oneC, cx]), fun _ W => W.cell? ⟨w.heap.size + 1, 0, none⟩ = some (.int .i64 (jn [oneC, ca]).1) ∧ W.cell? ⟨w.heap.size + 1, 1, none⟩ = some (.int .i64 (jn [oneC, ca]).2), fun _ W => W.cell? ⟨w.heap.size + 1 + 1, 0, none⟩ = some (.int .i64 (jn [oneC, cx]).1) ∧ W.cell? ⟨w.heap.size + 1 + 1, 1, none⟩ = some (.int .i64 (jn [oneC, cx]).2)]
            ⟨stabAt_eq _ _ _, stabAt_eq _ _ _, stab_build _ _ _ _ _ (lt2 hsz1 hsz2), stabAt_eq _ _ _, stabAt_eq _ _ _, stabAt_eq _ _ _, stab_build _ _ _ _ _ (lt2 hsz1 hsz2), stabAt_eq _ _ _, stab_store _ _ _ (jn [oneC, ca]) (fun hb => by have := List.eq_of_mem_singleton hb; omega), stab_store _ _ _ (jn [oneC, cx]) (fun hb => by have := List.eq_of_mem_singleton hb; omega), trivial⟩ ?_ ?_
          · simp only [List.take_succ_cons, List.take_zero]
            refine st_cons ?_ (st_cons ?_ (st_cons ?_ (st_cons ?_ (st_cons ?_ (st_cons ?_ (st_cons ?_ (st_cons ?_ (st_cons ?_ (st_cons ?_ st_nil)))))))))
            all_goals intro vals W hW hv; have HW := Aside.mk hW; clear hW; try simp only [Act.put, List.setIfInBounds_toArray, List.set_cons_zero, List.set_cons_succ]
            · have c0 := (HW.out.cell (p := ⟨w1.heap.size, 0, none⟩) t_lt (ne2 t_n1 t_n2)).trans t_0
              have c1 := (HW.out.cell (p := ⟨w1.heap.size, 1, none⟩) t_lt (ne2 t_n1 t_n2)).trans t_1
              clear hv
              go_wp2_with fail
              exact ⟨rfl, _, rfl, grown_refl _ _, rfl⟩
            · have c0 := (HW.out.cell (p := ⟨d9, 0, none⟩) a_lt (ne2 a_n1 a_n2)).trans a_0
              have c1 := (HW.out.cell (p := ⟨d9, 1, none⟩) a_lt (ne2 a_n1 a_n2)).trans a_1
              clear hv
              go_wp2_with fail
              exact ⟨rfl, _, rfl, grown_refl _ _, rfl⟩
            · have e0 : vals 0 = cv oneC := hv ⟨0, .data⟩ (by simp) rfl
              have e1 : vals 1 = cv ca := hv ⟨1, .data⟩ (by simp) rfl
              simp only [e0, e1]
              clear hv
              go_wp2_with fail
              exact ⟨rfl, _, rfl, World.grownBy_alloc _ _ _, W.heap.size, rfl, Nat.le_trans hzz HW.out.size, by simp, isC2 (by go_simp) (by go_simp) (by go_simp) (by go_simp)⟩
            · obtain ⟨b, e, hb1, hb2, hC⟩ : ∃ b, vals 2 = .slice (some ⟨b, 0, none⟩) 2 2 ∧ w1.heap.size ≤ b ∧ b < W.heap.size ∧ IsC W (some ⟨b, 0, none⟩) 2 [oneC, ca] := hv ⟨2, .data⟩ (by simp) rfl
              have HC := Aside.mk hC
              simp only [e]
              clear hv hC
              go_wp2_with fail
              refine (joined_c [oneC, ca] (ok2 one_ok OK.out.1) _ _ _ W HC.out).mono ?_
              rintro e w' ⟨rfl, hb⟩
              go_wp2_with fail
              exact ⟨rfl, _, rfl, grown_below hb _, rfl⟩
            · have c0 := (HW.out.cell (p := ⟨w1.heap.size, 0, none⟩) t_lt (ne2 t_n1 t_n2)).trans t_0
              have c1 := (HW.out.cell (p := ⟨w1.heap.size, 1, none⟩) t_lt (ne2 t_n1 t_n2)).trans t_1
              clear hv
              go_wp2_with fail
              exact ⟨rfl, _, rfl, grown_refl _ _, rfl⟩
            · have c0 := (HW.out.cell (p := ⟨d11, 0, none⟩) x_lt (ne2 x_n1 x_n2)).trans x_0
              have c1 := (HW.out.cell (p := ⟨d11, 1, none⟩) x_lt (ne2 x_n1 x_n2)).trans x_1
              clear hv
              go_wp2_with fail
              exact ⟨rfl, _, rfl, grown_refl _ _, rfl⟩
            · have e4 : vals 4 = cv oneC := hv ⟨4, .data⟩ (by simp) rfl
              have e5 : vals 5 = cv cx := hv ⟨5, .data⟩ (by simp) rfl
              simp only [e4, e5]
              clear hv
              go_wp2_with fail
              exact ⟨rfl, _, rfl, World.grownBy_alloc _ _ _, W.heap.size, rfl, Nat.le_trans hzz HW.out.size, by simp, isC2 (by go_simp) (by go_simp) (by go_simp) (by go_simp)⟩
            · obtain ⟨b, e, hb1, hb2, hC⟩ : ∃ b, vals 6 = .slice (some ⟨b, 0, none⟩) 2 2 ∧ w1.heap.size ≤ b ∧ b < W.heap.size ∧ IsC W (some ⟨b, 0, none⟩) 2 [oneC, cx] := hv ⟨6, .data⟩ (by simp) rfl
              have HC := Aside.mk hC
              simp only [e]
              clear hv hC
              go_wp2_with fail
              refine (joined_c [oneC, cx] (ok2 one_ok OK.out.2.2.1) _ _ _ W HC.out).mono ?_
              rintro e w' ⟨rfl, hb⟩
              go_wp2_with fail
              exact ⟨rfl, _, rfl, grown_below hb _, rfl⟩
            · have e : vals 3 = cv (jn [oneC, ca]) := hv ⟨3, .data⟩ (by simp) rfl
              have c0 := (HW.out.cell (p := ⟨w.heap.size + 1, 0, none⟩) r_lt r_no).trans r_0
              have c1 := (HW.out.cell (p := ⟨w.heap.size + 1, 1, none⟩) r_lt r_no).trans r_1
              have g0 := (HW.out.frozen (p := ⟨w.heap.size + 1, 0, none⟩) r_lt r_no).trans r_f0
              have g1 := (HW.out.frozen (p := ⟨w.heap.size + 1, 1, none⟩) r_lt r_no).trans r_f1
              have hlt := Nat.lt_of_lt_of_le r_lt HW.out.size
              simp only [e]
              clear hv
              go_wp2_with fail
              exact ⟨rfl, undef, rfl, grown_set2 _ _ _ _, by go_simp, by go_simp⟩
            · have e : vals 7 = cv (jn [oneC, cx]) := hv ⟨7, .data⟩ (by simp) rfl
              have c0 := (HW.out.cell (p := ⟨w.heap.size + 1 + 1, 0, none⟩) s_lt s_no).trans s_0
              have c1 := (HW.out.cell (p := ⟨w.heap.size + 1 + 1, 1, none⟩) s_lt s_no).trans s_1
              have g0 := (HW.out.frozen (p := ⟨w.heap.size + 1 + 1, 0, none⟩) s_lt s_no).trans s_f0
              have g1 := (HW.out.frozen (p := ⟨w.heap.size + 1 + 1, 1, none⟩) s_lt s_no).trans s_f1
              have hlt := Nat.lt_of_lt_of_le s_lt HW.out.size
              simp only [e]
              clear hv
              go_wp2_with fail
              exact ⟨rfl, undef, rfl, grown_set2 _ _ _ _, by go_simp, by go_simp⟩
          · intro vals W hW hv
            obtain ⟨a0, a1⟩ : W.cell? ⟨w.heap.size + 1, 0, none⟩ = some (.int .i64 (jn [oneC, ca]).1) ∧ W.cell? ⟨w.heap.size + 1, 1, none⟩ = some (.int .i64 (jn [oneC, ca]).2) := hv 8 (by omega)
            obtain ⟨b0, b1⟩ : W.cell? ⟨w.heap.size + 1 + 1, 0, none⟩ = some (.int .i64 (jn [oneC, cx]).1) ∧ W.cell? ⟨w.heap.size + 1 + 1, 1, none⟩ = some (.int .i64 (jn [oneC, cx]).2) := hv 9 (by omega)
            have HB2 := Aside.mk (hW.below HBW.out (fun k hk => by simp at hk; omega) (by omega))
            have HE2 : Aside (R = ((jn [oneC, ca]), (jn [oneC, cx]))) := ⟨HE.out.trans (by simp [cntOp])⟩
            clear hv hW
            simp only [List.take_succ_cons, List.take_zero, List.drop_succ_cons, List.drop_zero, lexL, Act.put, List.setIfInBounds_toArray, List.set_cons_zero, List.set_cons_succ]
            go_wp2_with fail
            refine bodyPost_ret (v := .tuple #[cv (jn [oneC, ca]), cv (jn [oneC, cx])]) (by simp [results, Tryz.results146, go_sem, a0, a1, b0, b1]) rfl ?_
            exact ⟨by rw [HE2.out], HB2.out⟩
        · go_wp2_with fail
          refine wp_region_st 10 [(8, w.heap.size + 1), (9, w.heap.size + 1 + 1)] (by kernel_rfl) (by kernel_rfl) [fun v _ => v = cv ca, fun v _ => v = cv cb, fun v W => ∃ b, v = .slice (some ⟨b, 0, none⟩) 2 2 ∧ w1.heap.size ≤ b ∧ b < W.heap.size ∧ IsC W (some ⟨b, 0, none⟩) 2 [ca, cb], fun v _ => v = cv (jn [ca, cb]), fun v _ => v = cv cx, fun v _ => v = cv cy, fun v W => ∃ b, v = .slice (some ⟨b, 0, none⟩) 2 2 ∧ w1.heap.size ≤ b ∧ b < W.heap.size ∧ IsC W (some ⟨b, 0, none⟩) 2 [cx, cy], fun v _ => v = cv (jn [cx, cy]), fun _ W => W.cell? ⟨w.heap.size + 1, 0, none⟩ = some (.int .i64 (jn [ca, cb]).1) ∧ W.cell? ⟨w.heap.size + 1, 1, none⟩ = some (.int .i64 (jn [ca, cb]).2), fun _ W => W.cell? ⟨w.heap.size + 1 + 1, 0, none⟩ = some (.int .i64 (jn [cx, cy]).1) ∧ W.cell? ⟨w.heap.size + 1 + 1, 1, none⟩ = some (.int .i64 (jn [cx, cy]).2)]
            ⟨stabAt_eq _ _ _, stabAt_eq _ _ _, stab_build _ _ _ _ _ (lt2 hsz1 hsz2), stabAt_eq _ _ _, stabAt_eq _ _ _, stabAt_eq _ _ _, stab_build _ _ _ _ _ (lt2 hsz1 hsz2), stabAt_eq _ _ _, stab_store _ _ _ (jn [ca, cb]) (fun hb => by have := List.eq_of_mem_singleton hb; omega), stab_store _ _ _ (jn [cx, cy]) (fun hb => by have := List.eq_of_mem_singleton hb; omega), trivial⟩ ?_ ?_
          · simp only [List.take_succ_cons, List.take_zero]
            refine st_cons ?_ (st_cons ?_ (st_cons ?_ (st_cons ?_ (st_cons ?_ (st_cons ?_ (st_cons ?_ (st_cons ?_ (st_cons ?_ (st_cons ?_ st_nil)))))))))
            all_goals intro vals W hW hv; have HW := Aside.mk hW; clear hW; try simp only [Act.put, List.setIfInBounds_toArray, List.set_cons_zero, List.set_cons_succ]
            · have c0 := (HW.out.cell (p := ⟨d9, 0, none⟩) a_lt (ne2 a_n1 a_n2)).trans a_0
              have c1 := (HW.out.cell (p := ⟨d9, 1, none⟩) a_lt (ne2 a_n1 a_n2)).trans a_1
              clear hv
              go_wp2_with fail
              exact ⟨rfl, _, rfl, grown_refl _ _, rfl⟩
            · have c0 := (HW.out.cell (p := ⟨d10, 0, none⟩) b_lt (ne2 b_n1 b_n2)).trans b_0
              have c1 := (HW.out.cell (p := ⟨d10, 1, none⟩) b_lt (ne2 b_n1 b_n2)).trans b_1
              clear hv
              go_wp2_with fail
              exact ⟨rfl, _, rfl, grown_refl _ _, rfl⟩
            · have e0 : vals 0 = cv ca := hv ⟨0, .data⟩ (by simp) rfl
              have e1 : vals 1 = cv cb := hv ⟨1, .data⟩ (by simp) rfl
              simp only [e0, e1]
              clear hv
              go_wp2_with fail
              exact ⟨rfl, _, rfl, World.grownBy_alloc _ _ _, W.heap.size, rfl, Nat.le_trans hzz HW.out.size, by simp, isC2 (by go_simp) (by go_simp) (by go_simp) (by go_simp)⟩
            · obtain ⟨b, e, hb1, hb2, hC⟩ : ∃ b, vals 2 = .slice (some ⟨b, 0, none⟩) 2 2 ∧ w1.heap.size ≤ b ∧ b < W.heap.size ∧ IsC W (some ⟨b, 0, none⟩) 2 [ca, cb] := hv ⟨2, .data⟩ (by simp) rfl
              have HC := Aside.mk hC
              simp only [e]
              clear hv hC
              go_wp2_with fail
              refine (joined_c [ca, cb] (ok2 OK.out.1 OK.out.2.1) _ _ _ W HC.out).mono ?_
              rintro e w' ⟨rfl, hb⟩
              go_wp2_with fail
              exact ⟨rfl, _, rfl, grown_below hb _, rfl⟩
            · have c0 := (HW.out.cell (p := ⟨d11, 0, none⟩) x_lt (ne2 x_n1 x_n2)).trans x_0
              have c1 := (HW.out.cell (p := ⟨d11, 1, none⟩) x_lt (ne2 x_n1 x_n2)).trans x_1
              clear hv
              go_wp2_with fail
              exact ⟨rfl, _, rfl, grown_refl _ _, rfl⟩
            · have c0 := (HW.out.cell (p := ⟨d12, 0, none⟩) y_lt (ne2 y_n1 y_n2)).trans y_0
              have c1 := (HW.out.cell (p := ⟨d12, 1, none⟩) y_lt (ne2 y_n1 y_n2)).trans y_1
              clear hv
              go_wp2_with fail
              exact ⟨rfl, _, rfl, grown_refl _ _, rfl⟩
            · have e4 : vals 4 = cv cx := hv ⟨4, .data⟩ (by simp) rfl
              have e5 : vals 5 = cv cy := hv ⟨5, .data⟩ (by simp) rfl
              simp only [e4, e5]
              clear hv
              go_wp2_with fail
              exact ⟨rfl, _, rfl, World.grownBy_alloc _ _ _, W.heap.size, rfl, Nat.le_trans hzz HW.out.size, by simp, isC2 (by go_simp) (by go_simp) (by go_simp) (by go_simp)⟩
            · obtain ⟨b, e, hb1, hb2, hC⟩ : ∃ b, vals 6 = .slice (some ⟨b, 0, none⟩) 2 2 ∧ w1.heap.size ≤ b ∧ b < W.heap.size ∧ IsC W (some ⟨b, 0, none⟩) 2 [cx, cy] := hv ⟨6, .data⟩ (by simp) rfl
              have HC := Aside.mk hC
              simp only [e]
              clear hv hC
              go_wp2_with fail
              refine (joined_c [cx, cy] (ok2 OK.out.2.2.1 OK.out.2.2.2) _ _ _ W HC.out).mono ?_
              rintro e w' ⟨rfl, hb⟩
              go_wp2_with fail
              exact ⟨rfl, _, rfl, grown_below hb _, rfl⟩
            · have e : vals 3 = cv (jn [ca, cb]) := hv ⟨3, .data⟩ (by simp) rfl
              have c0 := (HW.out.cell (p := ⟨w.heap.size + 1, 0, none⟩) r_lt r_no).trans r_0
              have c1 := (HW.out.cell (p := ⟨w.heap.size + 1, 1, none⟩) r_lt r_no).trans r_1
              have g0 := (HW.out.frozen (p := ⟨w.heap.size + 1, 0, none⟩) r_lt r_no).trans r_f0
              have g1 := (HW.out.frozen (p := ⟨w.heap.size + 1, 1, none⟩) r_lt r_no).trans r_f1
              have hlt := Nat.lt_of_lt_of_le r_lt HW.out.size
              simp only [e]
              clear hv
              go_wp2_with fail
              exact ⟨rfl, undef, rfl, grown_set2 _ _ _ _, by go_simp, by go_simp⟩
            · have e : vals 7 = cv (jn [cx, cy]) := hv ⟨7, .data⟩ (by simp) rfl
              have c0 := (HW.out.cell (p := ⟨w.heap.size + 1 + 1, 0, none⟩) s_lt s_no).trans s_0
              have c1 := (HW.out.cell (p := ⟨w.heap.size + 1 + 1, 1, none⟩) s_lt s_no).trans s_1
              have g0 := (HW.out.frozen (p := ⟨w.heap.size + 1 + 1, 0, none⟩) s_lt s_no).trans s_f0
              have g1 := (HW.out.frozen (p := ⟨w.heap.size + 1 + 1, 1, none⟩) s_lt s_no).trans s_f1
              have hlt := Nat.lt_of_lt_of_le s_lt HW.out.size
              simp only [e]
              clear hv
              go_wp2_with fail
              exact ⟨rfl, undef, rfl, grown_set2 _ _ _ _, by go_simp, by go_simp⟩
          · intro vals W hW hv
            obtain ⟨a0, a1⟩ : W.cell? ⟨w.heap.size + 1, 0, none⟩ = some (.int .i64 (jn [ca, cb]).1) ∧ W.cell? ⟨w.heap.size + 1, 1, none⟩ = some (.int .i64 (jn [ca, cb]).2) := hv 8 (by omega)
            obtain ⟨b0, b1⟩ : W.cell? ⟨w.heap.size + 1 + 1, 0, none⟩ = some (.int .i64 (jn [cx, cy]).1) ∧ W.cell? ⟨w.heap.size + 1 + 1, 1, none⟩ = some (.int .i64 (jn [cx, cy]).2) := hv 9 (by omega)
            have HB2 := Aside.mk (hW.below HBW.out (fun k hk => by simp at hk; omega) (by omega))
            have HE2 : Aside (R = ((jn [ca, cb]), (jn [cx, cy]))) := ⟨HE.out.trans (by simp [cntOp])⟩
            clear hv hW
            simp only [List.take_succ_cons, List.take_zero, List.drop_succ_cons, List.drop_zero, lexL, Act.put, List.setIfInBounds_toArray, List.set_cons_zero, List.set_cons_succ]
            go_wp2_with fail
            refine bodyPost_ret (v := .tuple #[cv (jn [ca, cb]), cv (jn [cx, cy])]) (by simp [results, Tryz.results146, go_sem, a0, a1, b0, b1]) rfl ?_
            exact ⟨by rw [HE2.out], HB2.out⟩
        · go_wp2_with fail
          refine wp_region_st 10 [(8, w.heap.size + 1), (9, w.heap.size + 1 + 1)] (by kernel_rfl) (by kernel_rfl) [fun v _ => v = cv ca, fun v _ => v = cv cb, fun v W => ∃ b, v = .slice (some ⟨b, 0, none⟩) 2 2 ∧ w1.heap.size ≤ b ∧ b < W.heap.size ∧ IsC W (some ⟨b, 0, none⟩) 2 [ca, cb], fun v _ => v = cv (jn [ca, cb]), fun v _ => v = cv cx, fun v _ => v = cv cy, fun v W => ∃ b, v = .slice (some ⟨b, 0, none⟩) 2 2 ∧ w1.heap.size ≤ b ∧ b < W.heap.size ∧ IsC W (some ⟨b, 0, none⟩) 2 [cx, cy], fun v _ => v = cv (jn [cx, cy]), fun _ W => W.cell? ⟨w.heap.size + 1, 0, none⟩ = some (.int .i64 (jn [ca, cb]).1) ∧ W.cell? ⟨w.heap.size + 1, 1, none⟩ = some (.int .i64 (jn [ca, cb]).2), fun _ W => W.cell? ⟨w.heap.size + 1 + 1, 0, none⟩ = some (.int .i64 (jn [cx, cy]).1) ∧ W.cell? ⟨w.heap.size + 1 + 1, 1, none⟩ = some (.int .i64 (jn [cx, cy]).2)]
            ⟨stabAt_eq _ _ _, stabAt_eq _ _ _, stab_build _ _ _ _ _ (lt2 hsz1 hsz2), stabAt_eq _ _ _, stabAt_eq _ _ _, stabAt_eq _ _ _, stab_build _ _ _ _ _ (lt2 hsz1 hsz2), stabAt_eq _ _ _, stab_store _ _ _ (jn [ca, cb]) (fun hb => by have := List.eq_of_mem_singleton hb; omega), stab_store _ _ _ (jn [cx, cy]) (fun hb => by have := List.eq_of_mem_singleton hb; omega), trivial⟩ ?_ ?_
          · simp only [List.take_succ_cons, List.take_zero]
            refine st_cons ?_ (st_cons ?_ (st_cons ?_ (st_cons ?_ (st_cons ?_ (st_cons ?_ (st_cons ?_ (st_cons ?_ (st_cons ?_ (st_cons ?_ st_nil)))))))))
            all_goals intro vals W hW hv; have HW := Aside.mk hW; clear hW; try simp only [Act.put, List.setIfInBounds_toArray, List.set_cons_zero, List.set_cons_succ]
            · have c0 := (HW.out.cell (p := ⟨d9, 0, none⟩) a_lt (ne2 a_n1 a_n2)).trans a_0
              have c1 := (HW.out.cell (p := ⟨d9, 1, none⟩) a_lt (ne2 a_n1 a_n2)).trans a_1
              clear hv
              go_wp2_with fail
              exact ⟨rfl, _, rfl, grown_refl _ _, rfl⟩
            · have c0 := (HW.out.cell (p := ⟨d10, 0, none⟩) b_lt (ne2 b_n1 b_n2)).trans b_0
              have c1 := (HW.out.cell (p := ⟨d10, 1, none⟩) b_lt (ne2 b_n1 b_n2)).trans b_1
              clear hv
              go_wp2_with fail
              exact ⟨rfl, _, rfl, grown_refl _ _, rfl⟩
            · have e0 : vals 0 = cv ca := hv ⟨0, .data⟩ (by simp) rfl
              have e1 : vals 1 = cv cb := hv ⟨1, .data⟩ (by simp) rfl
              simp only [e0, e1]
              clear hv
              go_wp2_with fail
              exact ⟨rfl, _, rfl, World.grownBy_alloc _ _ _, W.heap.size, rfl, Nat.le_trans hzz HW.out.size, by simp, isC2 (by go_simp) (by go_simp) (by go_simp) (by go_simp)⟩
            · obtain ⟨b, e, hb1, hb2, hC⟩ : ∃ b, vals 2 = .slice (some ⟨b, 0, none⟩) 2 2 ∧ w1.heap.size ≤ b ∧ b < W.heap.size ∧ IsC W (some ⟨b, 0, none⟩) 2 [ca, cb] := hv ⟨2, .data⟩ (by simp) rfl
              have HC := Aside.mk hC
              simp only [e]
              clear hv hC
              go_wp2_with fail
              refine (joined_c [ca, cb] (ok2 OK.out.1 OK.out.2.1) _ _ _ W HC.out).mono ?_
              rintro e w' ⟨rfl, hb⟩
              go_wp2_with fail
              exact ⟨rfl, _, rfl, grown_below hb _, rfl⟩
            · have c0 := (HW.out.cell (p := ⟨d11, 0, none⟩) x_lt (ne2 x_n1 x_n2)).trans x_0
              have c1 := (HW.out.cell (p := ⟨d11, 1, none⟩) x_lt (ne2 x_n1 x_n2)).trans x_1
              clear hv
              go_wp2_with fail
              exact ⟨rfl, _, rfl, grown_refl _ _, rfl⟩
            · have c0 := (HW.out.cell (p := ⟨d12, 0, none⟩) y_lt (ne2 y_n1 y_n2)).trans y_0
              have c1 := (HW.out.cell (p := ⟨d12, 1, none⟩) y_lt (ne2 y_n1 y_n2)).trans y_1
              clear hv
              go_wp2_with fail
              exact ⟨rfl, _, rfl, grown_refl _ _, rfl⟩
            · have e4 : vals 4 = cv cx := hv ⟨4, .data⟩ (by simp) rfl
              have e5 : vals 5 = cv cy := hv ⟨5, .data⟩ (by simp) rfl
              simp only [e4, e5]
              clear hv
              go_wp2_with fail
              exact ⟨rfl, _, rfl, World.grownBy_alloc _ _ _, W.heap.size, rfl, Nat.le_trans hzz HW.out.size, by simp, isC2 (by go_simp) (by go_simp) (by go_simp) (by go_simp)⟩
            · obtain ⟨b, e, hb1, hb2, hC⟩ : ∃ b, vals 6 = .slice (some ⟨b, 0, none⟩) 2 2 ∧ w1.heap.size ≤ b ∧ b < W.heap.size ∧ IsC W (some ⟨b, 0, none⟩) 2 [cx, cy] := hv ⟨6, .data⟩ (by simp) rfl
              have HC := Aside.mk hC
              simp only [e]
              clear hv hC
              go_wp2_with fail
              refine (joined_c [cx, cy] (ok2 OK.out.2.2.1 OK.out.2.2.2) _ _ _ W HC.out).mono ?_
              rintro e w' ⟨rfl, hb⟩
              go_wp2_with fail
              exact ⟨rfl, _, rfl, grown_below hb _, rfl⟩
            · have e : vals 3 = cv (jn [ca, cb]) := hv ⟨3, .data⟩ (by simp) rfl
              have c0 := (HW.out.cell (p := ⟨w.heap.size + 1, 0, none⟩) r_lt r_no).trans r_0
              have c1 := (HW.out.cell (p := ⟨w.heap.size + 1, 1, none⟩) r_lt r_no).trans r_1
              have g0 := (HW.out.frozen (p := ⟨w.heap.size + 1, 0, none⟩) r_lt r_no).trans r_f0
              have g1 := (HW.out.frozen (p := ⟨w.heap.size + 1, 1, none⟩) r_lt r_no).trans r_f1
              have hlt := Nat.lt_of_lt_of_le r_lt HW.out.size
              simp only [e]
              clear hv
              go_wp2_with fail
              exact ⟨rfl, undef, rfl, grown_set2 _ _ _ _, by go_simp, by go_simp⟩
            · have e : vals 7 = cv (jn [cx, cy]) := hv ⟨7, .data⟩ (by simp) rfl
              have c0 := (HW.out.cell (p := ⟨w.heap.size + 1 + 1, 0, none⟩) s_lt s_no).trans s_0
              have c1 := (HW.out.cell (p := ⟨w.heap.size + 1 + 1, 1, none⟩) s_lt s_no).trans s_1
              have g0 := (HW.out.frozen (p := ⟨w.heap.size + 1 + 1, 0, none⟩) s_lt s_no).trans s_f0
              have g1 := (HW.out.frozen (p := ⟨w.heap.size + 1 + 1, 1, none⟩) s_lt s_no).trans s_f1
              have hlt := Nat.lt_of_lt_of_le s_lt HW.out.size
              simp only [e]
              clear hv
              go_wp2_with fail
              exact ⟨rfl, undef, rfl, grown_set2 _ _ _ _, by go_simp, by go_simp⟩
          · intro vals W hW hv
            obtain ⟨a0, a1⟩ : W.cell? ⟨w.heap.size + 1, 0, none⟩ = some (.int .i64 (jn [ca, cb]).1) ∧ W.cell? ⟨w.heap.size + 1, 1, none⟩ = some (.int .i64 (jn [ca, cb]).2) := hv 8 (by omega)
            obtain ⟨b0, b1⟩ : W.cell? ⟨w.heap.size + 1 + 1, 0, none⟩ = some (.int .i64 (jn [cx, cy]).1) ∧ W.cell? ⟨w.heap.size + 1 + 1, 1, none⟩ = some (.int .i64 (jn [cx, cy]).2) := hv 9 (by omega)
            have HB2 := Aside.mk (hW.below HBW.out (fun k hk => by simp at hk; omega) (by omega))
            have HE2 : Aside (R = ((jn [ca, cb]), (jn [cx, cy]))) := ⟨HE.out.trans (by simp [cntOp])⟩
            clear hv hW
            simp only [List.take_succ_cons, List.take_zero, List.drop_succ_cons, List.drop_zero, lexL, Act.put, List.setIfInBounds_toArray, List.set_cons_zero, List.set_cons_succ]
            go_wp2_with fail
            refine bodyPost_ret (v := .tuple #[cv (jn [ca, cb]), cv (jn [cx, cy])]) (by simp [results, Tryz.results146, go_sem, a0, a1, b0, b1]) rfl ?_
            exact ⟨by rw [HE2.out], HB2.out⟩
        · go_wp2_with fail
          refine wp_region_st 16 [(14, w.heap.size + 1), (15, w.heap.size + 1 + 1)] (by kernel_rfl) (by kernel_rfl) [fun v _ => v = cv cb, fun v _ => v = cv ca, fun v _ => v = cv cb, fun v W => ∃ b, v = .slice (some ⟨b, 0, none⟩) 2 2 ∧ w1.heap.size ≤ b ∧ b < W.heap.size ∧ IsC W (some ⟨b, 0, none⟩) 2 [ca, cb], fun v _ => v = cv (jn [ca, cb]), fun v W => ∃ b, v = .slice (some ⟨b, 0, none⟩) 2 2 ∧ w1.heap.size ≤ b ∧ b < W.heap.size ∧ IsC W (some ⟨b, 0, none⟩) 2 [cb, (jn [ca, cb])], fun v _ => v = cv (jn [cb, (jn [ca, cb])]), fun v _ => v = cv cy, fun v _ => v = cv cx, fun v _ => v = cv cy, fun v W => ∃ b, v = .slice (some ⟨b, 0, none⟩) 2 2 ∧ w1.heap.size ≤ b ∧ b < W.heap.size ∧ IsC W (some ⟨b, 0, none⟩) 2 [cx, cy], fun v _ => v = cv (jn [cx, cy]), fun v W => ∃ b, v = .slice (some ⟨b, 0, none⟩) 2 2 ∧ w1.heap.size ≤ b ∧ b < W.heap.size ∧ IsC W (some ⟨b, 0, none⟩) 2 [cy, (jn [cx, cy])], fun v _ => v = cv (jn [cy, (jn [cx, cy])]), fun _ W => W.cell? ⟨w.heap.size + 1, 0, none⟩ = some (.int .i64 (jn [cb, (jn [ca, cb])]).1) ∧ W.cell? ⟨w.heap.size + 1, 1, none⟩ = some (.int .i64 (jn [cb, (jn [ca, cb])]).2), fun _ W => W.cell? ⟨w.heap.size + 1 + 1, 0, none⟩ = some (.int .i64 (jn [cy, (jn [cx, cy])]).1) ∧ W.cell? ⟨w.heap.size + 1 + 1, 1, none⟩ = some (.int .i64 (jn [cy, (jn [cx, cy])]).2)]
            ⟨stabAt_eq _ _ _, stabAt_eq _ _ _, stabAt_eq _ _ _, stab_build _ _ _ _ _ (lt2 hsz1 hsz2), stabAt_eq _ _ _, stab_build _ _ _ _ _ (lt2 hsz1 hsz2), stabAt_eq _ _ _, stabAt_eq _ _ _, stabAt_eq _ _ _, stabAt_eq _ _ _, stab_build _ _ _ _ _ (lt2 hsz1 hsz2), stabAt_eq _ _ _, stab_build _ _ _ _ _ (lt2 hsz1 hsz2), stabAt_eq _ _ _, stab_store _ _ _ (jn [cb, (jn [ca, cb])]) (fun hb => by have := List.eq_of_mem_singleton hb; omega), stab_store _ _ _ (jn [cy, (jn [cx, cy])]) (fun hb => by have := List.eq_of_mem_singleton hb; omega), trivial⟩ ?_ ?_
          · simp only [List.take_succ_cons, List.take_zero]
            refine st_cons ?_ (st_cons ?_ (st_cons ?_ (st_cons ?_ (st_cons ?_ (st_cons ?_ (st_cons ?_ (st_cons ?_ (st_cons ?_ (st_cons ?_ (st_cons ?_ (st_cons ?_ (st_cons ?_ (st_cons ?_ (st_cons ?_ (st_cons ?_ st_nil)))))))))))))))
            all_goals intro vals W hW hv; have HW := Aside.mk hW; clear hW; try simp only [Act.put, List.setIfInBounds_toArray, List.set_cons_zero, List.set_cons_succ]
            · have c0 := (HW.out.cell (p := ⟨d10, 0, none⟩) b_lt (ne2 b_n1 b_n2)).trans b_0
              have c1 := (HW.out.cell (p := ⟨d10, 1, none⟩) b_lt (ne2 b_n1 b_n2)).trans b_1
              clear hv
              go_wp2_with fail
              exact ⟨rfl, _, rfl, grown_refl _ _, rfl⟩
            · have c0 := (HW.out.cell (p := ⟨d9, 0, none⟩) a_lt (ne2 a_n1 a_n2)).trans a_0
              have c1 := (HW.out.cell (p := ⟨d9, 1, none⟩) a_lt (ne2 a_n1 a_n2)).trans a_1
              clear hv
              go_wp2_with fail
              exact ⟨rfl, _, rfl, grown_refl _ _, rfl⟩
            · have c0 := (HW.out.cell (p := ⟨d10, 0, none⟩) b_lt (ne2 b_n1 b_n2)).trans b_0
              have c1 := (HW.out.cell (p := ⟨d10, 1, none⟩) b_lt (ne2 b_n1 b_n2)).trans b_1
              clear hv
              go_wp2_with fail
              exact ⟨rfl, _, rfl, grown_refl _ _, rfl⟩
            · have e1 : vals 1 = cv ca := hv ⟨1, .data⟩ (by simp) rfl
              have e2 : vals 2 = cv cb := hv ⟨2, .data⟩ (by simp) rfl
              simp only [e1, e2]
              clear hv
              go_wp2_with fail
              exact ⟨rfl, _, rfl, World.grownBy_alloc _ _ _, W.heap.size, rfl, Nat.le_trans hzz HW.out.size, by simp, isC2 (by go_simp) (by go_simp) (by go_simp) (by go_simp)⟩
            · obtain ⟨b, e, hb1, hb2, hC⟩ : ∃ b, vals 3 = .slice (some ⟨b, 0, none⟩) 2 2 ∧ w1.heap.size ≤ b ∧ b < W.heap.size ∧ IsC W (some ⟨b, 0, none⟩) 2 [ca, cb] := hv ⟨3, .data⟩ (by simp) rfl
              have HC := Aside.mk hC
              simp only [e]
              clear hv hC
              go_wp2_with fail
              refine (joined_c [ca, cb] (ok2 OK.out.1 OK.out.2.1) _ _ _ W HC.out).mono ?_
              rintro e w' ⟨rfl, hb⟩
              go_wp2_with fail
              exact ⟨rfl, _, rfl, grown_below hb _, rfl⟩
            · have e0 : vals 0 = cv cb := hv ⟨0, .data⟩ (by simp) rfl
              have e4 : vals 4 = cv (jn [ca, cb]) := hv ⟨4, .data⟩ (by simp) rfl
              simp only [e0, e4]
              clear hv
              go_wp2_with fail
              exact ⟨rfl, _, rfl, World.grownBy_alloc _ _ _, W.heap.size, rfl, Nat.le_trans hzz HW.out.size, by simp, isC2 (by go_simp) (by go_simp) (by go_simp) (by go_simp)⟩
            · obtain ⟨b, e, hb1, hb2, hC⟩ : ∃ b, vals 5 = .slice (some ⟨b, 0, none⟩) 2 2 ∧ w1.heap.size ≤ b ∧ b < W.heap.size ∧ IsC W (some ⟨b, 0, none⟩) 2 [cb, (jn [ca, cb])] := hv ⟨5, .data⟩ (by simp) rfl
              have HC := Aside.mk hC
              simp only [e]
              clear hv hC
              go_wp2_with fail
              refine (joined_c [cb, (jn [ca, cb])] (ok2 OK.out.2.1 (jn_ok (ok2 OK.out.1 OK.out.2.1))) _ _ _ W HC.out).mono ?_
              rintro e w' ⟨rfl, hb⟩
              go_wp2_with fail
              exact ⟨rfl, _, rfl, grown_below hb _, rfl⟩
            · have c0 := (HW.out.cell (p := ⟨d12, 0, none⟩) y_lt (ne2 y_n1 y_n2)).trans y_0
              have c1 := (HW.out.cell (p := ⟨d12, 1, none⟩) y_lt (ne2 y_n1 y_n2)).trans y_1
              clear hv
              go_wp2_with fail
              exact ⟨rfl, _, rfl, grown_refl _ _, rfl⟩
            · have c0 := (HW.out.cell (p := ⟨d11, 0, none⟩) x_lt (ne2 x_n1 x_n2)).trans x_0
              have c1 := (HW.out.cell (p := ⟨d11, 1, none⟩) x_lt (ne2 x_n1 x_n2)).trans x_1
              clear hv
              go_wp2_with fail
              exact ⟨rfl, _, rfl, grown_refl _ _, rfl⟩
            · have c0 := (HW.out.cell (p := ⟨d12, 0, none⟩) y_lt (ne2 y_n1 y_n2)).trans y_0
              have c1 := (HW.out.cell (p := ⟨d12, 1, none⟩) y_lt (ne2 y_n1 y_n2)).trans y_1
              clear hv
              go_wp2_with fail
              exact ⟨rfl, _, rfl, grown_refl _ _, rfl⟩
            · have e8 : vals 8 = cv cx := hv ⟨8, .data⟩ (by simp) rfl
              have e9 : vals 9 = cv cy := hv ⟨9, .data⟩ (by simp) rfl
              simp only [e8, e9]
              clear hv
              go_wp2_with fail
              exact ⟨rfl, _, rfl, World.grownBy_alloc _ _ _, W.heap.size, rfl, Nat.le_trans hzz HW.out.size, by simp, isC2 (by go_simp) (by go_simp) (by go_simp) (by go_simp)⟩
            · obtain ⟨b, e, hb1, hb2, hC⟩ : ∃ b, vals 10 = .slice (some ⟨b, 0, none⟩) 2 2 ∧ w1.heap.size ≤ b ∧ b < W.heap.size ∧ IsC W (some ⟨b, 0, none⟩) 2 [cx, cy] := hv ⟨10, .data⟩ (by simp) rfl
              have HC := Aside.mk hC
              simp only [e]
              clear hv hC
              go_wp2_with fail
              refine (joined_c [cx, cy] (ok2 OK.out.2.2.1 OK.out.2.2.2) _ _ _ W HC.out).mono ?_
              rintro e w' ⟨rfl, hb⟩
              go_wp2_with fail
              exact ⟨rfl, _, rfl, grown_below hb _, rfl⟩
            · have e7 : vals 7 = cv cy := hv ⟨7, .data⟩ (by simp) rfl
              have e11 : vals 11 = cv (jn [cx, cy]) := hv ⟨11, .data⟩ (by simp) rfl
              simp only [e7, e11]
              clear hv
              go_wp2_with fail
              exact ⟨rfl, _, rfl, World.grownBy_alloc _ _ _, W.heap.size, rfl, Nat.le_trans hzz HW.out.size, by simp, isC2 (by go_simp) (by go_simp) (by go_simp) (by go_simp)⟩
            · obtain ⟨b, e, hb1, hb2, hC⟩ : ∃ b, vals 12 = .slice (some ⟨b, 0, none⟩) 2 2 ∧ w1.heap.size ≤ b ∧ b < W.heap.size ∧ IsC W (some ⟨b, 0, none⟩) 2 [cy, (jn [cx, cy])] := hv ⟨12, .data⟩ (by simp) rfl
              have HC := Aside.mk hC
              simp only [e]
              clear hv hC
              go_wp2_with fail
              refine (joined_c [cy, (jn [cx, cy])] (ok2 OK.out.2.2.2 (jn_ok (ok2 OK.out.2.2.1 OK.out.2.2.2))) _ _ _ W HC.out).mono ?_
              rintro e w' ⟨rfl, hb⟩
              go_wp2_with fail
              exact ⟨rfl, _, rfl, grown_below hb _, rfl⟩
            · have e : vals 6 = cv (jn [cb, (jn [ca, cb])]) := hv ⟨6, .data⟩ (by simp) rfl
              have c0 := (HW.out.cell (p := ⟨w.heap.size + 1, 0, none⟩) r_lt r_no).trans r_0
              have c1 := (HW.out.cell (p := ⟨w.heap.size + 1, 1, none⟩) r_lt r_no).trans r_1
              have g0 := (HW.out.frozen (p := ⟨w.heap.size + 1, 0, none⟩) r_lt r_no).trans r_f0
              have g1 := (HW.out.frozen (p := ⟨w.heap.size + 1, 1, none⟩) r_lt r_no).trans r_f1
              have hlt := Nat.lt_of_lt_of_le r_lt HW.out.size
              simp only [e]
              clear hv
              go_wp2_with fail
              exact ⟨rfl, undef, rfl, grown_set2 _ _ _ _, by go_simp, by go_simp⟩
            · have e : vals 13 = cv (jn [cy, (jn [cx, cy])]) := hv ⟨13, .data⟩ (by simp) rfl
              have c0 := (HW.out.cell (p := ⟨w.heap.size + 1 + 1, 0, none⟩) s_lt s_no).trans s_0
              have c1 := (HW.out.cell (p := ⟨w.heap.size + 1 + 1, 1, none⟩) s_lt s_no).trans s_1
              have g0 := (HW.out.frozen (p := ⟨w.heap.size + 1 + 1, 0, none⟩) s_lt s_no).trans s_f0
              have g1 := (HW.out.frozen (p := ⟨w.heap.size + 1 + 1, 1, none⟩) s_lt s_no).trans s_f1
              have hlt := Nat.lt_of_lt_of_le s_lt HW.out.size
              simp only [e]
              clear hv
              go_wp2_with fail
              exact ⟨rfl, undef, rfl, grown_set2 _ _ _ _, by go_simp, by go_simp⟩
          · intro vals W hW hv
            obtain ⟨a0, a1⟩ : W.cell? ⟨w.heap.size + 1, 0, none⟩ = some (.int .i64 (jn [cb, (jn [ca, cb])]).1) ∧ W.cell? ⟨w.heap.size + 1, 1, none⟩ = some (.int .i64 (jn [cb, (jn [ca, cb])]).2) := hv 14 (by omega)
            obtain ⟨b0, b1⟩ : W.cell? ⟨w.heap.size + 1 + 1, 0, none⟩ = some (.int .i64 (jn [cy, (jn [cx, cy])]).1) ∧ W.cell? ⟨w.heap.size + 1 + 1, 1, none⟩ = some (.int .i64 (jn [cy, (jn [cx, cy])]).2) := hv 15 (by omega)
            have HB2 := Aside.mk (hW.below HBW.out (fun k hk => by simp at hk; omega) (by omega))
            have HE2 : Aside (R = ((jn [cb, (jn [ca, cb])]), (jn [cy, (jn [cx, cy])]))) := ⟨HE.out.trans (by simp [cntOp])⟩
            clear hv hW
            simp only [List.take_succ_cons, List.take_zero, List.drop_succ_cons, List.drop_zero, lexL, Act.put, List.setIfInBounds_toArray, List.set_cons_zero, List.set_cons_succ]
            go_wp2_with fail
            refine bodyPost_ret (v := .tuple #[cv (jn [cb, (jn [ca, cb])]), cv (jn [cy, (jn [cx, cy])])]) (by simp [results, Tryz.results146, go_sem, a0, a1, b0, b1]) rfl ?_
            exact ⟨by rw [HE2.out], HB2.out⟩
        · go_wp2_with fail
          refine wp_region_st 16 [(14, w.heap.size + 1), (15, w.heap.size + 1 + 1)] (by kernel_rfl) (by kernel_rfl) [fun v _ => v = cv cb, fun v _ => v = cv ca, fun v _ => v = cv cb, fun v W => ∃ b, v = .slice (some ⟨b, 0, none⟩) 2 2 ∧ w1.heap.size ≤ b ∧ b < W.heap.size ∧ IsC W (some ⟨b, 0, none⟩) 2 [ca, cb], fun v _ => v = cv (jn [ca, cb]), fun v W => ∃ b, v = .slice (some ⟨b, 0, none⟩) 2 2 ∧ w1.heap.size ≤ b ∧ b < W.heap.size ∧ IsC W (some ⟨b, 0, none⟩) 2 [cb, (jn [ca, cb])], fun v _ => v = cv (jn [cb, (jn [ca, cb])]), fun v _ => v = cv cy, fun v _ => v = cv cx, fun v _ => v = cv cy, fun v W => ∃ b, v = .slice (some ⟨b, 0, none⟩) 2 2 ∧ w1.heap.size ≤ b ∧ b < W.heap.size ∧ IsC W (some ⟨b, 0, none⟩) 2 [cx, cy], fun v _ => v = cv (jn [cx, cy]), fun v W => ∃ b, v = .slice (some ⟨b, 0, none⟩) 2 2 ∧ w1.heap.size ≤ b ∧ b < W.heap.size ∧ IsC W (some ⟨b, 0, none⟩) 2 [cy, (jn [cx, cy])], fun v _ => v = cv (jn [cy, (jn [cx, cy])]), fun _ W => W.cell? ⟨w.heap.size + 1, 0, none⟩ = some (.int .i64 (jn [cb, (jn [ca, cb])]).1) ∧ W.cell? ⟨w.heap.size + 1, 1, none⟩ = some (.int .i64 (jn [cb, (jn [ca, cb])]).2), fun _ W => W.cell? ⟨w.heap.size + 1 + 1, 0, none⟩ = some (.int .i64 (jn [cy, (jn [cx, cy])]).1) ∧ W.cell? ⟨w.heap.size + 1 + 1, 1, none⟩ = some (.int .i64 (jn [cy, (jn [cx, cy])]).2)]
            ⟨stabAt_eq _ _ _, stabAt_eq _ _ _, stabAt_eq _ _ _, stab_build _ _ _ _ _ (lt2 hsz1 hsz2), stabAt_eq _ _ _, stab_build _ _ _ _ _ (lt2 hsz1 hsz2), stabAt_eq _ _ _, stabAt_eq _ _ _, stabAt_eq _ _ _, stabAt_eq _ _ _, stab_build _ _ _ _ _ (lt2 hsz1 hsz2), stabAt_eq _ _ _, stab_build _ _ _ _ _ (lt2 hsz1 hsz2), stabAt_eq _ _ _, stab_store _ _ _ (jn [cb, (jn [ca, cb])]) (fun hb => by have := List.eq_of_mem_singleton hb; omega), stab_store _ _ _ (jn [cy, (jn [cx, cy])]) (fun hb => by have := List.eq_of_mem_singleton hb; omega), trivial⟩ ?_ ?_
          · simp only [List.take_succ_cons, List.take_zero]
            refine st_cons ?_ (st_cons ?_ (st_cons ?_ (st_cons ?_ (st_cons ?_ (st_cons ?_ (st_cons ?_ (st_cons ?_ (st_cons ?_ (st_cons ?_ (st_cons ?_ (st_cons ?_ (st_cons ?_ (st_cons ?_ (st_cons ?_ (st_cons ?_ st_nil)))))))))))))))
            all_goals intro vals W hW hv; have HW := Aside.mk hW; clear hW; try simp only [Act.put, List.setIfInBounds_toArray, List.set_cons_zero, List.set_cons_succ]
            · have c0 := (HW.out.cell (p := ⟨d10, 0, none⟩) b_lt (ne2 b_n1 b_n2)).trans b_0
              have c1 := (HW.out.cell (p := ⟨d10, 1, none⟩) b_lt (ne2 b_n1 b_n2)).trans b_1
              clear hv
              go_wp2_with fail
              exact ⟨rfl, _, rfl, grown_refl _ _, rfl⟩
            · have c0 := (HW.out.cell (p := ⟨d9, 0, none⟩) a_lt (ne2 a_n1 a_n2)).trans a_0
              have c1 := (HW.out.cell (p := ⟨d9, 1, none⟩) a_lt (ne2 a_n1 a_n2)).trans a_1
              clear hv
              go_wp2_with fail
              exact ⟨rfl, _, rfl, grown_refl _ _, rfl⟩
            · have c0 := (HW.out.cell (p := ⟨d10, 0, none⟩) b_lt (ne2 b_n1 b_n2)).trans b_0
              have c1 := (HW.out.cell (p := ⟨d10, 1, none⟩) b_lt (ne2 b_n1 b_n2)).trans b_1
              clear hv
              go_wp2_with fail
              exact ⟨rfl, _, rfl, grown_refl _ _, rfl⟩
            · have e1 : vals 1 = cv ca := hv ⟨1, .data⟩ (by simp) rfl
              have e2 : vals 2 = cv cb := hv ⟨2, .data⟩ (by simp) rfl
              simp only [e1, e2]
              clear hv
              go_wp2_with fail
              exact ⟨rfl, _, rfl, World.grownBy_alloc _ _ _, W.heap.size, rfl, Nat.le_trans hzz HW.out.size, by simp, isC2 (by go_simp) (by go_simp) (by go_simp) (by go_simp)⟩
            · obtain ⟨b, e, hb1, hb2, hC⟩ : ∃ b, vals 3 = .slice (some ⟨b, 0, none⟩) 2 2 ∧ w1.heap.size ≤ b ∧ b < W.heap.size ∧ IsC W (some ⟨b, 0, none⟩) 2 [ca, cb] := hv ⟨3, .data⟩ (by simp) rfl
              have HC := Aside.mk hC
              simp only [e]
              clear hv hC
              go_wp2_with fail
              refine (joined_c [ca, cb] (ok2 OK.out.1 OK.out.2.1) _ _ _ W HC.out).mono ?_
              rintro e w' ⟨rfl, hb⟩
              go_wp2_with fail
              exact ⟨rfl, _, rfl, grown_below hb _, rfl⟩
            · have e0 : vals 0 = cv cb := hv ⟨0, .data⟩ (by simp) rfl
              have e4 : vals 4 = cv (jn [ca, cb]) := hv ⟨4, .data⟩ (by simp) rfl
              simp only [e0, e4]
              clear hv
              go_wp2_with fail
              exact ⟨rfl, _, rfl, World.grownBy_alloc _ _ _, W.heap.size, rfl, Nat.le_trans hzz HW.out.size, by simp, isC2 (by go_simp) (by go_simp) (by go_simp) (by go_simp)⟩
            · obtain ⟨b, e, hb1, hb2, hC⟩ : ∃ b, vals 5 = .slice (some ⟨b, 0, none⟩) 2 2 ∧ w1.heap.size ≤ b ∧ b < W.heap.size ∧ IsC W (some ⟨b, 0, none⟩) 2 [cb, (jn [ca, cb])] := hv ⟨5, .data⟩ (by simp) rfl
              have HC := Aside.mk hC
              simp only [e]
              clear hv hC
              go_wp2_with fail
              refine (joined_c [cb, (jn [ca, cb])] (ok2 OK.out.2.1 (jn_ok (ok2 OK.out.1 OK.out.2.1))) _ _ _ W HC.out).mono ?_
              rintro e w' ⟨rfl, hb⟩
              go_wp2_with fail
              exact ⟨rfl, _, rfl, grown_below hb _, rfl⟩
            · have c0 := (HW.out.cell (p := ⟨d12, 0, none⟩) y_lt (ne2 y_n1 y_n2)).trans y_0
              have c1 := (HW.out.cell (p := ⟨d12, 1, none⟩) y_lt (ne2 y_n1 y_n2)).trans y_1
              clear hv
              go_wp2_with fail
              exact ⟨rfl, _, rfl, grown_refl _ _, rfl⟩
            · have c0 := (HW.out.cell (p := ⟨d11, 0, none⟩) x_lt (ne2 x_n1 x_n2)).trans x_0
              have c1 := (HW.out.cell (p := ⟨d11, 1, none⟩) x_lt (ne2 x_n1 x_n2)).trans x_1
              clear hv
              go_wp2_with fail
              exact ⟨rfl, _, rfl, grown_refl _ _, rfl⟩
            · have c0 := (HW.out.cell (p := ⟨d12, 0, none⟩) y_lt (ne2 y_n1 y_n2)).trans y_0
              have c1 := (HW.out.cell (p := ⟨d12, 1, none⟩) y_lt (ne2 y_n1 y_n2)).trans y_1
              clear hv
              go_wp2_with fail
              exact ⟨rfl, _, rfl, grown_refl _ _, rfl⟩
            · have e8 : vals 8 = cv cx := hv ⟨8, .data⟩ (by simp) rfl
              have e9 : vals 9 = cv cy := hv ⟨9, .data⟩ (by simp) rfl
              simp only [e8, e9]
              clear hv
              go_wp2_with fail
              exact ⟨rfl, _, rfl, World.grownBy_alloc _ _ _, W.heap.size, rfl, Nat.le_trans hzz HW.out.size, by simp, isC2 (by go_simp) (by go_simp) (by go_simp) (by go_simp)⟩
            · obtain ⟨b, e, hb1, hb2, hC⟩ : ∃ b, vals 10 = .slice (some ⟨b, 0, none⟩) 2 2 ∧ w1.heap.size ≤ b ∧ b < W.heap.size ∧ IsC W (some ⟨b, 0, none⟩) 2 [cx, cy] := hv ⟨10, .data⟩ (by simp) rfl
              have HC := Aside.mk hC
              simp only [e]
              clear hv hC
              go_wp2_with fail
              refine (joined_c [cx, cy] (ok2 OK.out.2.2.1 OK.out.2.2.2) _ _ _ W HC.out).mono ?_
              rintro e w' ⟨rfl, hb⟩
              go_wp2_with fail
              exact ⟨rfl, _, rfl, grown_below hb _, rfl⟩
            · have e7 : vals 7 = cv cy := hv ⟨7, .data⟩ (by simp) rfl
              have e11 : vals 11 = cv (jn [cx, cy]) := hv ⟨11, .data⟩ (by simp) rfl
              simp only [e7, e11]
              clear hv
              go_wp2_with fail
              exact ⟨rfl, _, rfl, World.grownBy_alloc _ _ _, W.heap.size, rfl, Nat.le_trans hzz HW.out.size, by simp, isC2 (by go_simp) (by go_simp) (by go_simp) (by go_simp)⟩
            · obtain ⟨b, e, hb1, hb2, hC⟩ : ∃ b, vals 12 = .slice (some ⟨b, 0, none⟩) 2 2 ∧ w1.heap.size ≤ b ∧ b < W.heap.size ∧ IsC W (some ⟨b, 0, none⟩) 2 [cy, (jn [cx, cy])] := hv ⟨12, .data⟩ (by simp) rfl
              have HC := Aside.mk hC
              simp only [e]
              clear hv hC
              go_wp2_with fail
              refine (joined_c [cy, (jn [cx, cy])] (ok2 OK.out.2.2.2 (jn_ok (ok2 OK.out.2.2.1 OK.out.2.2.2))) _ _ _ W HC.out).mono ?_
              rintro e w' ⟨rfl, hb⟩
              go_wp2_with fail
              exact ⟨rfl, _, rfl, grown_below hb _, rfl⟩
            · have e : vals 6 = cv (jn [cb, (jn [ca, cb])]) := hv ⟨6, .data⟩ (by simp) rfl
              have c0 := (HW.out.cell (p := ⟨w.heap.size + 1, 0, none⟩) r_lt r_no).trans r_0
              have c1 := (HW.out.cell (p := ⟨w.heap.size + 1, 1, none⟩) r_lt r_no).trans r_1
              have g0 := (HW.out.frozen (p := ⟨w.heap.size + 1, 0, none⟩) r_lt r_no).trans r_f0
              have g1 := (HW.out.frozen (p := ⟨w.heap.size + 1, 1, none⟩) r_lt r_no).trans r_f1
              have hlt := Nat.lt_of_lt_of_le r_lt HW.out.size
              simp only [e]
              clear hv
              go_wp2_with fail
              exact ⟨rfl, undef, rfl, grown_set2 _ _ _ _, by go_simp, by go_simp⟩
            · have e : vals 13 = cv (jn [cy, (jn [cx, cy])]) := hv ⟨13, .data⟩ (by simp) rfl
              have c0 := (HW.out.cell (p := ⟨w.heap.size + 1 + 1, 0, none⟩) s_lt s_no).trans s_0
              have c1 := (HW.out.cell (p := ⟨w.heap.size + 1 + 1, 1, none⟩) s_lt s_no).trans s_1
              have g0 := (HW.out.frozen (p := ⟨w.heap.size + 1 + 1, 0, none⟩) s_lt s_no).trans s_f0
              have g1 := (HW.out.frozen (p := ⟨w.heap.size + 1 + 1, 1, none⟩) s_lt s_no).trans s_f1
              have hlt := Nat.lt_of_lt_of_le s_lt HW.out.size
              simp only [e]
              clear hv
              go_wp2_with fail
              exact ⟨rfl, undef, rfl, grown_set2 _ _ _ _, by go_simp, by go_simp⟩
          · intro vals W hW hv
            obtain ⟨a0, a1⟩ : W.cell? ⟨w.heap.size + 1, 0, none⟩ = some (.int .i64 (jn [cb, (jn [ca, cb])]).1) ∧ W.cell? ⟨w.heap.size + 1, 1, none⟩ = some (.int .i64 (jn [cb, (jn [ca, cb])]).2) := hv 14 (by omega)
            obtain ⟨b0, b1⟩ : W.cell? ⟨w.heap.size + 1 + 1, 0, none⟩ = some (.int .i64 (jn [cy, (jn [cx, cy])]).1) ∧ W.cell? ⟨w.heap.size + 1 + 1, 1, none⟩ = some (.int .i64 (jn [cy, (jn [cx, cy])]).2) := hv 15 (by omega)
            have HB2 := Aside.mk (hW.below HBW.out (fun k hk => by simp at hk; omega) (by omega))
            have HE2 : Aside (R = ((jn [cb, (jn [ca, cb])]), (jn [cy, (jn [cx, cy])]))) := ⟨HE.out.trans (by simp [cntOp])⟩
            clear hv hW
            simp only [List.take_succ_cons, List.take_zero, List.drop_succ_cons, List.drop_zero, lexL, Act.put, List.setIfInBounds_toArray, List.set_cons_zero, List.set_cons_succ]
            go_wp2_with fail
            refine bodyPost_ret (v := .tuple #[cv (jn [cb, (jn [ca, cb])]), cv (jn [cy, (jn [cx, cy])])]) (by simp [results, Tryz.results146, go_sem, a0, a1, b0, b1]) rfl ?_
            exact ⟨by rw [HE2.out], HB2.out⟩
end Go.Proofs.YtmmakkaolknbaaaGreatDoor
