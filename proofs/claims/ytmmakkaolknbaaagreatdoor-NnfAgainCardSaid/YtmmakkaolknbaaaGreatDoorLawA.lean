/- Contracts: the weight of a tree, nnf.Is, <-> in a tree, a name's tree. -/
import Derived.Test.YtmmakkaolknbaaaGreatDoorPlC
import Derived.Test.YtmmakkaolknbaaaGreatDoorSimpB
namespace Go.Proofs.YtmmakkaolknbaaaGreatDoor
set_option linter.unusedVariables false
set_option linter.unusedSimpArgs false
open Go.RowKit Go.Shelf

/-- No name in it is longer than what can be read. -/
inductive Fm.NmB : Fm → Prop
  | mk_ (op : Int) (nm : ByteArray) (ks : List Fm) (h : nm.size ≤ 140737488351232) (hk : ∀ k ∈ ks, Fm.NmB k) : Fm.NmB (.mk op nm ks)
theorem Fm.NmB.kid {f : Fm} (h : f.NmB) : ∀ k ∈ f.ks, k.NmB := by cases h; assumption
theorem Fm.NmB.nm {f : Fm} (h : f.NmB) : f.nm.size ≤ 140737488351232 := by cases h; assumption
/-- Every tree that lies in memory has Ops that are numbers from 0 on. -/
theorem IsTX.nn {X : Nat → Prop} {W : World} {op : Int} {nm : ByteArray} {a : Option Addr} {n c : Nat} {f : Fm} (h : IsTX X W op nm a n c f) : f.Nn := by
  induction h with
  | leaf op nm a c h0 _ _ _ => exact .mk_ _ _ _ h0 (by simp)
  | node op nm b o c ks op' nm' a' n' c' h0 _ _ _ _ _ _ _ _ ih =>
    refine .mk_ _ _ _ h0 fun k hk => ?_
    obtain ⟨i, hi, rfl⟩ := List.getElem_of_mem hk
    exact ih i hi

/-- A parameter's box, and what has grown behind it. -/
abbrev boxW (w : World) (op : Int) (nm : ByteArray) (a : Option Addr) (n c : Nat) : World := w.alloc (.cells #[.int .u8 op, .string nm, .slice a n c] 25)
theorem boxW_below (w : World) (op : Int) (nm : ByteArray) (a : Option Addr) (n c : Nat) : Below w.heap.size w (boxW w op nm a n c) := (by repeat (first | (with_reducible exact Below.refl _ _) | (with_reducible assumption) | refine below_alloc ?_ _ | refine Below.drew ?_ | refine below_drewN ?_ _))
theorem box_of {w wr : World} {op : Int} {nm : ByteArray} {a : Option Addr} {n c : Nat} (h : Below (w.heap.size + 1) (boxW w op nm a n c) wr) :
    wr.cell? ⟨w.heap.size, 0, none⟩ = some (.int .u8 op) ∧ wr.cell? ⟨w.heap.size, 1, none⟩ = some (.string nm) ∧ wr.cell? ⟨w.heap.size, 2, none⟩ = some (.slice a n c) ∧ Below w.heap.size w wr ∧ w.heap.size < wr.heap.size :=
  ⟨(h.cell (p := ⟨w.heap.size, 0, none⟩) (by simp)).trans (by simp [boxW]), (h.cell (p := ⟨w.heap.size, 1, none⟩) (by simp)).trans (by simp [boxW]), (h.cell (p := ⟨w.heap.size, 2, none⟩) (by simp)).trans (by simp [boxW]),
    (boxW_below w op nm a n c).trans (h.mono (by omega)), by have := h.size; simp [boxW] at this; omega⟩

def WgtP (f : Fm) (d : Int) (e : Ending) : Prop := ∃ r : Int, e = .returned (.int .i64 r) ∧ 1 ≤ r ∧ r ≤ 140737488355329 + (2001 - d) * 2147483648 ∧ (r ≤ 2147483647 → (f.size : Int) ≤ r)
set_option maxHeartbeats 1000000 in
/-- augurref00.weight. -/
theorem weight_c (f : Fm) : ∀ (d : Int) (op : Int) (nm : ByteArray) (a : Option Addr) (n c : Nat) (w : World), IsT w op nm a n c f → f.NmB → 0 ≤ d → d ≤ 2001 →
    Calls Tryz.prog 71 #[fv op nm a n c, .int .i64 d] w fun e w' => WgtP f d e ∧ Below w.heap.size w w' := by
  induction f using Fm.ind_ with | h o_ n_ ks ih
  intro d op nm a n c w h hnb hd0 hd1
  obtain ⟨h0, h1, h2, ks_, e, hS⟩ := h.parts
  obtain ⟨rfl, rfl, rfl⟩ : op = o_ ∧ nm = n_ ∧ ks = ks_ := by cases e; exact ⟨rfl, rfl, rfl⟩
  clear e h
  have hnm : nm.size ≤ 140737488351232 := hnb.nm
  have HK := Aside.mk hnb.kid
  have hn1 : n ≤ 9223372036854775807 := Nat.le_trans hS.2.1 hS.2.2.1
  have HF : Aside ((1 : Int) + (Fm.sizeL ks : Int) = ((Fm.mk op nm ks).size : Int)) := ⟨by simp only [Fm.size]; omega⟩
  generalize hf : Fm.mk op nm ks = f at HF ⊢
  have HN := Aside.mk hS.1
  have HS := Aside.mk hS
  have IH := Aside.mk ih
  clear hS ih hnb hf h2
  by_cases hd : d ≤ 2000
  · have hd' : ¬ (2000 : Int) < d := by omega
    go_enter Tryz.func71, Tryz.ntmps71
    go_wp2_with fail
    go_loopg [5, 6] n (fun gg s5 s6 wr => ∃ (k : Nat) (N : Int), k ≤ n ∧ n - k ≤ gg ∧ s6 = .int .i64 k ∧ s5 = .int .i64 N ∧ 1 ≤ N ∧ N ≤ 140737488355329 + (2001 - d) * 2147483648 ∧ Aside (N ≤ 2147483647 → 1 + (Fm.sizeL (ks.take k) : Int) ≤ N) ∧ Aside (Below (w.heap.size + 1) (boxW w op nm a n c) wr))
    case atStart => exact ⟨0, _, Nat.zero_le _, by omega, rfl, rfl, by omega, by omega, ⟨by simp [Fm.sizeL]; omega⟩, ⟨Below.refl _ _⟩⟩
    case round =>
      obtain ⟨k, N, hk, hg, rfl, rfl, hN1, hN2, HI, HQ⟩ := hrel
      obtain ⟨z0, z1, z2, hB, hzs⟩ := box_of HQ.out
      have HB := Aside.mk hB
      clear hB
      by_cases hlt : k < n
      · have hlti : (k : Int) < (n : Int) := by omega
        by_cases hN3 : N ≤ 2147483647
        · obtain ⟨b, o, rfl, hbl, x, op1, nm1, a1, n1, c1, X, q0, q1, q2, hT1⟩ := (HS.out.keep HB.out).at_ k hlt
          have HC := Aside.mk (fun W hW => IH.out x X.mem (d + 1) op1 nm1 a1 n1 c1 W (IsTX.keep (w := wr) hW hT1) (HK.out x X.mem) (by omega) (by omega))
          have HX := Aside.mk X
          clear hT1 X
          go_wp2_with fail
          refine (HC.out _ ?_).mono ?_
          · exact (by repeat (first | (with_reducible exact Below.refl _ _) | (with_reducible assumption) | refine below_alloc ?_ _ | refine Below.drew ?_ | refine below_drewN ?_ _))
          rintro e w2 ⟨⟨r, rfl, hr1, hr2, hr3⟩, hb2⟩
          have HB2 : Aside (Below (w.heap.size + 1) (boxW w op nm (some ⟨b, o, none⟩) n c) w2) := ⟨HQ.out.trans (hb2.mono hzs)⟩
          have HR := Aside.mk hr3
          clear hb2 HC hr3
          go_wp2_with fail
          go_roundg (n - (k + 1))
          case measure => omega
          case rel =>
            refine ⟨k + 1, N + r, by omega, by omega, by go_num, rfl, by omega, by omega, ⟨fun h => ?_⟩, HB2⟩
            have i1 := HI.out hN3
            have i2 := HR.out (by omega)
            rw [HX.out.take, Fm.sizeL_append]
            simp only [Fm.sizeL]
            omega
        · have hN3' : ¬ N ≤ 2147483647 := hN3
          go_wp2_with fail
          go_ret
          exact ⟨⟨N, rfl, hN1, hN2, fun h => absurd h (by omega)⟩, HB.out⟩
      · have hlti : ¬ (k : Int) < (n : Int) := by omega
        go_wp2_with fail
        go_ret
        refine ⟨⟨N, rfl, hN1, hN2, fun h => ?_⟩, HB.out⟩
        have i1 := HI.out h
        rw [List.take_of_length_le (by have := HN.out; omega)] at i1
        rw [← HF.out]
        exact i1
  · have hd' : (2000 : Int) < d := by omega
    go_enter Tryz.func71, Tryz.ntmps71
    go_wp2_with fail
    go_ret
    exact ⟨⟨_, rfl, by omega, by omega, fun h => by omega⟩, (by repeat (first | (with_reducible exact Below.refl _ _) | (with_reducible assumption) | refine below_alloc ?_ _ | refine Below.drew ?_ | refine below_drewN ?_ _))⟩

def WgtP0 (f : Fm) (e : Ending) : Prop := ∃ r : Int, e = .returned (.int .i64 r) ∧ 1 ≤ r ∧ r ≤ 9223372036854775807 ∧ (r ≤ 2147483647 → (f.size : Int) ≤ r)
theorem Weight_c (f : Fm) (op : Int) (nm : ByteArray) (a : Option Addr) (n c : Nat) (w : World) (h : IsT w op nm a n c f) (hb : f.NmB) :
    Calls Tryz.prog 15 #[fv op nm a n c] w fun e w' => WgtP0 f e ∧ Below w.heap.size w w' := by
  have HC := Aside.mk (fun W (hW : Below w.heap.size w W) => weight_c f 0 op nm a n c W (h.keep hW) hb (by omega) (by omega))
  clear h hb
  go_enter Tryz.func15, Tryz.ntmps15
  go_wp2_with fail
  refine (HC.out _ ?_).mono ?_
  · exact (by repeat (first | (with_reducible exact Below.refl _ _) | (with_reducible assumption) | refine below_alloc ?_ _ | refine Below.drew ?_ | refine below_drewN ?_ _))
  rintro e w2 ⟨⟨r, rfl, hr1, hr2, hr3⟩, hb2⟩
  have HB2 : Aside (Below w.heap.size w w2) := ⟨below_to (by repeat (first | (with_reducible exact Below.refl _ _) | (with_reducible assumption) | refine below_alloc ?_ _ | refine Below.drew ?_ | refine below_drewN ?_ _)) hb2⟩
  clear hb2
  go_wp2_with fail
  go_ret
  exact ⟨⟨r, rfl, hr1, by omega, hr3⟩, HB2.out⟩

set_option maxHeartbeats 1000000 in
/-- augurlaw07.iffs. -/
theorem iffs_c (f : Fm) : ∀ (op : Int) (nm : ByteArray) (a : Option Addr) (n c : Nat) (w : World), IsT w op nm a n c f →
    Calls Tryz.prog 27 #[fv op nm a n c] w fun e w' => e = .returned (.bool f.iffs) ∧ Below w.heap.size w w' := by
  induction f using Fm.ind_ with | h o_ n_ ks ih
  intro op nm a n c w h
  obtain ⟨h0, h1, h2, ks_, e, hS⟩ := h.parts
  obtain ⟨rfl, rfl, rfl⟩ : op = o_ ∧ nm = n_ ∧ ks = ks_ := by cases e; exact ⟨rfl, rfl, rfl⟩
  clear e h
  have hn1 : n ≤ 9223372036854775807 := Nat.le_trans hS.2.1 hS.2.2.1
  have HF : Aside ((Fm.mk op nm ks).iffs = (decide (op = 8) || Fm.iffsL ks)) := ⟨rfl⟩
  generalize (Fm.mk op nm ks).iffs = R at HF ⊢
  have HN := Aside.mk hS.1
  have HS := Aside.mk hS
  have IH := Aside.mk ih
  clear hS ih h2
  by_cases h8 : op = 8
  · have h8' : (op == 8) = true := by simp [h8]
    have HR : Aside (R = true) := ⟨by rw [HF.out, decide_eq_true h8]; rfl⟩
    clear h8
    go_enter Tryz.func27, Tryz.ntmps27
    go_wp2_with fail
    go_ret
    exact ⟨ret_b HR.out.symm, (by repeat (first | (with_reducible exact Below.refl _ _) | (with_reducible assumption) | refine below_alloc ?_ _ | refine Below.drew ?_ | refine below_drewN ?_ _))⟩
  · have h8' : (op == 8) = false := by simp [h8]
    have HR : Aside (R = Fm.iffsL ks) := ⟨by rw [HF.out, decide_eq_false h8]; rfl⟩
    clear h8
    go_enter Tryz.func27, Tryz.ntmps27
    go_wp2_with fail
    go_loopg [3] n (fun gg s3 wr => ∃ k : Nat, k ≤ n ∧ n - k ≤ gg ∧ s3 = .int .i64 k ∧ Aside (R = Fm.iffsL (ks.drop k)) ∧ Aside (Below (w.heap.size + 1) (boxW w op nm a n c) wr))
    case atStart => exact ⟨0, Nat.zero_le _, by omega, rfl, ⟨by simpa using HR.out⟩, ⟨Below.refl _ _⟩⟩
    case round =>
      obtain ⟨k, hk, hg, rfl, HI, HQ⟩ := hrel
      obtain ⟨z0, z1, z2, hB, hzs⟩ := box_of HQ.out
      have HB := Aside.mk hB
      clear hB
      by_cases hlt : k < n
      · have hlti : (k : Int) < (n : Int) := by omega
        obtain ⟨b, o, rfl, hbl, x, op1, nm1, a1, n1, c1, X, q0, q1, q2, hT1⟩ := (HS.out.keep HB.out).at_ k hlt
        have HC := Aside.mk (fun W hW => IH.out x X.mem op1 nm1 a1 n1 c1 W (IsTX.keep (w := wr) hW hT1))
        have HI2 : Aside (R = (x.iffs || Fm.iffsL (ks.drop (k + 1)))) := ⟨by rw [HI.out, X.drop]; rfl⟩
        clear hT1 X
        go_wp2_with fail
        refine (HC.out _ ?_).mono ?_
        · exact (by repeat (first | (with_reducible exact Below.refl _ _) | (with_reducible assumption) | refine below_alloc ?_ _ | refine Below.drew ?_ | refine below_drewN ?_ _))
        rintro e w2 ⟨rfl, hb2⟩
        have HB2 : Aside (Below w.heap.size w w2) := ⟨below_to HB.out (below_to (by repeat (first | (with_reducible exact Below.refl _ _) | (with_reducible assumption) | refine below_alloc ?_ _ | refine Below.drew ?_ | refine below_drewN ?_ _)) hb2)⟩
        have HQ2 : Aside (Below (w.heap.size + 1) (boxW w op nm (some ⟨b, o, none⟩) n c) w2) := ⟨HQ.out.trans (hb2.mono hzs)⟩
        clear hb2 HC
        cases hx : x.iffs with
        | true =>
          rw [hx] at HI2
          clear hx
          go_wp2_with fail
          go_ret
          exact ⟨ret_b HI2.out.symm, HB2.out⟩
        | false =>
          rw [hx] at HI2
          clear hx
          go_wp2_with fail
          go_roundg (n - (k + 1))
          case measure => omega
          case rel => exact ⟨k + 1, by omega, by omega, by go_num, ⟨by simpa using HI2.out⟩, HQ2⟩
      · have hlti : ¬ (k : Int) < (n : Int) := by omega
        go_wp2_with fail
        go_ret
        exact ⟨ret_b (by rw [HI.out, List.drop_of_length_le (by have := HN.out; omega)]; rfl), HB.out⟩

set_option maxHeartbeats 1000000 in
/-- nnf.is. -/
theorem is1_c (f : Fm) : ∀ (op : Int) (nm : ByteArray) (a : Option Addr) (n c : Nat) (w : World), IsT w op nm a n c f → f.Wf →
    Calls Tryz.prog 82 #[fv op nm a n c] w fun e w' => e = .returned (.bool f.isN) ∧ Below w.heap.size w w' := by
  induction f using Fm.ind_ with | h o_ n_ ks ih
  intro op nm a n c w h hw
  obtain ⟨h0, h1, h2, ks_, e, hS⟩ := h.parts
  obtain ⟨rfl, rfl, rfl⟩ : op = o_ ∧ nm = n_ ∧ ks = ks_ := by cases e; exact ⟨rfl, rfl, rfl⟩
  clear e h
  have hn1 : n ≤ 9223372036854775807 := Nat.le_trans hS.2.1 hS.2.2.1
  have HF : Aside ((Fm.mk op nm ks).isN = if op = 4 then decide ((Fm.mk op nil8 ks).k0.op = 3) else if op = 7 ∨ op = 8 ∨ op = 10 ∨ op = 11 ∨ op = 14 ∨ op = 15 then false else Fm.isNL ks) := ⟨rfl⟩
  generalize (Fm.mk op nm ks).isN = R at HF ⊢
  have HN := Aside.mk hS.1
  by_cases h4 : op = 4
  · have hn : 0 < n := by
      have := hw.len
      rw [h4] at this
      simp [kidsOf, kidsTab] at this
      have := hS.1
      omega
    obtain ⟨b, o, rfl, hbl, x, op1, nm1, a1, n1, c1, X, q0, q1, q2, hT1⟩ := hS.at_ 0 hn
    have hx : x.op = op1 := by
      obtain ⟨_, _, _, l, rfl, _⟩ := hT1.parts
      rfl
    have HR : Aside (R = decide (op1 = 3)) := ⟨by rw [HF.out, if_pos h4, ith0 X, hx]⟩
    have hni : (0 : Int) < (n : Int) := by omega
    have h4' : (op == 4) = true := by simp [h4]
    simp only [Nat.zero_mul, Nat.add_zero] at q0 q1 q2
    clear hS ih h2 h4 hw HF hT1 X hx hn
    go_enter Tryz.func82, Tryz.ntmps82
    go_wp2_with fail
    go_ret
    exact ⟨ret_b (by rw [HR.out]; rfl), (by repeat (first | (with_reducible exact Below.refl _ _) | (with_reducible assumption) | refine below_alloc ?_ _ | refine Below.drew ?_ | refine below_drewN ?_ _))⟩
  · have h4' : (op == 4) = false := by simp [h4]
    have HR4 : Aside (R = if op = 7 ∨ op = 8 ∨ op = 10 ∨ op = 11 ∨ op = 14 ∨ op = 15 then false else Fm.isNL ks) := ⟨by rw [HF.out, if_neg h4]⟩
    by_cases h7 : op = 7 ∨ op = 8 ∨ op = 10 ∨ op = 11 ∨ op = 14 ∨ op = 15
    · have HR : Aside (R = false) := ⟨by rw [HR4.out, if_pos h7]⟩
      clear hS ih h2 hw HF HR4 h4
      rcases h7 with rfl | rfl | rfl | rfl | rfl | rfl
      all_goals
        clear h4'
        go_enter Tryz.func82, Tryz.ntmps82
        go_wp2_with fail
        go_ret
        exact ⟨ret_b HR.out.symm, (by repeat (first | (with_reducible exact Below.refl _ _) | (with_reducible assumption) | refine below_alloc ?_ _ | refine Below.drew ?_ | refine below_drewN ?_ _))⟩
    · have HR : Aside (R = Fm.isNL ks) := ⟨by rw [HR4.out, if_neg h7]⟩
      have e7 : (op == 7) = false := by simp; omega
      have e8 : (op == 8) = false := by simp; omega
      have e10 : (op == 10) = false := by simp; omega
      have e11 : (op == 11) = false := by simp; omega
      have e14 : (op == 14) = false := by simp; omega
      have e15 : (op == 15) = false := by simp; omega
      have HS := Aside.mk hS
      have IH := Aside.mk ih
      have HW := Aside.mk hw
      clear hS ih h2 hw HF HR4 h4 h7
      go_enter Tryz.func82, Tryz.ntmps82
      go_wp2_with fail
      go_loopg [25] n (fun gg s25 wr => ∃ k : Nat, k ≤ n ∧ n - k ≤ gg ∧ s25 = .int .i64 k ∧ Aside (R = Fm.isNL (ks.drop k)) ∧ Aside (Below w.heap.size w wr))
      case atStart => exact ⟨0, Nat.zero_le _, by omega, rfl, ⟨by simpa using HR.out⟩, ⟨(by repeat (first | (with_reducible exact Below.refl _ _) | (with_reducible assumption) | refine below_alloc ?_ _ | refine Below.drew ?_ | refine below_drewN ?_ _))⟩⟩
      case round =>
        obtain ⟨k, hk, hg, rfl, HI, HB⟩ := hrel
        by_cases hlt : k < n
        · have hlti : (k : Int) < (n : Int) := by omega
          obtain ⟨b, o, rfl, hbl, x, op1, nm1, a1, n1, c1, X, q0, q1, q2, hT1⟩ := (HS.out.keep HB.out).at_ k hlt
          have HC := Aside.mk (fun W hW => IH.out x X.mem op1 nm1 a1 n1 c1 W (IsTX.keep (w := wr) hW hT1) (HW.out.kid x X.mem))
          have HI2 : Aside (R = (x.isN && Fm.isNL (ks.drop (k + 1)))) := ⟨by rw [HI.out, X.drop]; rfl⟩
          clear hT1 X
          go_wp2_with fail
          refine (HC.out _ ?_).mono ?_
          · exact (by repeat (first | (with_reducible exact Below.refl _ _) | (with_reducible assumption) | refine below_alloc ?_ _ | refine Below.drew ?_ | refine below_drewN ?_ _))
          rintro e w2 ⟨rfl, hb2⟩
          have HB2 : Aside (Below w.heap.size w w2) := ⟨below_to HB.out (below_to (by repeat (first | (with_reducible exact Below.refl _ _) | (with_reducible assumption) | refine below_alloc ?_ _ | refine Below.drew ?_ | refine below_drewN ?_ _)) hb2)⟩
          clear hb2 HC
          cases hx : x.isN with
          | false =>
            rw [hx] at HI2
            clear hx
            go_wp2_with fail
            go_ret
            exact ⟨ret_b HI2.out.symm, HB2.out⟩
          | true =>
            rw [hx] at HI2
            clear hx
            go_wp2_with fail
            go_roundg (n - (k + 1))
            case measure => omega
            case rel => exact ⟨k + 1, by omega, by omega, by go_num, ⟨by simpa using HI2.out⟩, HB2⟩
        · have hlti : ¬ (k : Int) < (n : Int) := by omega
          go_wp2_with fail
          go_ret
          exact ⟨ret_b (by rw [HI.out, List.drop_of_length_le (by have := HN.out; omega)]; rfl), HB.out⟩

def Fm.isR (f : Fm) : Bool := decide (f.rightE futureB = 0) && f.isN
set_option maxHeartbeats 1000000 in
/-- nnf.Is. -/
theorem Is_c (f : Fm) (op : Int) (nm : ByteArray) (a : Option Addr) (n c : Nat) (w : World) (hL : Laid w) (h : IsT w op nm a n c f) (hs : f.size ≤ 4611686018427387904) :
    Calls Tryz.prog 26 #[fv op nm a n c] w fun e w' => e = .returned (.bool f.isR) ∧ Below w.heap.size w w' := by
  have HC := Aside.mk (fun W (hW : Below w.heap.size w W) => Right_c f op nm a n c W (hL.keep hW) (h.keep hW) hs)
  have HD := Aside.mk (fun (hr : f.rightE futureB = 0) W (hW : Below w.heap.size w W) => is1_c f op nm a n c W (h.keep hW) (formed_wf f h.nn (rightE_ok hr).1))
  have HE : Aside (f.isR = (decide (f.rightE futureB = 0) && f.isN)) := ⟨rfl⟩
  clear hL h hs
  generalize f.isR = R at HE ⊢
  by_cases hr : f.rightE futureB = 0
  · have HD2 := Aside.mk (HD.out hr)
    have HE2 : Aside (R = f.isN) := ⟨by rw [HE.out, hr]; rfl⟩
    rw [hr] at HC
    clear HD HE hr
    go_enter Tryz.func26, Tryz.ntmps26
    go_wp2_with fail
    refine (HC.out _ ?_).mono ?_
    · exact (by repeat (first | (with_reducible exact Below.refl _ _) | (with_reducible assumption) | refine below_alloc ?_ _ | refine Below.drew ?_ | refine below_drewN ?_ _))
    rintro e w2 ⟨rfl, hb2⟩
    have HB2 : Aside (Below w.heap.size w w2) := ⟨below_to (by repeat (first | (with_reducible exact Below.refl _ _) | (with_reducible assumption) | refine below_alloc ?_ _ | refine Below.drew ?_ | refine below_drewN ?_ _)) hb2⟩
    have hc0 : w2.cell? ⟨w.heap.size, 0, none⟩ = some (.int .u8 op) := cell_below hb2 (by go_simp)
    have hc1 : w2.cell? ⟨w.heap.size, 1, none⟩ = some (.string nm) := cell_below hb2 (by go_simp)
    have hc2 : w2.cell? ⟨w.heap.size, 2, none⟩ = some (.slice a n c) := cell_below hb2 (by go_simp)
    clear hb2
    go_wp2_with fail
    refine (HD2.out _ HB2.out).mono ?_
    rintro e w3 ⟨rfl, hb3⟩
    have HB3 : Aside (Below w.heap.size w w3) := ⟨below_to HB2.out hb3⟩
    clear hb3
    go_wp2_with fail
    go_ret
    exact ⟨ret_b HE2.out.symm, HB3.out⟩
  · have HE2 : Aside (R = false) := ⟨by rw [HE.out]; simp [hr]⟩
    have hr' : (f.rightE futureB == 0) = false := by simp [hr]
    generalize f.rightE futureB = E at hr' HC
    clear HD HE hr
    go_enter Tryz.func26, Tryz.ntmps26
    go_wp2_with fail
    refine (HC.out _ ?_).mono ?_
    · exact (by repeat (first | (with_reducible exact Below.refl _ _) | (with_reducible assumption) | refine below_alloc ?_ _ | refine Below.drew ?_ | refine below_drewN ?_ _))
    rintro e w2 ⟨rfl, hb2⟩
    have HB2 : Aside (Below w.heap.size w w2) := ⟨below_to (by repeat (first | (with_reducible exact Below.refl _ _) | (with_reducible assumption) | refine below_alloc ?_ _ | refine Below.drew ?_ | refine below_drewN ?_ _)) hb2⟩
    clear hb2
    go_wp2_with fail
    go_ret
    exact ⟨ret_b HE2.out.symm, HB2.out⟩
end Go.Proofs.YtmmakkaolknbaaaGreatDoor
