/- Contracts of nnf: yes, no, sure, always. -/
import Derived.Test.YtmmakkaolknbaaaGreatDoorNnfA
namespace Go.Proofs.YtmmakkaolknbaaaGreatDoor
set_option linter.unusedVariables false
set_option linter.unusedSimpArgs false
open Go.RowKit Go.Shelf

theorem yes_c (op : Int) (nm : ByteArray) (a : Option Addr) (n c : Nat) (w : World) :
    Calls Tryz.prog 259 #[fv op nm a n c] w fun e w' => e = .returned (.bool (op == 1)) ∧ Below w.heap.size w w' := by
  go_enter Tryz.func259, Tryz.ntmps259
  go_wp2_with fail
  go_ret
  exact ⟨rfl, (by repeat (first | (with_reducible exact Below.refl _ _) | (with_reducible assumption) | refine below_alloc ?_ _ | refine Below.drew ?_ | refine below_drewN ?_ _))⟩
theorem no_c (op : Int) (nm : ByteArray) (a : Option Addr) (n c : Nat) (w : World) :
    Calls Tryz.prog 258 #[fv op nm a n c] w fun e w' => e = .returned (.bool (op == 2)) ∧ Below w.heap.size w w' := by
  go_enter Tryz.func258, Tryz.ntmps258
  go_wp2_with fail
  go_ret
  exact ⟨rfl, (by repeat (first | (with_reducible exact Below.refl _ _) | (with_reducible assumption) | refine below_alloc ?_ _ | refine Below.drew ?_ | refine below_drewN ?_ _))⟩
def sureB (op : Int) : Bool := op == 1 || op == 2
set_option maxHeartbeats 1000000 in
theorem sure_c (op : Int) (nm : ByteArray) (a : Option Addr) (n c : Nat) (w : World) :
    Calls Tryz.prog 209 #[fv op nm a n c] w fun e w' => e = .returned (.bool (sureB op)) ∧ Below w.heap.size w w' := by
  have H1 := Aside.mk (fun W => yes_c op nm a n c W)
  have H2 := Aside.mk (fun W => no_c op nm a n c W)
  have HE : Aside (sureB op = (op == 1 || op == 2)) := ⟨rfl⟩
  generalize sureB op = R at HE ⊢
  cases c1 : (op == 1) with
  | true =>
    simp only [c1] at H1 HE
    clear c1
    go_enter Tryz.func209, Tryz.ntmps209
    go_wp2_with fail
    refine (H1.out _).mono ?_
    rintro e w2 ⟨rfl, hb2⟩
    have HB : Aside (Below w.heap.size w w2) := ⟨below_to (by repeat (first | (with_reducible exact Below.refl _ _) | (with_reducible assumption) | refine below_alloc ?_ _ | refine Below.drew ?_ | refine below_drewN ?_ _)) hb2⟩
    clear hb2
    go_wp2_with fail
    go_ret
    exact ⟨ret_b (by rw [HE.out]; rfl), HB.out⟩
  | false =>
    simp only [c1] at H1 HE
    clear c1
    go_enter Tryz.func209, Tryz.ntmps209
    go_wp2_with fail
    refine (H1.out _).mono ?_
    rintro e w2 ⟨rfl, hb2⟩
    have HB : Aside (Below w.heap.size w w2) := ⟨below_to (by repeat (first | (with_reducible exact Below.refl _ _) | (with_reducible assumption) | refine below_alloc ?_ _ | refine Below.drew ?_ | refine below_drewN ?_ _)) hb2⟩
    have hc0 : w2.cell? ⟨w.heap.size, 0, none⟩ = some (.int .u8 op) := cell_below hb2 (by go_simp)
    have hc1 : w2.cell? ⟨w.heap.size, 1, none⟩ = some (.string nm) := cell_below hb2 (by go_simp)
    have hc2 : w2.cell? ⟨w.heap.size, 2, none⟩ = some (.slice a n c) := cell_below hb2 (by go_simp)
    clear hb2
    go_wp2_with fail
    refine (H2.out _).mono ?_
    rintro e w3 ⟨rfl, hb3⟩
    have HB3 : Aside (Below w.heap.size w w3) := ⟨below_to HB.out hb3⟩
    clear hb3
    go_wp2_with fail
    go_ret
    exact ⟨ret_b (by rw [HE.out]; rfl), HB3.out⟩

theorem of1_after {X : Nat → Prop} {w w2 w3 : World} {op : Int} {nm : ByteArray} {a : Option Addr} {n c : Nat} {f : Fm} {q : Int} (hq0 : 0 ≤ q) (hq1 : q ≤ 255) (hw : Below w.heap.size w w2)
    (hb3 : Below (w2.alloc (.cells #[.int .u8 op, .string nm, .slice a n c] 25)).heap.size (w2.alloc (.cells #[.int .u8 op, .string nm, .slice a n c] 25)) w3) (h : IsTX X w op nm a n c f) :
    IsTX (fun b => (X b ∧ b < w.heap.size) ∨ w2.heap.size ≤ b) w3 q nil8 (some ⟨w2.heap.size, 0, none⟩) 1 1 (.mk q nil8 [f]) :=
  .of_parts hq0 hq1 (by decide) (isS1 (.inr (Nat.le_refl _)) (cell_below hb3 (by go_simp)) (cell_below hb3 (by go_simp)) (cell_below hb3 (by go_simp)) ((h.old.keep (below_to (below_alloc hw _) hb3)).mono fun b hb _ => .inl hb))

def Fm.sAlways (q : Int) (f : Fm) : Fm := if sureB f.op = true ∨ f.op = q ∨ (f.op = 21 - q ∧ f.k0.op = q) then f else .mk q nil8 [f]

set_option maxHeartbeats 4000000 in
theorem always_c {X : Nat → Prop} (q : Int) (hq : q = 10 ∨ q = 11) (f : Fm) (op : Int) (nm : ByteArray) (a : Option Addr) (n c : Nat) (w : World) (h : IsTX X w op nm a n c f) (hk : op = 21 - q → 0 < n) :
    Calls Tryz.prog 212 #[.int .u8 q, fv op nm a n c] w (RetX X (f.sAlways q) w) := by
  obtain ⟨h0, h1, h2, ks, rfl, hS⟩ := h.parts
  have HSU := Aside.mk (fun W => sure_c op nm a n c W)
  have HH := Aside.mk h
  have hq0 : 10 ≤ q := by omega
  have hq1 : q ≤ 11 := by omega
  clear h hq
  cases c1 : sureB op with
  | true =>
    have hE : (Fm.mk op nm ks).sAlways q = .mk op nm ks := by simp [Fm.sAlways, c1]
    rw [hE]
    simp only [c1] at HSU
    clear hE c1 hS hk
    go_enter Tryz.func212, Tryz.ntmps212
    go_wp2_with fail
    refine (HSU.out _).mono ?_
    rintro e w2 ⟨rfl, hb2⟩
    have hc0 : w2.cell? ⟨w.heap.size, 0, none⟩ = some (.int .u8 op) := cell_below hb2 (by go_simp)
    have hc1 : w2.cell? ⟨w.heap.size, 1, none⟩ = some (.string nm) := cell_below hb2 (by go_simp)
    have hc2 : w2.cell? ⟨w.heap.size, 2, none⟩ = some (.slice a n c) := cell_below hb2 (by go_simp)
    have hz2 := hb2.size
    have hsz2 : w.heap.size + 1 < w2.heap.size := by simp at hz2; omega
    clear hz2
    have r0 : w2.cell? ⟨w.heap.size + 1, 0, none⟩ = some (.int .u8 0) := cell_below hb2 (by go_simp)
    have r1 : w2.cell? ⟨w.heap.size + 1, 1, none⟩ = some (.string nil8) := cell_below hb2 (by go_simp)
    have r2 : w2.cell? ⟨w.heap.size + 1, 2, none⟩ = some (.slice none 0 0) := cell_below hb2 (by go_simp)
    have f0 : w2.frozen? ⟨w.heap.size + 1, 0, none⟩ = false := (hb2.frozen (by simp)).trans (by go_simp)
    have f1 : w2.frozen? ⟨w.heap.size + 1, 1, none⟩ = false := (hb2.frozen (by simp)).trans (by go_simp)
    have f2 : w2.frozen? ⟨w.heap.size + 1, 2, none⟩ = false := (hb2.frozen (by simp)).trans (by go_simp)
    have HB : Aside (Below w.heap.size w w2) := ⟨below_to (by repeat (first | (with_reducible exact Below.refl _ _) | (with_reducible assumption) | refine below_alloc ?_ _ | refine Below.drew ?_ | refine below_drewN ?_ _)) hb2⟩
    clear hb2
    go_wp2_with fail
    refine bodyPost_ret (v := fv op nm a n c) (by simp [results, Tryz.results212, go_sem, r0, r1, r2]) rfl ?_
    exact RetX.at_ (w.heap.size + 1 + 1) ((HH.out.old.keep HB.out).mono fun b hb _ => .inl hb) HB.out (by omega) (by omega) _ _ _
  | false =>
    simp only [c1] at HSU
    by_cases c2 : op = q
    · have hE : (Fm.mk op nm ks).sAlways q = .mk op nm ks := by simp [Fm.sAlways, c2]
      rw [hE]
      have c2' : (op == q) = true := by simp [c2]
      clear hE c1 hS hk c2
      go_enter Tryz.func212, Tryz.ntmps212
      go_wp2_with fail
      refine (HSU.out _).mono ?_
      rintro e w2 ⟨rfl, hb2⟩
      have hc0 : w2.cell? ⟨w.heap.size, 0, none⟩ = some (.int .u8 op) := cell_below hb2 (by go_simp)
      have hc1 : w2.cell? ⟨w.heap.size, 1, none⟩ = some (.string nm) := cell_below hb2 (by go_simp)
      have hc2 : w2.cell? ⟨w.heap.size, 2, none⟩ = some (.slice a n c) := cell_below hb2 (by go_simp)
      have hz2 := hb2.size
      have hsz2 : w.heap.size + 1 < w2.heap.size := by simp at hz2; omega
      clear hz2
      have r0 : w2.cell? ⟨w.heap.size + 1, 0, none⟩ = some (.int .u8 0) := cell_below hb2 (by go_simp)
      have r1 : w2.cell? ⟨w.heap.size + 1, 1, none⟩ = some (.string nil8) := cell_below hb2 (by go_simp)
      have r2 : w2.cell? ⟨w.heap.size + 1, 2, none⟩ = some (.slice none 0 0) := cell_below hb2 (by go_simp)
      have f0 : w2.frozen? ⟨w.heap.size + 1, 0, none⟩ = false := (hb2.frozen (by simp)).trans (by go_simp)
      have f1 : w2.frozen? ⟨w.heap.size + 1, 1, none⟩ = false := (hb2.frozen (by simp)).trans (by go_simp)
      have f2 : w2.frozen? ⟨w.heap.size + 1, 2, none⟩ = false := (hb2.frozen (by simp)).trans (by go_simp)
      have HB : Aside (Below w.heap.size w w2) := ⟨below_to (by repeat (first | (with_reducible exact Below.refl _ _) | (with_reducible assumption) | refine below_alloc ?_ _ | refine Below.drew ?_ | refine below_drewN ?_ _)) hb2⟩
      clear hb2
      go_wp2_with fail
      refine bodyPost_ret (v := fv op nm a n c) (by simp [results, Tryz.results212, go_sem, r0, r1, r2]) rfl ?_
      exact RetX.at_ (w.heap.size + 1 + 1) ((HH.out.old.keep HB.out).mono fun b hb _ => .inl hb) HB.out (by omega) (by omega) _ _ _
    · have c2' : (op == q) = false := by simp [c2]
      by_cases c3 : op = 21 - q
      · have hn := hk c3
        have c3' : (op == 21 - q) = true := by simp [c3]
        obtain ⟨b, o, rfl, hbl, x, op1, nm1, a1, n1, d1, X', q0, q1, q2, hT1⟩ := hS.at_ 0 hn
        have hk0 := ith0 X' op nm
        have hxo : x.op = op1 := by obtain ⟨_, _, _, ks1, rfl, _⟩ := hT1.parts; rfl
        simp only [Nat.zero_mul, Nat.add_zero] at q0 q1 q2
        have hnl : (0 : Int) < (n : Int) := by omega
        by_cases c4 : op1 = q
        · have hE : (Fm.mk op nm ks).sAlways q = .mk op nm ks := by unfold Fm.sAlways; rw [if_pos (.inr (.inr ⟨c3, by rw [hk0, hxo]; exact c4⟩))]
          rw [hE]
          have c4' : (op1 == q) = true := by simp [c4]
          clear hE c1 hS hk c2 c3 c4 hk0 hxo hT1 X'
          go_enter Tryz.func212, Tryz.ntmps212
          go_wp2_with fail
          refine (HSU.out _).mono ?_
          rintro e w2 ⟨rfl, hb2⟩
          have hc0 : w2.cell? ⟨w.heap.size, 0, none⟩ = some (.int .u8 op) := cell_below hb2 (by go_simp)
          have hc1 : w2.cell? ⟨w.heap.size, 1, none⟩ = some (.string nm) := cell_below hb2 (by go_simp)
          have hc2 : w2.cell? ⟨w.heap.size, 2, none⟩ = some (.slice (some ⟨b, o, none⟩) n c) := cell_below hb2 (by go_simp)
          have hz2 := hb2.size
          have hsz2 : w.heap.size + 1 < w2.heap.size := by simp at hz2; omega
          clear hz2
          have r0 : w2.cell? ⟨w.heap.size + 1, 0, none⟩ = some (.int .u8 0) := cell_below hb2 (by go_simp)
          have r1 : w2.cell? ⟨w.heap.size + 1, 1, none⟩ = some (.string nil8) := cell_below hb2 (by go_simp)
          have r2 : w2.cell? ⟨w.heap.size + 1, 2, none⟩ = some (.slice none 0 0) := cell_below hb2 (by go_simp)
          have f0 : w2.frozen? ⟨w.heap.size + 1, 0, none⟩ = false := (hb2.frozen (by simp)).trans (by go_simp)
          have f1 : w2.frozen? ⟨w.heap.size + 1, 1, none⟩ = false := (hb2.frozen (by simp)).trans (by go_simp)
          have f2 : w2.frozen? ⟨w.heap.size + 1, 2, none⟩ = false := (hb2.frozen (by simp)).trans (by go_simp)
          have k0 : w2.cell? ⟨b, o, none⟩ = some (.int .u8 op1) := cell_below hb2 (by go_simp)
          have HB : Aside (Below w.heap.size w w2) := ⟨below_to (by repeat (first | (with_reducible exact Below.refl _ _) | (with_reducible assumption) | refine below_alloc ?_ _ | refine Below.drew ?_ | refine below_drewN ?_ _)) hb2⟩
          clear hb2
          go_wp2_with fail
          refine bodyPost_ret (v := fv op nm _ n c) (by simp [results, Tryz.results212, go_sem, r0, r1, r2]; rfl) rfl ?_
          exact RetX.at_ (w.heap.size + 1 + 1) ((HH.out.old.keep HB.out).mono fun b hb _ => .inl hb) HB.out (by omega) (by omega) _ _ _
        · have hE : (Fm.mk op nm ks).sAlways q = .mk q nil8 [.mk op nm ks] := by
            unfold Fm.sAlways
            rw [if_neg]
            rintro (h | h | ⟨_, h⟩)
            · rw [show (Fm.mk op nm ks).op = op from rfl, c1] at h; exact Bool.false_ne_true h
            · exact c2 h
            · rw [hk0, hxo] at h; exact c4 h
          rw [hE]
          have c4' : (op1 == q) = false := by simp [c4]
          clear hE c1 hS hk c2 c3 c4 hk0 hxo hT1 X'
          go_enter Tryz.func212, Tryz.ntmps212
          go_wp2_with fail
          refine (HSU.out _).mono ?_
          rintro e w2 ⟨rfl, hb2⟩
          have hc0 : w2.cell? ⟨w.heap.size, 0, none⟩ = some (.int .u8 op) := cell_below hb2 (by go_simp)
          have hc1 : w2.cell? ⟨w.heap.size, 1, none⟩ = some (.string nm) := cell_below hb2 (by go_simp)
          have hc2 : w2.cell? ⟨w.heap.size, 2, none⟩ = some (.slice (some ⟨b, o, none⟩) n c) := cell_below hb2 (by go_simp)
          have hz2 := hb2.size
          have hsz2 : w.heap.size + 1 < w2.heap.size := by simp at hz2; omega
          clear hz2
          have r0 : w2.cell? ⟨w.heap.size + 1, 0, none⟩ = some (.int .u8 0) := cell_below hb2 (by go_simp)
          have r1 : w2.cell? ⟨w.heap.size + 1, 1, none⟩ = some (.string nil8) := cell_below hb2 (by go_simp)
          have r2 : w2.cell? ⟨w.heap.size + 1, 2, none⟩ = some (.slice none 0 0) := cell_below hb2 (by go_simp)
          have f0 : w2.frozen? ⟨w.heap.size + 1, 0, none⟩ = false := (hb2.frozen (by simp)).trans (by go_simp)
          have f1 : w2.frozen? ⟨w.heap.size + 1, 1, none⟩ = false := (hb2.frozen (by simp)).trans (by go_simp)
          have f2 : w2.frozen? ⟨w.heap.size + 1, 2, none⟩ = false := (hb2.frozen (by simp)).trans (by go_simp)
          have k0 : w2.cell? ⟨b, o, none⟩ = some (.int .u8 op1) := cell_below hb2 (by go_simp)
          have HB : Aside (Below w.heap.size w w2) := ⟨below_to (by repeat (first | (with_reducible exact Below.refl _ _) | (with_reducible assumption) | refine below_alloc ?_ _ | refine Below.drew ?_ | refine below_drewN ?_ _)) hb2⟩
          clear hb2
          go_wp2_with fail
          refine (of_c _ _ _ _ _).mono ?_
          rintro e w3 ⟨rfl, hb3⟩
          have r0' : w3.cell? ⟨w.heap.size + 1, 0, none⟩ = some (.int .u8 0) := cell_below hb3 (by go_simp)
          have r1' : w3.cell? ⟨w.heap.size + 1, 1, none⟩ = some (.string nil8) := cell_below hb3 (by go_simp)
          have r2' : w3.cell? ⟨w.heap.size + 1, 2, none⟩ = some (.slice none 0 0) := cell_below hb3 (by go_simp)
          have f0' : w3.frozen? ⟨w.heap.size + 1, 0, none⟩ = false := (hb3.frozen (by simp; omega)).trans (by go_simp)
          have f1' : w3.frozen? ⟨w.heap.size + 1, 1, none⟩ = false := (hb3.frozen (by simp; omega)).trans (by go_simp)
          have f2' : w3.frozen? ⟨w.heap.size + 1, 2, none⟩ = false := (hb3.frozen (by simp; omega)).trans (by go_simp)
          have HT := Aside.mk (of1_after (q := q) (by omega) (by omega) HB.out hb3 HH.out)
          have HB3 : Aside (Below w.heap.size w w3) := ⟨below_to (below_alloc HB.out _) hb3⟩
          clear hb3
          go_wp2_with fail
          refine bodyPost_ret (v := fv q nil8 (some ⟨w2.heap.size, 0, none⟩) 1 1) (by simp [results, Tryz.results212, go_sem, r0', r1', r2']) rfl ?_
          exact RetX.at_ _ HT.out HB3.out (by omega) (by omega) _ _ _
      · have hE : (Fm.mk op nm ks).sAlways q = .mk q nil8 [.mk op nm ks] := by
          unfold Fm.sAlways
          rw [if_neg]
          rintro (h | h | ⟨h, _⟩)
          · rw [show (Fm.mk op nm ks).op = op from rfl, c1] at h; exact Bool.false_ne_true h
          · exact c2 h
          · exact c3 h
        rw [hE]
        have c3' : (op == 21 - q) = false := by simp [c3]
        clear hE c1 hS hk c2 c3
        go_enter Tryz.func212, Tryz.ntmps212
        go_wp2_with fail
        refine (HSU.out _).mono ?_
        rintro e w2 ⟨rfl, hb2⟩
        have hc0 : w2.cell? ⟨w.heap.size, 0, none⟩ = some (.int .u8 op) := cell_below hb2 (by go_simp)
        have hc1 : w2.cell? ⟨w.heap.size, 1, none⟩ = some (.string nm) := cell_below hb2 (by go_simp)
        have hc2 : w2.cell? ⟨w.heap.size, 2, none⟩ = some (.slice a n c) := cell_below hb2 (by go_simp)
        have hz2 := hb2.size
        have hsz2 : w.heap.size + 1 < w2.heap.size := by simp at hz2; omega
        clear hz2
        have r0 : w2.cell? ⟨w.heap.size + 1, 0, none⟩ = some (.int .u8 0) := cell_below hb2 (by go_simp)
        have r1 : w2.cell? ⟨w.heap.size + 1, 1, none⟩ = some (.string nil8) := cell_below hb2 (by go_simp)
        have r2 : w2.cell? ⟨w.heap.size + 1, 2, none⟩ = some (.slice none 0 0) := cell_below hb2 (by go_simp)
        have f0 : w2.frozen? ⟨w.heap.size + 1, 0, none⟩ = false := (hb2.frozen (by simp)).trans (by go_simp)
        have f1 : w2.frozen? ⟨w.heap.size + 1, 1, none⟩ = false := (hb2.frozen (by simp)).trans (by go_simp)
        have f2 : w2.frozen? ⟨w.heap.size + 1, 2, none⟩ = false := (hb2.frozen (by simp)).trans (by go_simp)
        have HB : Aside (Below w.heap.size w w2) := ⟨below_to (by repeat (first | (with_reducible exact Below.refl _ _) | (with_reducible assumption) | refine below_alloc ?_ _ | refine Below.drew ?_ | refine below_drewN ?_ _)) hb2⟩
        clear hb2
        go_wp2_with fail
        refine (of_c _ _ _ _ _).mono ?_
        rintro e w3 ⟨rfl, hb3⟩
        have r0' : w3.cell? ⟨w.heap.size + 1, 0, none⟩ = some (.int .u8 0) := cell_below hb3 (by go_simp)
        have r1' : w3.cell? ⟨w.heap.size + 1, 1, none⟩ = some (.string nil8) := cell_below hb3 (by go_simp)
        have r2' : w3.cell? ⟨w.heap.size + 1, 2, none⟩ = some (.slice none 0 0) := cell_below hb3 (by go_simp)
        have f0' : w3.frozen? ⟨w.heap.size + 1, 0, none⟩ = false := (hb3.frozen (by simp; omega)).trans (by go_simp)
        have f1' : w3.frozen? ⟨w.heap.size + 1, 1, none⟩ = false := (hb3.frozen (by simp; omega)).trans (by go_simp)
        have f2' : w3.frozen? ⟨w.heap.size + 1, 2, none⟩ = false := (hb3.frozen (by simp; omega)).trans (by go_simp)
        have HT := Aside.mk (of1_after (q := q) (by omega) (by omega) HB.out hb3 HH.out)
        have HB3 : Aside (Below w.heap.size w w3) := ⟨below_to (below_alloc HB.out _) hb3⟩
        clear hb3
        go_wp2_with fail
        refine bodyPost_ret (v := fv q nil8 (some ⟨w2.heap.size, 0, none⟩) 1 1) (by simp [results, Tryz.results212, go_sem, r0', r1', r2']) rfl ?_
        exact RetX.at_ _ HT.out HB3.out (by omega) (by omega) _ _ _
end Go.Proofs.YtmmakkaolknbaaaGreatDoor
