/- Contracts: nnf.joined. -/
import Derived.Test.YtmmakkaolknbaaaGreatDoorSimpB
import Derived.Test.YtmmakkaolknbaaaGreatDoorReg
namespace Go.Proofs.YtmmakkaolknbaaaGreatDoor
set_option linter.unusedVariables false
set_option linter.unusedSimpArgs false
open Go.RowKit Go.Shelf

abbrev Cn := Nat × Nat
abbrev cv (x : Cn) : Value := .agg #[.int .i64 x.1, .int .i64 x.2]
def stopN : Nat := 1048576
def jn1 (c x : Cn) : Cn := (min (c.1 + x.1) 1048576, max c.2 x.2)
def jn0 (l : List Cn) : Cn := l.foldl jn1 (1, 0)
def jn (l : List Cn) : Cn := ((jn0 l).1, min ((jn0 l).2 + 1) 1048576)
def Cn.ok (c : Cn) : Prop := c.1 ≤ 1048576 ∧ c.2 ≤ 1048576
theorem jn0_ok {l : List Cn} (h : ∀ c ∈ l, Cn.ok c) : Cn.ok (jn0 l) := by
  have : ∀ (l : List Cn) (c : Cn), Cn.ok c → (∀ c ∈ l, Cn.ok c) → Cn.ok (l.foldl jn1 c) := by
    intro l
    induction l with
    | nil => intro c h _; exact h
    | cons x l ih =>
      intro c h hl
      refine ih _ ?_ fun y hy => hl y (List.mem_cons_of_mem _ hy)
      have := hl x (by simp)
      simp only [Cn.ok, jn1] at *
      omega
  exact this l (1, 0) ⟨by omega, by omega⟩ h
theorem jn_ok {l : List Cn} (h : ∀ c ∈ l, Cn.ok c) : Cn.ok (jn l) := ⟨(jn0_ok h).1, by simp only [jn]; omega⟩
theorem jn0_take (l : List Cn) (k : Nat) (h : k < l.length) : jn0 (l.take (k + 1)) = jn1 (jn0 (l.take k)) l[k] := by
  unfold jn0
  rw [List.take_succ_eq_append_getElem h, List.foldl_append]
  rfl

/-- A slice of counts. -/
def IsC (W : World) (a : Option Addr) (n : Nat) (l : List Cn) : Prop :=
  n = l.length ∧ n ≤ 9223372036854775807 ∧ (0 < n → ∃ b o, a = some ⟨b, o, none⟩ ∧ ∀ (i : Nat) (h : i < l.length), W.cell? ⟨b, o + i * 2, none⟩ = some (.int .i64 (l[i].1 : Int)) ∧ W.cell? ⟨b, o + i * 2 + 1, none⟩ = some (.int .i64 (l[i].2 : Int)))
theorem IsC.keep {W W' : World} {a : Option Addr} {n : Nat} {l : List Cn} (h : IsC W a n l) (hb : Below W.heap.size W W') : IsC W' a n l :=
  ⟨h.1, h.2.1, fun hp => by
    obtain ⟨b, o, e, hc⟩ := h.2.2 hp
    exact ⟨b, o, e, fun i hi => ⟨cell_below hb (hc i hi).1, cell_below hb (hc i hi).2⟩⟩⟩

set_option maxRecDepth 100000 in
set_option maxHeartbeats 2000000 in
theorem joined_c (l : List Cn) (hl : ∀ c ∈ l, Cn.ok c) (a : Option Addr) (n c : Nat) (w : World) (hS : IsC w a n l) :
    Calls Tryz.prog 222 #[.slice a n c] w fun e w' => e = .returned (cv (jn l)) ∧ Below w.heap.size w w' := by
  have hn1 := hS.2.1
  have HS := Aside.mk hS
  have HN := Aside.mk hS.1
  have HL := Aside.mk hl
  have HJ : Aside (jn l = ((jn0 l).1, min ((jn0 l).2 + 1) 1048576)) := ⟨rfl⟩
  generalize jn l = J at HJ ⊢
  clear hS hl
  go_enter Tryz.func222, Tryz.ntmps222
  go_wp2_with fail
  go_loopg [9] n (fun gg s9 wr => ∃ k : Nat, k ≤ n ∧ n - k ≤ gg ∧ s9 = .int .i64 k ∧ Aside (Below w.heap.size w wr) ∧ wr.cell? ⟨w.heap.size, 0, none⟩ = some (.int .i64 0) ∧ wr.cell? ⟨w.heap.size, 1, none⟩ = some (.int .i64 0)
    ∧ wr.frozen? ⟨w.heap.size, 0, none⟩ = false ∧ wr.frozen? ⟨w.heap.size, 1, none⟩ = false ∧ wr.frozen? ⟨w.heap.size + 1, 0, none⟩ = false ∧ wr.frozen? ⟨w.heap.size + 1, 1, none⟩ = false
    ∧ ∃ x y : Nat, wr.cell? ⟨w.heap.size + 1, 0, none⟩ = some (.int .i64 x) ∧ wr.cell? ⟨w.heap.size + 1, 1, none⟩ = some (.int .i64 y) ∧ Aside (jn0 (l.take k) = (x, y)))
  case atStart => exact ⟨0, Nat.zero_le _, by omega, rfl, ⟨(by repeat (first | (with_reducible exact Below.refl _ _) | (with_reducible assumption) | refine below_alloc ?_ _ | refine Below.drew ?_ | refine below_drewN ?_ _))⟩, by go_simp, by go_simp, by go_simp, by go_simp, by go_simp, by go_simp, 1, 0, by go_simp, by go_simp, ⟨rfl⟩⟩
  case round =>
    obtain ⟨k, hk, hg, rfl, HB, r0, r1, f0, f1, f2, f3, x, y, c0, c1, HX⟩ := hrel
    have hxy : x ≤ 1048576 ∧ y ≤ 1048576 := by
      have := jn0_ok (l := l.take k) fun c hc => HL.out c (List.mem_of_mem_take hc)
      rw [HX.out] at this
      exact this
    have hb1 : w.heap.size + 1 < wr.heap.size := World.block_lt_of_cell? wr _ c0
    have hb0 : w.heap.size < wr.heap.size := by omega
    by_cases hlt : k < n
    · have hlti : (k : Int) < (n : Int) := by omega
      obtain ⟨b, o, rfl, hc⟩ := (HS.out.keep HB.out).2.2 (by omega)
      obtain ⟨q0, q1⟩ := hc k (by have := HN.out; omega)
      have hbl : b < wr.heap.size := World.block_lt_of_cell? wr _ q0
      have hok := HL.out _ (List.getElem_mem (show k < l.length by have := HN.out; omega))
      have HT : Aside (jn0 (l.take (k + 1)) = jn1 (x, y) (l[k]'(by have := HN.out; omega))) := ⟨by rw [jn0_take l k (by have := HN.out; omega), HX.out]⟩
      generalize l[k]'(by have := HN.out; omega) = z at q0 q1 hok HT
      obtain ⟨z1, z2⟩ := z
      obtain ⟨hz1, hz2⟩ := hok
      simp only at q0 q1 hz1 hz2
      clear hc
      go_wp2_with fail
      all_goals
        go_roundg (n - (k + 1))
        case measure => omega
        case rel =>
          refine ⟨k + 1, by omega, by omega, by go_num, ⟨below_alloc ((HB.out.setCell (p := ⟨w.heap.size + 1, 0, none⟩) (by simp) _).setCell (p := ⟨w.heap.size + 1, 1, none⟩) (by simp) _) _⟩, by go_simp, by go_simp, by go_simp, by go_simp, by go_simp, by go_simp, min (x + z1) 1048576, max y z2, ?_, ?_, HT⟩
          · go_simp; try omega
          · go_simp; try omega
    · have hlti : ¬ (k : Int) < (n : Int) := by omega
      have hT : l.take k = l := List.take_of_length_le (by have := HN.out; omega)
      have HJ2 : Aside (J = (x, min (y + 1) 1048576)) := ⟨by have := HX.out; rw [hT] at this; rw [HJ.out, this]⟩
      clear hT HJ
      go_wp2_with fail
      all_goals
        refine bodyPost_ret (v := cv (x, min (y + 1) 1048576)) ?_ rfl ?_
        · simp [results, Tryz.results222, go_sem, r0, r1]; try omega
        · exact ⟨by rw [HJ2.out], ((HB.out.setCell (p := ⟨w.heap.size + 1, 1, none⟩) (by simp) _).setCell (p := ⟨w.heap.size, 0, none⟩) (by simp) _).setCell (p := ⟨w.heap.size, 1, none⟩) (by simp) _⟩
end Go.Proofs.YtmmakkaolknbaaaGreatDoor
