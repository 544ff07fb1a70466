/- What reads as a formula is a tree in memory; the table of kids lies as it is listed. -/
import Derived.Test.YtmmakkaolknbaaaGreatDoorAgain
import Derived.Test.YtmmakkaolknbaaaGreatDoorRows
import Derived.ProofKit
import Derived.LaidMore
import Derived.OpenShut
import Derived.Stop.Joined
import Derived.SizedLaws
import Derived.Lib.LaidTab
namespace Go.Proofs.YtmmakkaolknbaaaGreatDoor
set_option linter.unusedVariables false
set_option linter.unusedSimpArgs false
open Go.RowKit Go.Shelf

/-- Pieces, one by one, make a list. -/
theorem build_list {P : Nat → Fm → Prop} : ∀ n, (∀ i, i < n → ∃ f, P i f) → ∃ ks : List Fm, ks.length = n ∧ ∀ (i : Nat) (h : i < ks.length), P i ks[i]
  | 0, _ => ⟨[], rfl, fun i h => absurd h (by simp)⟩
  | n + 1, h => by
    obtain ⟨ks, hl, hk⟩ := build_list n fun i hi => h i (by omega)
    obtain ⟨f, hf⟩ := h n (by omega)
    refine ⟨ks ++ [f], by simp [hl], fun i hi => ?_⟩
    simp only [List.length_append, List.length_cons, List.length_nil] at hi
    by_cases e : i < ks.length
    · rw [List.getElem_append_left e]; exact hk i e
    · obtain rfl : i = n := by omega
      rw [List.getElem_append_right (by omega)]
      simp [hl, hf]
theorem weightsAll_mem {H : Type} {P : Program} {e : TypeId} {d : DataW H} : ∀ {l : List (DataW H)}, d ∈ l → ∀ n ∈ d.weights P e, n ∈ DataW.weightsAll P e l
  | x :: l, h, n, hn => by
    simp only [DataW.weightsAll, List.mem_append]
    rcases List.mem_cons.1 h with rfl | h
    · exact .inl hn
    · exact .inr (weightsAll_mem h n hn)
theorem fields25 : ∃ f0 f1 f2 : Field, Tryz.prog.underlying 25 = some (.struct #[f0, f1, f2]) ∧ (f0.type = 22 ∧ f0.offset = 0) ∧ (f1.type = 9 ∧ f1.offset = 1) ∧ (f2.type = 23 ∧ f2.offset = 2) := ⟨_, _, _, Tryz.underlying25, ⟨rfl, rfl⟩, ⟨rfl, rfl⟩, ⟨rfl, rfl⟩⟩
theorem cells25 : Tryz.prog.cellsOf 25 = 3 ∧ Tryz.prog.cellsOf 22 = 1 ∧ Tryz.prog.cellsOf 9 = 1 ∧ Tryz.prog.cellsOf 23 = 1 := ⟨by kernel_rfl, by kernel_rfl, by kernel_rfl, by kernel_rfl⟩

def Opened (w : World) (cs : List Value) (f : Fm) : Prop := ∃ op nm a n c, cs = [.int .u8 op, .string nm, .slice a n c] ∧ IsT w op nm a n c f ∧ f.NmB
set_option maxRecDepth 100000 in
set_option maxHeartbeats 1000000 in
/-- Whatever reads as a formula, its strings no longer than what can be read. -/
theorem open_fm {H : Type} {enc : TypeId × Value → H} {w : World} {sp : Nat → Bool} {hd : Bool} : ∀ (fuel : Nat) (cs : List Value) (x : DataW H × List MemPlace), DataW.trod enc Tryz.prog w 0 sp hd fuel 25 cs = some x →
    (∀ n ∈ x.1.weights Tryz.prog 25, n ≤ reachBytes) → ∃ f, Opened w cs f := by
  intro fuel
  induction fuel using Nat.strongRecOn with
  | _ fuel ih =>
    intro cs x h hwt
    obtain ⟨f0, f1, f2, hs, ⟨t0, o0⟩, ⟨t1, o1⟩, ⟨t2, o2⟩⟩ := fields25
    obtain ⟨c25, cOp, cS, cK⟩ := cells25
    obtain ⟨xs, m, hfu, hx, hl, hlen, hf⟩ := DataW.trod_struct hs h
    subst hfu
    subst hx
    rw [c25] at hl
    match xs, hlen, cs, hl with
    | [y0, y1, y2], _, [v0, v1, v2], _ =>
      have g0 := hf 0 f0 rfl
      have g1 := hf 1 f1 rfl
      have g2 := hf 2 f2 rfl
      simp [o0, o1, o2, t0, t1, t2, cOp, cS, cK] at g0 g1 g2
      obtain ⟨k, hv0, rfl, wk⟩ := DataW.trod_int Tryz.underlying22 g0
      obtain ⟨s, hv1, rfl, ws⟩ := DataW.trod_string Tryz.underlying9 g1
      obtain rfl : v0 = .int .u8 k := by simpa using hv0
      obtain rfl : v1 = .string s := by simpa using hv1
      have hk : 0 ≤ k ∧ k ≤ 255 := by
        simp [Lit.wf, IntKind.min, IntKind.max, IntKind.signed, IntKind.bits] at wk
        omega
      have hwt' : (s.data.toList.length ≤ reachBytes) ∧ ∀ n ∈ y2.1.weights Tryz.prog 23, n ≤ reachBytes := by
        simp only [DataW.weights, hs, List.map_cons, List.map_nil, DataW.weightsEach, t0, t1, t2, List.mem_append] at hwt
        exact ⟨hwt _ (.inr (.inl (by simp))), fun n hn => hwt n (.inr (.inr (.inl hn)))⟩
      have hsz : s.size ≤ 140737488351232 := by
        have e : s.size = s.data.toList.length := by rw [Array.length_toList]; rfl
        have := hwt'.1
        unfold reachBytes at this
        omega
      have hmx : s.size ≤ 9223372036854775807 := by omega
      rcases DataW.trod_slice Tryz.underlying23 g2 with ⟨hv2, hy2⟩ | ⟨ad, len, cap, elems, rest, m', hm', hv2, hy2, hb, hlc, hcm, hel, heach, _⟩
      · obtain rfl : v2 = .slice none 0 0 := by simpa using hv2
        exact ⟨.mk k s [], k, s, none, 0, 0, rfl, .leaf _ _ _ _ hk.1 hk.2 hmx (by omega), .mk_ _ _ _ hsz (by simp)⟩
      · obtain rfl : v2 = .slice (some ad) len cap := by simpa using hv2
        have hcap : cap ≤ 9223372036854775807 := by simpa [maxLen] using hcm
        have hone : ∀ i, i < len → ∃ f, ∃ op nm a n c, w.cell? ((ad.add (i * 3)).add 0) = some (.int .u8 op) ∧ w.cell? ((ad.add (i * 3)).add 1) = some (.string nm) ∧ w.cell? ((ad.add (i * 3)).add 2) = some (.slice a n c) ∧ IsT w op nm a n c f ∧ f.NmB := by
          intro i hi
          have h1 := heach i hi
          rw [c25] at h1
          obtain ⟨y, hy⟩ : ∃ y, elems[i]? = some y := ⟨_, List.getElem?_eq_getElem (by omega)⟩
          rw [hy] at h1
          obtain ⟨cs', hcs, htr⟩ := Option.bind_eq_some_iff.1 h1
          obtain ⟨_, _, hcell⟩ := World.cells?_some hcs
          obtain ⟨f, op, nm, a, n, c, rfl, hT, hN⟩ := ih m' (by omega) cs' y htr (fun n hn => hwt'.2 n (by
            rw [hy2]
            simp only [DataW.weights, Tryz.underlying23, List.mem_cons, List.mem_append]
            exact .inr (.inl (weightsAll_mem (List.mem_map.2 ⟨y, List.mem_of_getElem? hy, rfl⟩) n hn))))
          have q0 := hcell 0 (by omega)
          have q1 := hcell 1 (by omega)
          have q2 := hcell 2 (by omega)
          exact ⟨f, op, nm, a, n, c, q0, q1, q2, hT, hN⟩
        obtain ⟨ks, hkl, hks⟩ := build_list len hone
        have hNB : (Fm.mk k s ks).NmB := .mk_ _ _ _ hsz fun x hx => by
          obtain ⟨i, hi, rfl⟩ := List.getElem_of_mem hx
          obtain ⟨_, _, _, _, _, _, _, _, _, h⟩ := hks i hi
          exact h
        rcases Nat.eq_zero_or_pos len with e | e
        · subst e
          obtain rfl : ks = [] := List.eq_nil_of_length_eq_zero hkl
          exact ⟨.mk k s [], k, s, some ad, 0, cap, rfl, .leaf _ _ _ _ hk.1 hk.2 hmx hcap, hNB⟩
        · obtain ⟨_, _, _, _, _, h0, _⟩ := hks 0 (by omega)
          obtain ⟨b, off, spot⟩ := ad
          have hspot : spot = none := by simpa [Addr.add] using World.cell?_spot h0
          subst hspot
          subst hkl
          refine ⟨.mk k s ks, k, s, some ⟨b, off, none⟩, ks.length, cap, rfl, .mk_ hk.1 hk.2 hmx hcap hlc e trivial fun i hi => ?_, hNB⟩
          obtain ⟨op, nm, a, n, c, q0, q1, q2, hT, _⟩ := hks i hi
          rw [Go.WideShapes.add_plain, Go.WideShapes.add_plain] at q0 q1 q2
          exact ⟨op, nm, a, n, c, q0, q1, q2, hT⟩
end Go.Proofs.YtmmakkaolknbaaaGreatDoor
