/- Contract of nnf.simple: the walk. -/
import Derived.Test.YtmmakkaolknbaaaGreatDoorSimple
namespace Go.Proofs.YtmmakkaolknbaaaGreatDoor
set_option linter.unusedVariables false
set_option linter.unusedSimpArgs false
open Go.RowKit Go.Shelf

theorem szRule : (Tryz.prog.types[175]'(of_decide_eq_true (by kernel_rfl))).size = 1 := by kernel_rfl
abbrev simpW (w : World) (op : Int) (nm : ByteArray) (a : Option Addr) (n c : Nat) : World := (w.alloc (.cells #[.int .u8 op, .string nm, .slice a n c] 25)).alloc (.cells #[.int .u8 0, .string nil8, .slice none 0 0] 25)
theorem simpW_below (w : World) (op : Int) (nm : ByteArray) (a : Option Addr) (n c : Nat) : Below w.heap.size w (simpW w op nm a n c) := (by repeat (first | (with_reducible exact Below.refl _ _) | (with_reducible assumption) | refine below_alloc ?_ _ | refine Below.drew ?_ | refine below_drewN ?_ _))

set_option maxRecDepth 100000 in
set_option maxHeartbeats 2000000 in
theorem simple1_c (f : Fm) : ∀ (X : Nat → Prop) (op : Int) (nm : ByteArray) (a : Option Addr) (n c : Nat) (w : World), IsTX X w op nm a n c f → f.Wf → 
    Calls Tryz.prog 73 #[fv op nm a n c] w (RetX X f.simple w) := by
  induction f using Fm.ind_ with | h o_ n_ ks ih
  intro X op nm a n c w h hW
  obtain ⟨h0, h1, h2, ks_, e, hS⟩ := h.parts
  obtain ⟨rfl, rfl, rfl⟩ : op = o_ ∧ nm = n_ ∧ ks = ks_ := by cases e; exact ⟨rfl, rfl, rfl⟩
  clear e
  have hn1 : n ≤ 9223372036854775807 := Nat.le_trans hS.2.1 hS.2.2.1
  by_cases hz : n = 0
  · obtain rfl : ks = [] := List.eq_nil_of_length_eq_zero (by have := hS.1; omega)
    have hE : (Fm.mk op nm []).simple = .mk op nm [] := by simp [Fm.simple]
    rw [hE]
    subst hz
    clear hE ih h hW hS
    go_enter Tryz.func73, Tryz.ntmps73
    go_wp2_with fail
    refine bodyPost_ret (v := fv op nm none 0 0) (by simp [results, Tryz.results73, go_sem]) rfl ?_
    refine RetX.leaf h0 h1 h2 (by omega) ?_
    exact (by repeat (first | (with_reducible exact Below.refl _ _) | (with_reducible assumption) | refine below_alloc ?_ _ | refine Below.drew ?_ | refine below_drewN ?_ _))
  · have hnz : ((n : Int) == 0) = false := by simp; omega
    have hln : n = ks.length := hS.1
    have hle := hW.len
    have hw : 4 ≤ op ∧ op ≤ 15 := by
      have h := hW.op_
      refine ⟨?_, h.2⟩
      have hk := hW.len
      rcases (show op = 1 ∨ op = 2 ∨ op = 3 ∨ 4 ≤ op by have := h.1; simp only [Fm.op] at this; omega) with e | e | e | e
      all_goals first | exact e | (exfalso; simp only [Fm.op, Fm.ks, e] at hk; simp [kidsOf, kidsTab] at hk; simp [hk] at hln; omega)
    have hE : (Fm.mk op nm ks).simple = ruleL op (ks.map Fm.simple) := by
      have : ks.isEmpty = false := by cases ks with | nil => simp at hln; omega | cons _ _ => rfl
      simp [Fm.simple, this, simpleL_map]
    rw [hE]
    have hl2 : n ≤ 2 := by have := kidsOf_range op; simp only [Fm.op, Fm.ks] at hle; omega
    have HR := Aside.mk (fun (Y : Nat → Prop) (a : Option Addr) (c : Nat) (W : World) (hS : IsSX Y W a n c (ks.map Fm.simple)) => rule_c op hw.1 hw.2 (ks.map Fm.simple) (by rw [List.length_map]; exact hle) (fun k hk => by
      obtain ⟨x, hx, rfl⟩ := List.mem_map.1 hk
      exact (wfSimple x (hW.kid x hx)).ar) a n c W hS)
    have IH := Aside.mk (fun x hx => ih x hx)
    have HK := Aside.mk (fun x (hx : x ∈ ks) => hW.kid x hx)
    have HS := Aside.mk (hS.mono (Y := fun b => X b ∧ b < w.heap.size) fun b h1 h2 => ⟨h1, h2⟩)
    have HN : Aside (n = ks.length) := ⟨hln⟩
    have hb0 := rule_enters op hw.1 hw.2
    clear hE ih h hW hS hle hln
    go_enter Tryz.func73, Tryz.ntmps73
    go_wp2_with fail
    go_loopg [3, 18] n (fun gg s3 s18 wr => ∃ k : Nat, k ≤ n ∧ n - k ≤ gg ∧ s18 = .int .i64 k ∧ Aside (Below (w.heap.size + 2) (simpW w op nm a n c) wr) ∧ Aside (OwnT (fun b => (X b ∧ b < w.heap.size) ∨ w.heap.size + 2 ≤ b) (w.heap.size + 2) wr s3 ((ks.take k).map Fm.simple)))
    case atStart => 
      refine ⟨0, Nat.zero_le _, by omega, rfl, ⟨Below.refl _ _⟩, ⟨OwnT.nil _ _ _⟩⟩
    case round =>
      obtain ⟨k, hk, hg, rfl, HQ, HO⟩ := hrel
      have HB : Aside (Below w.heap.size w wr) := ⟨(simpW_below w op nm a n c).trans (HQ.out.mono (by omega))⟩
      have HZ : Aside (w.heap.size + 2 ≤ wr.heap.size) := ⟨by have := HQ.out.size; simpa using this⟩
      by_cases hlt : k < n
      · have hlti : (k : Int) < (n : Int) := by omega
        obtain ⟨b, o, rfl, hbl, x, op1, nm1, a1, n1, c1, X1, q0, q1, q2, hT1⟩ := (IsSX.keep HB.out HS.out).at_ k hlt
        have HC := Aside.mk (fun W hW => IH.out x X1.mem _ op1 nm1 a1 n1 c1 W (IsTX.keep (w := wr) hW hT1) (HK.out x X1.mem))
        have HX := Aside.mk X1
        clear hT1 X1
        have hop : wr.cell? ⟨w.heap.size, 2, none⟩ = some (.slice (some ⟨b, o, none⟩) n c) := (HQ.out.cell (p := ⟨w.heap.size, 2, none⟩) (by simp)).trans (by simp [simpW])
        go_wp2_with fail
        refine (HC.out _ (by repeat (first | (with_reducible exact Below.refl _ _) | (with_reducible assumption) | refine below_alloc ?_ _ | refine Below.drew ?_ | refine below_drewN ?_ _))).mono ?_
        rintro e w2 ⟨o2, n2, a2, l2, d2, rfl, hT2, hb2⟩
        have HQ2 : Aside (Below wr.heap.size wr w2) := ⟨below_to (by repeat (first | (with_reducible exact Below.refl _ _) | (with_reducible assumption) | refine below_alloc ?_ _ | refine Below.drew ?_ | refine below_drewN ?_ _)) hb2⟩
        have HT2 := Aside.mk hT2
        clear hb2 hT2 HC
        go_wp2_with (at_builtin; refine Aside.out ?_)
        refine ⟨?_⟩
        refine append_tree (X := fun b => (X b ∧ b < w.heap.size) ∨ w.heap.size + 2 ≤ b) (w0 := simpW w op nm (some ⟨b, o, none⟩) n c) (W := w2) (w.heap.size + 2) (w.heap.size + 2) rfl _ _ rfl u3 ((ks.take k).map Fm.simple) x.simple o2 n2 a2 l2 d2 rfl rfl ?g1 ?g2 ?g3 (Nat.le_refl _) ?g4 ?g5 ?_
        case g1 => exact HO.out.keep HQ2.out
        case g2 =>
          refine HT2.out.mono fun b hb hl => ?_
          have hlt := HO.out.lt
          have hz := HZ.out
          rcases hb with hb | hb
          · exact ⟨.inl hb, fun e => by have := hlt _ e; omega⟩
          · have hb' : wr.heap.size + 1 ≤ b := by simpa using hb
            exact ⟨.inr (by omega), fun e => by have := hlt _ e; omega⟩
        case g3 => exact HQ.out.trans (HQ2.out.mono HZ.out)
        case g4 => have := HQ2.out.size; have := HZ.out; omega
        case g5 => simp; omega
        intro v' W' hO' hB' hs' hv'
        have HO' := Aside.mk hO'
        have HB' := Aside.mk hB'
        clear hO' hB' hs' hv'
        go_wp2_with fail
        go_roundg (n - (k + 1))
        case measure => omega
        case rel => exact ⟨k + 1, by omega, by omega, by go_num, HB', ⟨by rw [HX.out.take, List.map_append]; exact HO'.out⟩⟩
      · have hlti : ¬ (k : Int) < (n : Int) := by omega
        obtain rfl : k = n := by omega
        have hT : ks.take k = ks := List.take_of_length_le (by have := HN.out; omega)
        rw [hT] at HO
        obtain ⟨sa, sc, rfl, hSS⟩ := HO.out.slice
        have hlen : (ks.map Fm.simple).length = k := by rw [List.length_map]; exact HN.out.symm
        rw [hlen] at hSS ⊢
        have HSS := Aside.mk hSS
        have hop : wr.cell? ⟨w.heap.size, 0, none⟩ = some (.int .u8 op) := (HQ.out.cell (p := ⟨w.heap.size, 0, none⟩) (by simp)).trans (by simp [simpW])
        have hbs : w.heap.size + 1 < wr.heap.size := by have := HZ.out; omega
        clear hSS hT hlen HO
        go_wp2_with fail
        refine wp_region_mono 6 (by kernel_rfl) (by kernel_rfl) [fun v _ => v = rulesV, fun v _ => v = .pointer (some ⟨w.heap.size, 0, none⟩), fun v _ => v = .int .u8 op, fun v _ => v = fnV (ruleFn op), fun v _ => v = .slice sa k sc, fun v W => ∃ o2 n2 a2 l2 d2, v = fv o2 n2 a2 l2 d2 ∧ IsTX (fun b => (X b ∧ b < w.heap.size) ∨ w.heap.size + 2 ≤ b) W o2 n2 a2 l2 d2 (ruleL op (ks.map Fm.simple))]
          ⟨stable_eq _, stable_eq _, stable_eq _, stable_eq _, stable_eq _, ?_, trivial⟩ ?_ ?_
        · rintro v W W' ⟨o2, n2, a2, l2, d2, e, h⟩ hb
          exact ⟨o2, n2, a2, l2, d2, e, h.keep hb⟩
        · simp only [List.take_succ_cons, List.take_zero]
          refine steps_cons ?_ (steps_cons ?_ (steps_cons ?_ (steps_cons ?_ (steps_cons ?_ (steps_cons ?_ steps_nil)))))
          all_goals intro vals W hW hv; try simp only [Act.put, List.setIfInBounds_toArray, List.set_cons_zero, List.set_cons_succ]
          · go_wp2_with fail
            refine (rules_c W).mono ?_
            rintro e w' ⟨rfl, hb⟩
            go_wp2_with fail
            exact ⟨rfl, _, rfl, hb, rfl⟩
          · go_wp2_with fail
            exact ⟨rfl, _, rfl, (by repeat (first | (with_reducible exact Below.refl _ _) | (with_reducible assumption) | refine below_alloc ?_ _ | refine Below.drew ?_ | refine below_drewN ?_ _)), rfl⟩
          · have e1 : vals 1 = _ := hv ⟨1, .data⟩ (by simp) rfl
            simp only [e1]
            have hopW := cell_below hW hop
            go_wp2_with fail
            exact ⟨rfl, _, rfl, (by repeat (first | (with_reducible exact Below.refl _ _) | (with_reducible assumption) | refine below_alloc ?_ _ | refine Below.drew ?_ | refine below_drewN ?_ _)), rfl⟩
          · have e0 : vals 0 = _ := hv ⟨0, .data⟩ (by simp) rfl
            have e2 : vals 2 = _ := hv ⟨2, .data⟩ (by simp) rfl
            simp only [e0, e2]
            clear HR hb0 IH
            have hsz := szRule
            obtain ⟨hw0, hw1⟩ := hw
            rcases (show op = 4 ∨ op = 5 ∨ op = 6 ∨ op = 7 ∨ op = 8 ∨ op = 9 ∨ op = 10 ∨ op = 11 ∨ op = 12 ∨ op = 13 ∨ op = 14 ∨ op = 15 by omega) with rfl | rfl | rfl | rfl | rfl | rfl | rfl | rfl | rfl | rfl | rfl | rfl
            all_goals
              go_wp2_with fail
              rename_i hK
              refine hK _ _ ?_
              exact ⟨rfl, _, rfl, (by repeat (first | (with_reducible exact Below.refl _ _) | (with_reducible assumption) | refine below_alloc ?_ _ | refine Below.drew ?_ | refine below_drewN ?_ _)), by show _ = _; rfl⟩
          · go_wp2_with fail
            exact ⟨rfl, _, rfl, (by repeat (first | (with_reducible exact Below.refl _ _) | (with_reducible assumption) | refine below_alloc ?_ _ | refine Below.drew ?_ | refine below_drewN ?_ _)), rfl⟩
          · have e3 : vals 3 = _ := hv ⟨3, .data⟩ (by simp) rfl
            have e4 : vals 4 = _ := hv ⟨4, .data⟩ (by simp) rfl
            simp only [e3, e4]
            go_wp2_with fail
            refine (HR.out _ _ _ _ (IsSX.keep hW HSS.out)).mono ?_
            rintro e w' ⟨o2, n2, a2, l2, d2, rfl, hT2, hb⟩
            have HT2 := Aside.mk hT2
            clear hT2
            go_wp2_with fail
            refine ⟨rfl, _, rfl, hb, o2, n2, a2, l2, d2, rfl, HT2.out.mono fun b hb2 _ => ?_⟩
            have := hW.size
            have := HZ.out
            rcases hb2 with (hb2 | hb2) | hb2
            · exact hb2
            · exact .inr hb2
            · exact .inr (by omega)
        · intro vals W hW hv
          obtain ⟨o2, n2, a2, l2, d2, e5, hT2⟩ := hv 5 (by omega)
          have HT2 := Aside.mk hT2
          have HQW : Aside (Below (w.heap.size + 2) (simpW w op nm a k c) W) := ⟨HQ.out.trans (hW.mono HZ.out)⟩
          have r0 : W.cell? ⟨w.heap.size + 1, 0, none⟩ = some (.int .u8 0) := (HQW.out.cell (p := ⟨w.heap.size + 1, 0, none⟩) (by simp)).trans (by simp [simpW])
          have r1 : W.cell? ⟨w.heap.size + 1, 1, none⟩ = some (.string nil8) := (HQW.out.cell (p := ⟨w.heap.size + 1, 1, none⟩) (by simp)).trans (by simp [simpW])
          have r2 : W.cell? ⟨w.heap.size + 1, 2, none⟩ = some (.slice none 0 0) := (HQW.out.cell (p := ⟨w.heap.size + 1, 2, none⟩) (by simp)).trans (by simp [simpW])
          have f0 : W.frozen? ⟨w.heap.size + 1, 0, none⟩ = false := (HQW.out.frozen (by simp)).trans (by simp [simpW])
          have f1 : W.frozen? ⟨w.heap.size + 1, 1, none⟩ = false := (HQW.out.frozen (by simp)).trans (by simp [simpW])
          have f2 : W.frozen? ⟨w.heap.size + 1, 2, none⟩ = false := (HQW.out.frozen (by simp)).trans (by simp [simpW])
          simp only [List.take_succ_cons, List.take_zero, List.drop_succ_cons, List.drop_zero, lexL, Act.put, List.setIfInBounds_toArray, List.set_cons_zero, List.set_cons_succ, e5]
          clear hv hT2 HR IH hb0
          go_wp2_with fail
          refine bodyPost_ret (v := fv o2 n2 a2 l2 d2) (by simp [results, Tryz.results73, go_sem, r0, r1, r2]) rfl ?_
          exact RetX.at_ (w.heap.size + 2) HT2.out ((simpW_below w op nm a k c).trans (HQW.out.mono (by omega))) (by omega) (by omega) _ _ _
end Go.Proofs.YtmmakkaolknbaaaGreatDoor
