/- Contracts: what is a name, a well formed tree, a formula (tree.name, formed, right, Right). -/
import Derived.Test.YtmmakkaolknbaaaGreatDoorTreeA
import Derived.WalkSpells
import Derived.Shelf.Abstract
import Derived.BigQuiet
import Derived.Deep.QuietTactic
namespace Go.Proofs.YtmmakkaolknbaaaGreatDoor
set_option linter.unusedVariables false
set_option linter.unusedSimpArgs false
open Go.RowKit Go.Shelf

def okc (c : UInt8) : Bool := decide (32 ≤ (c.toNat : Int) ∧ (c.toNat : Int) ≤ 126 ∧ (c.toNat : Int) ≠ 34 ∧ (c.toNat : Int) ≠ 92)
/-- Is it a name? -/
def nameB (s : ByteArray) : Bool := decide (0 < s.size) && decide (s.size ≤ 32) && s.data.toList.all okc
theorem byte_take (s : ByteArray) (k : Nat) (h : k < s.size) : s.data.toList.take (k + 1) = s.data.toList.take k ++ [s[k]] := by
  rw [List.take_succ_eq_append_getElem (by simpa using h)]; rfl
theorem byte_mem (s : ByteArray) (k : Nat) (h : k < s.size) : s[k] ∈ s.data.toList := by
  have : s[k] = s.data.toList[k]'(by simpa using h) := rfl
  rw [this]
  exact List.getElem_mem _

theorem bytes_nil {s : ByteArray} (h : s.size = 0) : s = ⟨#[]⟩ := by
  obtain ⟨⟨l⟩⟩ := s
  have : l.length = 0 := h
  rw [List.eq_nil_of_length_eq_zero this]
theorem toList_data (s : ByteArray) : s.toList = s.data.toList := ByteArray.toList_eq s
theorem not_empty {s : ByteArray} (h : s.size ≠ 0) : s.toList.isEmpty = false := by
  rw [toList_data s]
  have : s.data.toList.length ≠ 0 := by simpa using h
  cases h : s.data.toList with
  | nil => rw [h] at this; simp at this
  | cons a l => rfl
theorem all_not_any (ks : List Fm) (q : Fm → Bool) : (!ks.any fun k => !q k) = ks.all q := by
  induction ks with
  | nil => rfl
  | cons k ks ih => simp only [List.any_cons, List.all_cons, Bool.not_or, Bool.not_not, ih]

set_option maxHeartbeats 1000000 in
/-- tree.name. -/
theorem name_c (s : ByteArray) (w : World) (hs : s.size ≤ 9223372036854775807) :
    Calls Tryz.prog 135 #[.string s] w fun e w' => e = .returned (.bool (nameB s)) ∧ w' = w := by
  by_cases h0 : s.size = 0
  · obtain rfl := bytes_nil h0
    go_enter Tryz.func135, Tryz.ntmps135
    go_wp2_with fail
    go_ret
    exact ⟨rfl, rfl⟩
  · have he := not_empty h0
    by_cases h32 : s.size ≤ 32
    · have hN : nameB s = s.data.toList.all okc := by simp [nameB, h32, Nat.pos_of_ne_zero h0]
      have HN := Aside.mk hN
      clear hN
      go_enter Tryz.func135, Tryz.ntmps135
      go_wp2_with fail
      go_loopg [14] s.size (fun gg s14 wr => ∃ k : Nat, k ≤ s.size ∧ s.size - k ≤ gg ∧ s14 = .int .i64 k ∧ wr = w ∧ Aside ((s.data.toList.take k).all okc = true))
      case atStart => exact ⟨0, Nat.zero_le _, by omega, rfl, rfl, ⟨by simp⟩⟩
      case round =>
        obtain ⟨k, hk, hg, rfl, rfl, HK⟩ := hrel
        by_cases hlt : k < s.size
        · have hlti : (k : Int) < (s.size : Int) := by omega
          have hbt := s[k].toNat_lt
          by_cases hok : okc s[k] = true
          · have h4 := of_decide_eq_true hok
            obtain ⟨a1, a2, a3, a4⟩ := h4
            have a3' : (((s[k].toNat : Nat) : Int) == 34) = false := by simpa using a3
            have a4' : (((s[k].toNat : Nat) : Int) == 92) = false := by simpa using a4
            have HO := Aside.mk hok
            clear hok a3 a4
            go_wp2_with fail
            go_roundg (s.size - (k + 1))
            case measure => omega
            case rel => exact ⟨k + 1, by omega, by omega, by go_num, rfl, ⟨by rw [byte_take s k hlt, List.all_append, HK.out]; simp [HO.out]⟩⟩
          · have HE : Aside (nameB s = false) := ⟨by
              rw [HN.out]
              apply Bool.eq_false_iff.2
              intro hall
              exact hok (List.all_eq_true.1 hall _ (byte_mem s k hlt))⟩
            have HO : Aside (¬ (32 ≤ ((s[k].toNat : Nat) : Int) ∧ ((s[k].toNat : Nat) : Int) ≤ 126 ∧ ((s[k].toNat : Nat) : Int) ≠ 34 ∧ ((s[k].toNat : Nat) : Int) ≠ 92)) := ⟨fun h => hok (decide_eq_true h)⟩
            clear hok HN
            go_wp2_with fail
            all_goals first
              | (exfalso; have h9 : ((32 ≤ ((s[k].toNat : Nat) : Int) ∧ ((s[k].toNat : Nat) : Int) ≤ 126) ∧ (((s[k].toNat : Nat) : Int) == 34) = false) ∧ (((s[k].toNat : Nat) : Int) == 92) = false := by assumption
                 exact HO.out ⟨h9.1.1.1, h9.1.1.2, by simpa using h9.1.2, by simpa using h9.2⟩)
              | (go_ret; exact ⟨ret_b HE.out.symm, rfl⟩)
        · have hlti : ¬ (k : Int) < (s.size : Int) := by omega
          go_wp2_with fail
          go_ret
          exact ⟨ret_b (by rw [HN.out]; have := HK.out; rw [List.take_of_length_le (by simp; omega)] at this; exact this.symm), rfl⟩
    · go_enter Tryz.func135, Tryz.ntmps135
      go_wp2_with fail
      go_ret
      exact ⟨by simp [nameB, h32], rfl⟩

/-- How many kids an Op has; -1: there is no such Op. -/
def kidsTab : List Int := [-1, 0, 0, 0, 1, 2, 2, 2, 2, 1, 1, 1, 2, 2, 2, 2, 1, 1, 1, 1, 2, 2]
def kidsOf (op : Int) : Int := kidsTab.getD op.toNat 0
theorem kidsOf_range (op : Int) : -1 ≤ kidsOf op ∧ kidsOf op ≤ 2 := by
  unfold kidsOf
  have h : ∀ n : Nat, n < 22 → -1 ≤ kidsTab.getD n 0 ∧ kidsTab.getD n 0 ≤ 2 := by decide
  by_cases h1 : op.toNat < 22
  · exact h _ h1
  · rw [List.getD_eq_getElem?_getD, List.getElem?_eq_none (by simp [kidsTab]; omega)]
    simp
/-- The table lies where the program keeps it. -/
def Laid (w : World) : Prop := ∀ i : Nat, i < 22 → w.cell? ⟨0, i, none⟩ = some (.int .i8 (kidsTab.getD i 0))
theorem Laid.keep {w w1 : World} (h : Laid w) (hb : Below w.heap.size w w1) : Laid w1 := fun i hi => cell_below hb (h i hi)
theorem Laid.lt {w : World} (h : Laid w) : 0 < w.heap.size := World.block_lt_of_cell? w _ (h 0 (by omega))

mutual
/-- Is a tree well formed, of Ops that p takes? -/
def Fm.formed (p : Int → Bool) : Fm → Bool
  | .mk op nm ks => decide (op < 22) && decide (0 ≤ kidsOf op) && decide ((ks.length : Int) = kidsOf op) && p op && (if op = 3 then nameB nm else decide (nm.size = 0)) && Fm.formedL p ks
def Fm.formedL (p : Int → Bool) : List Fm → Bool
  | [] => true
  | k :: ks => k.formed p && Fm.formedL p ks
end
theorem formedL_all (p : Int → Bool) (ks : List Fm) : Fm.formedL p ks = ks.all (Fm.formed p) := by
  induction ks with
  | nil => rfl
  | cons k ks ih => simp [Fm.formedL, ih]

/-- slices.IndexFunc, ContainsFunc of trees: at whatever predicate of one's own that makes blocks at most. -/
def PredT (g : Nat) (lb : Array Value) (p : Fm → Bool) (ks : List Fm) (w : World) : Prop :=
  ∀ k ∈ ks, ∀ (op : Int) (nm : ByteArray) (a : Option Addr) (n c : Nat) (W : World), Below w.heap.size w W → IsT W op nm a n c k →
    Calls Tryz.prog g (#[fv op nm a n c] ++ lb) W fun e w' => e = .returned (.bool (p k)) ∧ Below W.heap.size W w'

set_option maxHeartbeats 1000000 in
theorem indexfunc_c (ks : List Fm) (p : Fm → Bool) (g : Nat) (lb : Array Value) (eg : ∀ args w, (callFunc g args).run Tryz.prog w = .ok (.enter g args) w) (a : Option Addr) (n c : Nat) (w : World) (hp : PredT g lb p ks w) (hS : IsS w a n c ks) :
    Calls Tryz.prog 254 #[.slice a n c, .func (.func g) #[] lb] w fun e w' => (∃ r : Int, e = .returned (.int .i64 r) ∧ (decide (0 ≤ r) = ks.any p)) ∧ Below w.heap.size w w' := by
  have hn1 : n ≤ 9223372036854775807 := Nat.le_trans hS.2.1 hS.2.2.1
  have HN := Aside.mk hS.1
  have HS := Aside.mk hS
  have HP := Aside.mk hp
  clear hS hp
  go_enter Tryz.func254, Tryz.ntmps254
  go_wp2_with fail
  go_loopg [8] n (fun gg s8 wr => ∃ k : Nat, k ≤ n ∧ n - k ≤ gg ∧ s8 = .int .i64 k ∧ Aside ((ks.take k).any p = false) ∧ Aside (Below w.heap.size w wr))
  case atStart => exact ⟨0, Nat.zero_le _, by omega, rfl, ⟨by simp⟩, ⟨Below.refl _ w⟩⟩
  case round =>
    obtain ⟨k, hk, hg, rfl, HK, HB⟩ := hrel
    by_cases hlt : k < n
    · have hlti : (k : Int) < (n : Int) := by omega
      obtain ⟨b, o, rfl, hbl, x, op1, nm1, a1, n1, c1, X, q0, q1, q2, hT1⟩ := (HS.out.keep HB.out).at_ k hlt
      have HC := Aside.mk (HP.out x X.mem op1 nm1 a1 n1 c1 wr HB.out hT1)
      clear hT1
      cases hpx : p x with
      | true =>
        rw [hpx] at HC
        have hany : Aside (ks.any p = true) := ⟨List.any_eq_true.2 ⟨x, X.mem, hpx⟩⟩
        clear hpx
        go_wp2_with fail
        refine HC.out.mono ?_
        rintro e w2 ⟨rfl, hb2⟩
        have HB2 : Aside (Below w.heap.size w w2) := ⟨below_to HB.out hb2⟩
        clear hb2 HC
        go_wp2_with fail
        go_ret
        exact ⟨⟨_, rfl, by rw [hany.out]; simp⟩, HB2.out⟩
      | false =>
        rw [hpx] at HC
        have HX := Aside.mk hpx
        clear hpx
        go_wp2_with fail
        refine HC.out.mono ?_
        rintro e w2 ⟨rfl, hb2⟩
        have HB2 : Aside (Below w.heap.size w w2) := ⟨below_to HB.out hb2⟩
        clear hb2 HC
        go_wp2_with fail
        go_roundg (n - (k + 1))
        case measure => omega
        case rel => exact ⟨k + 1, by omega, by omega, by go_num, ⟨by rw [X.take, List.any_append, HK.out]; simp [HX.out]⟩, HB2⟩
    · have hlti : ¬ (k : Int) < (n : Int) := by omega
      go_wp2_with fail
      go_ret
      refine ⟨⟨_, rfl, ?_⟩, HB.out⟩
      have h1 := HK.out
      rw [List.take_of_length_le (by have := HN.out; omega)] at h1
      rw [h1]
      rfl
theorem containsfunc_c (ks : List Fm) (p : Fm → Bool) (g : Nat) (lb : Array Value) (eg : ∀ args w, (callFunc g args).run Tryz.prog w = .ok (.enter g args) w) (a : Option Addr) (n c : Nat) (w : World) (hp : PredT g lb p ks w) (hS : IsS w a n c ks) :
    Calls Tryz.prog 197 #[.slice a n c, .func (.func g) #[] lb] w fun e w' => e = .returned (.bool (ks.any p)) ∧ Below w.heap.size w w' := by
  have HC := Aside.mk (indexfunc_c ks p g lb eg a n c w hp hS)
  clear hp hS eg
  go_enter Tryz.func197, Tryz.ntmps197
  go_wp2_with fail
  refine HC.out.mono ?_
  rintro e w2 ⟨⟨r, rfl, hr⟩, hb2⟩
  have HR := Aside.mk hr
  clear hr
  go_wp2_with fail
  go_ret
  exact ⟨ret_b HR.out, hb2⟩

/-- A function of one's own that takes an Op. -/
def TakesC (g : Nat) (p : Int → Bool) : Prop := ∀ (op : Int) (W : World), Calls Tryz.prog g #[.int .u8 op] W fun e w' => e = .returned (.bool (p op)) ∧ w' = W
theorem future_c : TakesC 75 (fun op => decide (op < 16)) := by
  intro op w
  go_enter Tryz.func75, Tryz.ntmps75
  go_wp2_with fail
  go_ret
  exact ⟨rfl, rfl⟩

def FormedC (g : Nat) (p : Int → Bool) (f : Fm) : Prop := ∀ (op : Int) (nm : ByteArray) (a : Option Addr) (n c : Nat) (w : World), Laid w → IsT w op nm a n c f →
    Calls Tryz.prog 133 #[fv op nm a n c, .func (.func g) #[] #[]] w fun e w' => e = .returned (.bool (f.formed p)) ∧ Below w.heap.size w w'

set_option maxHeartbeats 1000000 in
theorem formed1_c (g : Nat) (p : Int → Bool) (f : Fm) (hf : FormedC g p f) (op : Int) (nm : ByteArray) (a : Option Addr) (n c B : Nat) (w : World) (hL : Laid w) (hc : w.cell? ⟨B, 0, none⟩ = some (.func (.func g) #[] #[])) (hT : IsT w op nm a n c f) :
    Calls Tryz.prog 198 #[fv op nm a n c, .pointer (some ⟨B, 0, none⟩)] w fun e w' => e = .returned (.bool (!f.formed p)) ∧ Below w.heap.size w w' := by
  have hB : B < w.heap.size := World.block_lt_of_cell? w _ hc
  have HC := Aside.mk (fun W hW => hf op nm a n c W (hL.keep hW) (hT.keep (w := w) hW))
  clear hf hL hT
  go_enter Tryz.func198, Tryz.ntmps198
  go_wp2_with fail
  refine (HC.out _ ?_).mono ?_
  · exact (by repeat (first | (with_reducible exact Below.refl _ _) | (with_reducible assumption) | refine below_alloc ?_ _ | refine Below.drew ?_ | refine below_drewN ?_ _))
  rintro e w2 ⟨rfl, hb2⟩
  have HB2 : Aside (Below w.heap.size w w2) := ⟨below_to (by repeat (first | (with_reducible exact Below.refl _ _) | (with_reducible assumption) | refine below_alloc ?_ _ | refine Below.drew ?_ | refine below_drewN ?_ _)) hb2⟩
  clear hb2
  go_wp2_with fail
  go_ret
  exact ⟨rfl, HB2.out⟩

set_option maxRecDepth 100000 in
set_option maxHeartbeats 2000000 in
theorem formed_c (g : Nat) (p : Int → Bool) (eg : ∀ args w, (callFunc g args).run Tryz.prog w = .ok (.enter g args) w) (hg : TakesC g p) (f : Fm) : FormedC g p f := by
  induction f using Fm.ind_ with | h o_ n_ ks ih
  intro op nm a n c w hL h
  obtain ⟨h0, h1, h2, ks_, e, hS⟩ := h.parts
  obtain ⟨rfl, rfl, rfl⟩ : op = o_ ∧ nm = n_ ∧ ks = ks_ := by cases e; exact ⟨rfl, rfl, rfl⟩
  clear e h
  have hn := hS.1
  by_cases c1 : op < 22
  · have hcell : w.cell? ⟨0, op.toNat, none⟩ = some (.int .i8 (kidsOf op)) := hL op.toNat (by omega)
    have hlt0 := hL.lt
    have hkr := kidsOf_range op
    have HF : Aside ((Fm.mk op nm ks).formed p = (decide (0 ≤ kidsOf op) && decide ((n : Int) = kidsOf op) && p op && (if op = 3 then nameB nm else decide (nm.size = 0)) && ks.all (Fm.formed p))) := ⟨by
      rw [hn]
      simp only [Fm.formed, formedL_all, c1, decide_true, Bool.true_and]⟩
    have HPR := Aside.mk (fun W (hW : Below w.heap.size w W) (hc : W.cell? ⟨w.heap.size + 1, 0, none⟩ = some (.func (.func g) #[] #[])) =>
      containsfunc_c ks (fun k => !k.formed p) 198 #[.pointer (some ⟨w.heap.size + 1, 0, none⟩)] (enters_of Tryz.func198 (by kernel_rfl) rfl) a n c W
        (fun k hk op' nm' a' n' c' W' hW' hT' => formed1_c g p k (ih k hk) op' nm' a' n' c' (w.heap.size + 1) W' ((hL.keep hW).keep hW') (cell_below hW' hc) hT') (hS.keep hW))
    generalize (Fm.mk op nm ks).formed p = R at HF ⊢
    have hn1 : n ≤ 9223372036854775807 := Nat.le_trans hS.2.1 hS.2.2.1
    clear ih hS hn hL
    generalize kidsOf op = K at *
    have hTk := hg op
    clear hg
    by_cases c2 : 0 ≤ K
    · by_cases c3 : (n : Int) = K
      · have c2' : decide (K < 0) = false := by simp; omega
        have c3' : ((n : Int) != K) = false := by simp [c3]
        have c1' : decide (22 ≤ op) = false := by simp; omega
        cases hp : p op with
        | false =>
          rw [hp] at hTk
          have HE : Aside (R = false) := ⟨by rw [HF.out, hp]; simp⟩
          clear HF hp
          have C3 := Aside.mk c3
          clear c3
          go_enter Tryz.func133, Tryz.ntmps133
          go_wp2_with fail
          go_quiet ((go_at_fn g; exact Calls.quiet_of_same (hTk _)))
          go_wp2_with fail
          go_ret
          exact ⟨ret_b HE.out.symm, (by repeat (first | (with_reducible exact Below.refl _ _) | (with_reducible assumption) | refine below_alloc ?_ _ | refine Below.drew ?_ | refine below_drewN ?_ _))⟩
        | true =>
          rw [hp] at hTk
          have HE : Aside (R = ((if op = 3 then nameB nm else decide (nm.size = 0)) && ks.all (Fm.formed p))) := ⟨by rw [HF.out, hp, c3]; simp [c2]⟩
          clear HF hp
          have C3 := Aside.mk c3
          clear c3
          by_cases c4 : op = 3
          · have c4a : (op == 3) = true := by simp [c4]
            have c4b : (op != 3) = false := by simp [c4]
            rw [if_pos c4] at HE
            clear c4
            have hNm := fun W => name_c nm W h2
            cases hnb : nameB nm with
            | true =>
              simp only [hnb] at hNm
              have HE2 : Aside (R = ks.all (Fm.formed p)) := ⟨by rw [HE.out, hnb]; simp⟩
              clear HE hnb
              go_enter Tryz.func133, Tryz.ntmps133
              go_wp2_with fail
              go_quiet ((go_at_fn g; exact Calls.quiet_of_same (hTk _)))
              go_wp2_with fail
              refine (hNm _).mono ?_
              rintro e w2 ⟨rfl, rfl⟩
              go_wp2_with fail
              refine (HPR.out _ ?_ ?_).mono ?_
              · exact (by repeat (first | (with_reducible exact Below.refl _ _) | (with_reducible assumption) | refine below_alloc ?_ _ | refine Below.drew ?_ | refine below_drewN ?_ _))
              · go_simp
              rintro e w3 ⟨rfl, hb3⟩
              have HB3 : Aside (Below w.heap.size w w3) := ⟨below_to (by repeat (first | (with_reducible exact Below.refl _ _) | (with_reducible assumption) | refine below_alloc ?_ _ | refine Below.drew ?_ | refine below_drewN ?_ _)) hb3⟩
              clear hb3
              go_wp2_with fail
              go_ret
              exact ⟨ret_b (by rw [HE2.out, all_not_any]), HB3.out⟩
            | false =>
              simp only [hnb] at hNm
              have HE2 : Aside (R = false) := ⟨by rw [HE.out, hnb]; simp⟩
              clear HE hnb
              go_enter Tryz.func133, Tryz.ntmps133
              go_wp2_with fail
              go_quiet ((go_at_fn g; exact Calls.quiet_of_same (hTk _)))
              go_wp2_with fail
              refine (hNm _).mono ?_
              rintro e w2 ⟨rfl, rfl⟩
              go_wp2_with fail
              go_ret
              exact ⟨ret_b HE2.out.symm, (by repeat (first | (with_reducible exact Below.refl _ _) | (with_reducible assumption) | refine below_alloc ?_ _ | refine Below.drew ?_ | refine below_drewN ?_ _))⟩
          · have c4a : (op == 3) = false := by simp [c4]
            have c4b : (op != 3) = true := by simp [c4]
            rw [if_neg c4] at HE
            clear c4
            by_cases h5 : nm.size = 0
            · obtain rfl := bytes_nil h5
              have HE2 : Aside (R = ks.all (Fm.formed p)) := ⟨by rw [HE.out]; simp [h5]⟩
              clear HE h5
              go_enter Tryz.func133, Tryz.ntmps133
              go_wp2_with fail
              go_quiet ((go_at_fn g; exact Calls.quiet_of_same (hTk _)))
              go_wp2_with fail
              refine (HPR.out _ ?_ ?_).mono ?_
              · exact (by repeat (first | (with_reducible exact Below.refl _ _) | (with_reducible assumption) | refine below_alloc ?_ _ | refine Below.drew ?_ | refine below_drewN ?_ _))
              · go_simp
              rintro e w3 ⟨rfl, hb3⟩
              have HB3 : Aside (Below w.heap.size w w3) := ⟨below_to (by repeat (first | (with_reducible exact Below.refl _ _) | (with_reducible assumption) | refine below_alloc ?_ _ | refine Below.drew ?_ | refine below_drewN ?_ _)) hb3⟩
              clear hb3
              go_wp2_with fail
              go_ret
              exact ⟨ret_b (by rw [HE2.out, all_not_any]), HB3.out⟩
            · have he := not_empty h5
              have HE2 : Aside (R = false) := ⟨by rw [HE.out]; simp [h5]⟩
              clear HE
              go_enter Tryz.func133, Tryz.ntmps133
              go_wp2_with fail
              go_quiet ((go_at_fn g; exact Calls.quiet_of_same (hTk _)))
              go_wp2_with fail
              go_ret
              exact ⟨ret_b HE2.out.symm, (by repeat (first | (with_reducible exact Below.refl _ _) | (with_reducible assumption) | refine below_alloc ?_ _ | refine Below.drew ?_ | refine below_drewN ?_ _))⟩
      · have c2' : decide (K < 0) = false := by simp; omega
        have c3' : ((n : Int) != K) = true := by simp [c3]
        have c1' : decide (22 ≤ op) = false := by simp; omega
        have HE : Aside (R = false) := ⟨by rw [HF.out]; simp [c3]⟩
        clear HF c3
        go_enter Tryz.func133, Tryz.ntmps133
        go_wp2_with fail
        go_quiet (fail)
        go_wp2_with fail
        go_ret
        exact ⟨ret_b HE.out.symm, (by repeat (first | (with_reducible exact Below.refl _ _) | (with_reducible assumption) | refine below_alloc ?_ _ | refine Below.drew ?_ | refine below_drewN ?_ _))⟩
    · have c2' : decide (K < 0) = true := by simp; omega
      have c1' : decide (22 ≤ op) = false := by simp; omega
      have HE : Aside (R = false) := ⟨by rw [HF.out]; simp [c2]⟩
      clear HF
      go_enter Tryz.func133, Tryz.ntmps133
      go_wp2_with fail
      go_quiet (fail)
      go_wp2_with fail
      go_ret
      exact ⟨ret_b HE.out.symm, (by repeat (first | (with_reducible exact Below.refl _ _) | (with_reducible assumption) | refine below_alloc ?_ _ | refine Below.drew ?_ | refine below_drewN ?_ _))⟩
  · have c1' : (22 : Int) ≤ op := by omega
    have hF : (Fm.mk op nm ks).formed p = false := by simp [Fm.formed, c1]
    rw [hF]
    clear ih hS hn hF
    go_enter Tryz.func133, Tryz.ntmps133
    go_wp2_with fail
    go_quiet (fail)
    go_wp2_with fail
    go_ret
    exact ⟨rfl, (by repeat (first | (with_reducible exact Below.refl _ _) | (with_reducible assumption) | refine below_alloc ?_ _ | refine Below.drew ?_ | refine below_drewN ?_ _))⟩
end Go.Proofs.YtmmakkaolknbaaaGreatDoor
