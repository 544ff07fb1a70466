/- A region whose order is open, its operations reading and writing memory: an invariant over what has come. -/
import Derived.Test.YtmmakkaolknbaaaGreatDoorMono
namespace Go.Proofs.YtmmakkaolknbaaaGreatDoor
set_option linter.unusedVariables false
set_option linter.unusedSimpArgs false
open Go.RowKit

/-- What one operation owes. -/
def invPost (N : Value → World → Prop) (o : Oper) (a : Act) : Exit → Act → World → Prop :=
  fun ex a' W' => ex = .normal ∧ ∃ v, a' = a.put o.dst v ∧ N v W'

theorem upon_of_inv {P : Program} {o : Oper} {a al : Act} {N : Value → World → Prop} {K : Act → World → Prop} {Q : Exit → Act → World → Prop} {next : Act → World → Prop}
    (hn : ∀ a' W', next a' W' → invPost N o al .normal a' W') (hr : ∀ v W', next (al.put o.dst v) W' → K (a.put o.dst v) W') (r : Result Next)
    (h : o.upon P al next (invPost N o al) r) : o.upon P a K Q r := by
  cases r with
  | ok n w' =>
    cases n with
    | value v => exact hr _ _ h
    | skip => exact hr _ _ h
    | defer d =>
      exfalso
      obtain ⟨_, v, hv, _⟩ := hn _ _ h
      have h2 := congrArg Act.defers hv
      have h3 : ∀ (x : Act) (y : Option Tmp) (z : Value), (x.put y z).defers = x.defers := fun x y z => by cases y <;> rfl
      rw [h3, h3] at h2
      exact absurd (congrArg List.length h2) (by simp)
    | enter f args =>
      refine Calls.mono h fun e w'' he => ?_
      cases e with
      | returned v => exact hr _ _ he
      | panicked c => exact absurd he.1 (by simp)
      | outgrown =>
        obtain ⟨a', w3, h3⟩ := he
        exact absurd h3.1 (by simp)
    | row row args => exact Rows.mono h fun v w'' he => hr _ _ he
    | _ => exact h.elim
  | halt x w' =>
    cases x with
    | panic v => exact absurd (show invPost N o al (.panic [{ v, recovered := false }]) al w' from h).1 (by simp)
    | _ => exact h.elim


section
variable {P : Program} {ops : Array Oper} {Q : Exit → Act → World → Prop}
theorem any_inv {m : Nat} (hok : MonoOk ops m) (a0 : Act) (J : (Nat → Bool) → (Nat → Value) → World → Prop)
    (hstep : ∀ i o, i < m → ops[i]? = some o → ∀ L vals W, L i = false → (∀ e ∈ o.after, Region.binds .any e = true → L e.on = true) → J L vals W →
      wpList P ops (invPost (fun v W' => J (fun j => if j = i then true else L j) (fun j => if j = i then v else vals j) W') o (puts ops a0 vals (fun _ => true) i)) [o] (puts ops a0 vals (fun _ => true) i) W)
    (hend : ∀ L vals W, (∀ i, i < m → L i = true) → J L vals W → wpList P ops Q (ops.toList.drop m) (puts ops a0 vals (fun _ => true) m) W) :
    ∀ (fuel : Nat) (listed : Array Bool) (vals : Nat → Value) (w : World), listed.size = ops.size → (∀ j, m ≤ j → j < ops.size → listed.getD j true = false) → fuel = leftN listed m + (ops.size - m) →
      J (fun j => listed.getD j true) vals w → wpAny P .any ops Q fuel listed (puts ops a0 vals (fun j => listed.getD j true) m) w := by
  intro fuel
  induction fuel with
  | zero =>
    intro listed vals w hsz htail hf hv
    have h0 := leftN_zero (listed := listed) (k := m) (by omega)
    have hm : ops.size = m := by have := hok.le; omega
    have hp := puts_same ops a0 vals vals (fun j => listed.getD j true) (fun _ => true) m (fun j hj => h0 j hj) (fun _ _ _ => rfl)
    have h := any_tail (P := P) (Q := Q) hok [] m listed _ w (Nat.le_refl _) (by simp [hm]) (fun j => by simp [hm]) hsz h0 (fun j h1 h2 => by omega)
      (by have := hend _ vals w (fun i hi => h0 i hi) hv; rwa [List.drop_of_length_le (by simp [hm])] at this)
    rw [hp]
    exact h
  | succ fuel ih =>
    intro listed vals w hsz htail hf hv
    by_cases hall : leftN listed m = 0
    · have h0 := leftN_zero (listed := listed) (k := m) hall
      have hp := puts_same ops a0 vals vals (fun j => listed.getD j true) (fun _ => true) m (fun j hj => h0 j hj) (fun _ _ _ => rfl)
      rw [hp]
      have h := any_tail (P := P) (Q := Q) hok (ops.toList.drop m) m listed _ w (Nat.le_refl _) (by have := hok.le; simp; omega) (fun j => by simp) hsz h0 htail (hend _ vals w (fun i hi => h0 i hi) hv)
      have hl : (ops.toList.drop m).length = fuel + 1 := by simp; omega
      rwa [hl] at h
    · have hne : Region.ready .any ops listed ≠ [] := by
        intro hnil
        have hex : ∃ j, j < m ∧ listed.getD j true = false := by
          apply Classical.byContradiction
          intro hno
          apply hall
          have hall2 : ∀ j, j < m → listed.getD j true = true := fun j hj => by
            cases hj2 : listed.getD j true with
            | true => rfl
            | false => exact absurd ⟨j, hj, hj2⟩ hno
          clear hno hall hf hv htail
          have : ∀ k, k ≤ m → leftN listed k = 0 := by
            intro k
            induction k with
            | zero => intro _; rfl
            | succ k ihk =>
              intro hk
              unfold leftN
              rw [hall2 k (by omega), if_pos rfl, ihk (by omega)]
          exact this m (Nat.le_refl _)
        have hmin : ∀ k j, j ≤ k → j < m → listed.getD j true = false → False := by
          intro k
          induction k with
          | zero =>
            intro j hjk hj hj2
            obtain rfl : j = 0 := by omega
            have hjn : 0 < ops.size := Nat.lt_of_lt_of_le hj hok.le
            have : 0 ∈ Region.ready .any ops listed := mem_ready.2 ⟨hj2, ops[0], Array.getElem?_eq_getElem hjn, fun e he hb => by
              have := hok.back 0 _ (Array.getElem?_eq_getElem hjn) e he hb
              omega⟩
            rw [hnil] at this
            cases this
          | succ k ihk =>
            intro j hjk hj hj2
            have hjn : j < ops.size := Nat.lt_of_lt_of_le hj hok.le
            by_cases hb : ∃ e ∈ ops[j].after, Region.binds .any e = true ∧ listed.getD e.on false = false
            · obtain ⟨e, he, hb1, hb2⟩ := hb
              have h3 := hok.back j _ (Array.getElem?_eq_getElem hjn) e he hb1
              refine ihk e.on (by omega) (by omega) ?_
              simp only [Array.getD_eq_getD_getElem?] at hb2 ⊢
              rw [Array.getElem?_eq_getElem (by omega)] at hb2 ⊢
              simpa using hb2
            · have : j ∈ Region.ready .any ops listed := mem_ready.2 ⟨hj2, ops[j], Array.getElem?_eq_getElem hjn, fun e he hb1 => by
                cases h4 : listed.getD e.on false with
                | true => rfl
                | false => exact absurd ⟨e, he, hb1, h4⟩ hb⟩
              rw [hnil] at this
              cases this
        obtain ⟨j, hj, hj2⟩ := hex
        exact hmin j j (Nat.le_refl _) hj hj2
      refine ⟨fun h => absurd h hne, fun i hi => ?_⟩
      obtain ⟨hi0, o, ho, hdeps⟩ := mem_ready.1 hi
      have hin := (Array.getElem?_eq_some_iff.1 ho).1
      have him : i < m := by
        rcases Nat.lt_or_ge i m with h | h
        · exact h
        · exfalso
          apply hall
          have hall2 : ∀ j, j < m → listed.getD j true = true := fun j hj => by
            obtain ⟨e, he, hb, hon⟩ := hok.tail i o h ho j (by omega)
            have h4 := hdeps e he hb
            rw [hon] at h4
            simp only [Array.getD_eq_getD_getElem?] at h4 ⊢
            rw [Array.getElem?_eq_getElem (by omega)] at h4 ⊢
            simpa using h4
          have : ∀ k, k ≤ m → leftN listed k = 0 := by
            intro k
            induction k with
            | zero => intro _; rfl
            | succ k ihk =>
              intro hk
              unfold leftN
              rw [hall2 k (by omega), if_pos rfl, ihk (by omega)]
          exact this m (Nat.le_refl _)
      have hdep : ∀ e ∈ o.after, Region.binds .any e = true → e.on < i ∧ listed.getD e.on true = true := fun e he hb => by
        have h3 := hok.back i o ho e he hb
        have h4 := hdeps e he hb
        refine ⟨h3, ?_⟩
        simp only [Array.getD_eq_getD_getElem?] at h4 ⊢
        rw [Array.getElem?_eq_getElem (by omega)] at h4 ⊢
        simpa using h4
      have hs := hstep i o him ho _ vals w hi0 (fun e he hb => (hdep e he hb).2) hv
      have hagree : ∀ t, t ∈ o.looksAt ops → (puts ops a0 vals (fun j => listed.getD j true) m).tmps[t]? = (puts ops a0 vals (fun _ => true) i).tmps[t]? := fun t ht => by
        have h1 : (puts ops a0 vals (fun _ => true) i).tmps[t]? = (puts ops a0 vals (fun j => decide (j < i)) m).tmps[t]? := by
          have e1 := puts_same ops a0 vals vals (fun _ => true) (fun j => decide (j < i)) i (fun j hj => by simp [hj]) (fun _ _ _ => rfl)
          have e2 := puts_cut ops a0 vals (fun j => decide (j < i)) i m (by omega) (fun j h1 h2 => by simp; omega)
          rw [e1, e2]
        rw [h1]
        refine puts_get ops a0 vals _ _ t m fun j hj hd => ?_
        obtain ⟨h2, e, he, hb, hon⟩ := hok.look i o j t him ho (Nat.lt_of_lt_of_le hj hok.le) hd ht
        have h3 := (hdep e he hb).2
        rw [hon] at h3
        simp only [h3, h2, decide_true]
      have hex := exec_of_get (fun cs b => hok.sel i o cs b ho) hagree
      have hwa := wanted_of_get hagree
      have hd : ∀ j, j < m → j ≠ i → ∀ d, dstAt ops i = some d → dstAt ops j ≠ some d := fun j hj hne d hd hd2 => hok.dist i j d him (Nat.lt_of_lt_of_le hj hok.le) (Ne.symm hne) hd2 hd
      have hnext : ∀ v W', J (fun j => if j = i then true else listed.getD j true) (fun j => if j = i then v else vals j) W' → wpAny P .any ops Q fuel (listed.setIfInBounds i true) ((puts ops a0 vals (fun j => listed.getD j true) m).put o.dst v) W' := fun v W' hvv => by
        have hadd := puts_add ops a0 vals (fun j => listed.getD j true) i v m hi0 hd
        rw [if_pos him] at hadd
        have hdst : dstAt ops i = o.dst := by unfold dstAt; rw [ho]; rfl
        rw [hdst] at hadd
        rw [← hadd]
        have hS : (fun j => if j = i then true else listed.getD j true) = fun j => (listed.setIfInBounds i true).getD j true := by
          funext j
          by_cases e : j = i
          · subst e; simp [show j < listed.size by omega]
          · rw [if_neg e, getD_set_ne true (Ne.symm e)]
        rw [hS] at hvv ⊢
        refine ih _ _ W' (by simpa using hsz) (fun j h1 h2 => by rw [getD_set_ne true (by omega)]; exact htail j h1 h2) ?_ hvv
        have := leftN_set hi0 m (by have := hok.le; omega)
        rw [if_pos him] at this
        omega
      unfold wpOp
      simp only [ho]
      simp only [wpList] at hs
      rw [← hwa] at hs
      split
      · rename_i hwt
        rw [if_pos hwt] at hs
        rcases hs with hs | ⟨_, a', w3, h3⟩
        · refine .inl ?_
          unfold Oper.wp at hs ⊢
          rw [hex]
          refine upon_of_inv (fun _ _ h => h) (fun v W' h => ?_) _ hs
          obtain ⟨_, u, hu, hvv⟩ := h
          have h5 := put_inj_val hu (puts ops a0 vals (fun j => listed.getD j true) m) (by rw [puts_size, puts_size])
          rw [h5]
          exact hnext u W' hvv
        · exact absurd h3.1 (by simp)
      · rename_i hwt
        rw [if_neg hwt] at hs
        obtain ⟨_, u, hu, hvv⟩ := hs
        have h5 := put_inj_val hu (puts ops a0 vals (fun j => listed.getD j true) m) (by rw [puts_size, puts_size])
        rw [h5]
        exact hnext u w hvv
end

def updL (L : Nat → Bool) (i : Nat) : Nat → Bool := fun j => if j = i then true else L j
def updV (vals : Nat → Value) (i : Nat) (v : Value) : Nat → Value := fun j => if j = i then v else vals j
/-- Each operation by itself, in the frame of the text's order. -/
def invSteps (P : Program) (ops : Array Oper) (J : (Nat → Bool) → (Nat → Value) → World → Prop) : Nat → List Oper → ((Nat → Value) → Act) → Prop
  | _, [], _ => True
  | i, o :: l, fr => (∀ L vals W, L i = false → (∀ e ∈ o.after, Region.binds .any e = true → L e.on = true) → J L vals W →
      wpList P ops (invPost (fun v W' => J (updL L i) (updV vals i v) W') o (fr vals)) [o] (fr vals) W) ∧
      invSteps P ops J (i + 1) l (fun vals => (fr vals).put o.dst (vals i))
theorem inv_cons {P : Program} {ops : Array Oper} {J : (Nat → Bool) → (Nat → Value) → World → Prop} {i : Nat} {o : Oper} {l : List Oper} {fr : (Nat → Value) → Act}
    (h : ∀ L vals W, L i = false → (∀ e ∈ o.after, Region.binds .any e = true → L e.on = true) → J L vals W →
      wpList P ops (invPost (fun v W' => J (updL L i) (updV vals i v) W') o (fr vals)) [o] (fr vals) W)
    (h' : invSteps P ops J (i + 1) l (fun vals => (fr vals).put o.dst (vals i))) : invSteps P ops J i (o :: l) fr := ⟨h, h'⟩
theorem inv_nil {P : Program} {ops : Array Oper} {J : (Nat → Bool) → (Nat → Value) → World → Prop} {i : Nat} {fr : (Nat → Value) → Act} : invSteps P ops J i [] fr := trivial
theorem inv_at {P : Program} {ops : Array Oper} {J : (Nat → Bool) → (Nat → Value) → World → Prop} (a : Act) (m : Nat) : ∀ (l : List Oper) (k : Nat), k + l.length = m → (∀ j, j < l.length → l[j]? = ops[k + j]?) →
    invSteps P ops J k l (fun vals => puts ops a vals (fun _ => true) k) → ∀ i o, k ≤ i → i < m → ops[i]? = some o → ∀ L vals W, L i = false → (∀ e ∈ o.after, Region.binds .any e = true → L e.on = true) → J L vals W →
      wpList P ops (invPost (fun v W' => J (fun j => if j = i then true else L j) (fun j => if j = i then v else vals j) W') o (puts ops a vals (fun _ => true) i)) [o] (puts ops a vals (fun _ => true) i) W
  | [], k, hk, _, _, i, o, h1, h2, _ => by simp at hk; omega
  | x :: l, k, hk, hl, hs, i, o, h1, h2, ho => by
    have hx : ops[k]? = some x := by simpa using (hl 0 (by simp)).symm
    by_cases e : i = k
    · subst e
      have : o = x := Option.some.inj (ho.symm.trans hx)
      subst this
      exact hs.1
    · have hfr : (fun vals => (puts ops a vals (fun _ => true) k).put x.dst (vals k)) = fun vals => puts ops a vals (fun _ => true) (k + 1) := by
        funext vals
        have : dstAt ops k = x.dst := by unfold dstAt; rw [hx]; rfl
        simp only [puts, if_true, this]
      have hs2 := hs.2
      rw [hfr] at hs2
      exact inv_at a m l (k + 1) (by simp at hk; omega) (fun j hj => by have := hl (j + 1) (by simp; omega); simpa [Nat.add_assoc, Nat.add_comm 1 j] using this) hs2 i o (by omega) h2 ho

/-- **A region whose order is open, with an invariant of what has come, of the values and of memory.** -/
theorem wp_region_inv {P : Program} {id : Nat} {Q : Exit → Act → World → Prop} {a : Act} {w : World} {l : List Oper} (m : Nat) (J : (Nat → Bool) → (Nat → Value) → World → Prop) (hm : P.follows .mixedOrders = true) (hB : monoB l.toArray m = true)
    (hstart : ∀ L vals, (∀ j, j < l.length → L j = false) → J L vals { w with drawn := w.drawn + 1 }) (hs : invSteps P l.toArray J 0 (l.take m) (fun _ => a))
    (hend : ∀ L vals W, (∀ i, i < m → L i = true) → J L vals W → wpList P l.toArray Q (l.drop m) (lexL vals 0 (l.take m) a) W) :
    (Code.region id l.toArray true).wp P Q a w := by
  have hok := monoB_ok hB
  have hml : m ≤ l.length := by simpa using hok.le
  have hlen : (l.take m).length = m := by simp; omega
  have hget : ∀ j, j < (l.take m).length → (l.take m)[j]? = l.toArray[0 + j]? := fun j hj => by
    rw [hlen] at hj
    simp [hj]
  have hst := inv_at (P := P) a m (l.take m) 0 (by omega) hget hs
  refine wp_region_any hm ?_
  have h := any_inv (P := P) (Q := Q) hok a J (fun i o hi ho => hst i o (Nat.zero_le _) hi ho)
    (fun L vals W hL hv => by
      have h1 := hend L vals W hL hv
      have h2 := lexL_puts l.toArray a vals (l.take m) 0 hget
      rw [hlen, Nat.zero_add] at h2
      have h3 : puts l.toArray a vals (fun _ => true) 0 = a := rfl
      rw [h3] at h2
      rw [← h2]
      simpa using h1)
    l.toArray.size (Array.replicate l.toArray.size false) (fun _ => undef) { w with drawn := w.drawn + 1 } (by simp) (fun j h1 h2 => by
      have h2' : j < l.length := by simpa using h2
      simp [h2'])
    (by rw [leftN_start _ _ hok.le]; have := hok.le; omega) (hstart _ _ fun j hj => by simp [hj])
  rwa [puts_none _ _ _ _ _ (fun j hj => by
    have h2' : j < l.length := by omega
    simp [h2'])] at h
end Go.Proofs.YtmmakkaolknbaaaGreatDoor
