/- A region whose order is open, its operations each growing the world: one look at each operation serves every order. -/
import Derived.Still
import Derived.StillTail
import Derived.Deep.Quiet
import Derived.Tactics
import Derived.Below
import Derived.Deep.Draws
import Derived.Test.YtmmakkaolknbaaaGreatDoorMem
namespace Go.Proofs.YtmmakkaolknbaaaGreatDoor
set_option linter.unusedVariables false
set_option linter.unusedSimpArgs false
open Go.RowKit

def dstAt (ops : Array Oper) (i : Nat) : Option Tmp := (ops[i]?).bind (·.dst)

/-- What is asked of a region, a Bool that the kernel reckons: the first m operations may come in whatever order their edges allow, all others behind them one by one. -/
def monoB (ops : Array Oper) (m : Nat) : Bool :=
  Region.noSelect ops && decide (m ≤ ops.size) &&
  ((List.range ops.size).all fun i => match ops[i]? with
    | none => false
    | some o => o.after.all (fun e => !Region.binds .any e || decide (e.on < i)) &&
      (if i < m then
        (List.range ops.size).all fun j => match dstAt ops j with
          | none => true
          | some d => (decide (i = j) || dstAt ops i != some d) && (!(o.looksAt ops).contains d || (decide (j < i) && o.after.any fun e => Region.binds .any e && e.on == j))
      else (List.range i).all fun j => o.after.any fun e => Region.binds .any e && e.on == j))

structure MonoOk (ops : Array Oper) (m : Nat) : Prop where
  sel : ∀ (j : Nat) (o : Oper) cs b, ops[j]? = some o → o.op ≠ .select cs b
  le : m ≤ ops.size
  back : ∀ i o, ops[i]? = some o → ∀ e ∈ o.after, Region.binds .any e = true → e.on < i
  dist : ∀ i j d, i < m → j < ops.size → i ≠ j → dstAt ops j = some d → dstAt ops i ≠ some d
  look : ∀ i o j d, i < m → ops[i]? = some o → j < ops.size → dstAt ops j = some d → d ∈ o.looksAt ops → j < i ∧ ∃ e ∈ o.after, Region.binds .any e = true ∧ e.on = j
  tail : ∀ t o, m ≤ t → ops[t]? = some o → ∀ j, j < t → ∃ e ∈ o.after, Region.binds .any e = true ∧ e.on = j

theorem any_edge {es : Array Edge} {j : Nat} (h : (es.any fun e => Region.binds .any e && e.on == j) = true) : ∃ e ∈ es, Region.binds .any e = true ∧ e.on = j := by
  obtain ⟨e, he, hb⟩ := Array.any_eq_true'.1 h
  simp only [Bool.and_eq_true, beq_iff_eq] at hb
  exact ⟨e, he, hb.1, hb.2⟩

theorem monoB_ok {ops : Array Oper} {m : Nat} (h : monoB ops m = true) : MonoOk ops m := by
  unfold monoB at h
  simp only [Bool.and_eq_true, decide_eq_true_eq] at h
  obtain ⟨⟨h1, h2⟩, h3⟩ := h
  have h4 : ∀ i o, ops[i]? = some o → (o.after.all (fun e => !Region.binds .any e || decide (e.on < i)) = true ∧
      (if i < m then
        (List.range ops.size).all fun j => match dstAt ops j with
          | none => true
          | some d => (decide (i = j) || dstAt ops i != some d) && (!(o.looksAt ops).contains d || (decide (j < i) && o.after.any fun e => Region.binds .any e && e.on == j))
      else (List.range i).all fun j => o.after.any fun e => Region.binds .any e && e.on == j) = true) := by
    intro i o ho
    have hi : i < ops.size := (Array.getElem?_eq_some_iff.1 ho).1
    have h5 := List.all_eq_true.1 h3 i (List.mem_range.2 hi)
    rw [ho] at h5
    simpa using h5
  refine ⟨Region.noSelect_spec h1, h2, ?_, ?_, ?_, ?_⟩
  · intro i o ho e he hb
    have h5 := Array.all_eq_true'.1 (h4 i o ho).1 e he
    simpa [hb] using h5
  · intro i j d him hj hij hd
    have hi : i < ops.size := Nat.lt_of_lt_of_le him h2
    have h5 := (h4 i _ (Array.getElem?_eq_getElem hi)).2
    rw [if_pos him] at h5
    have h6 := List.all_eq_true.1 h5 j (List.mem_range.2 hj)
    rw [hd] at h6
    simp only [Bool.and_eq_true, Bool.or_eq_true, decide_eq_true_eq, bne_iff_ne] at h6
    rcases h6.1 with h7 | h7
    · exact absurd h7 hij
    · exact h7
  · intro i o j d him ho hj hd hl
    have h5 := (h4 i o ho).2
    rw [if_pos him] at h5
    have h6 := List.all_eq_true.1 h5 j (List.mem_range.2 hj)
    rw [hd] at h6
    simp only [Bool.and_eq_true, Bool.or_eq_true, decide_eq_true_eq, Bool.not_eq_true'] at h6
    rcases h6.2 with h7 | h7
    · have : (o.looksAt ops).contains d = true := by simpa using hl
      rw [this] at h7
      cases h7
    · exact ⟨h7.1, any_edge h7.2⟩
  · intro t o hmt ho j hj
    have h5 := (h4 t o ho).2
    rw [if_neg (by omega)] at h5
    exact any_edge (List.all_eq_true.1 h5 j (List.mem_range.2 hj))

/-- The frame when the operations of S among the first k have come. -/
def puts (ops : Array Oper) (a : Act) (vals : Nat → Value) (S : Nat → Bool) : Nat → Act
  | 0 => a
  | k + 1 => if S k = true then (puts ops a vals S k).put (dstAt ops k) (vals k) else puts ops a vals S k

theorem put_size (a : Act) (d : Option Tmp) (v : Value) : (a.put d v).tmps.size = a.tmps.size := by
  cases d <;> simp [Act.put]
theorem puts_size (ops : Array Oper) (a : Act) (vals : Nat → Value) (S : Nat → Bool) (k : Nat) : (puts ops a vals S k).tmps.size = a.tmps.size := by
  induction k with
  | zero => rfl
  | succ k ih => unfold puts; split <;> simp [put_size, ih]
theorem put_get_ne (a : Act) (d : Option Tmp) (v : Value) (t : Tmp) (h : d ≠ some t) : (a.put d v).tmps[t]? = a.tmps[t]? := by
  cases d with
  | none => rfl
  | some d =>
    have : d ≠ t := fun e => h (by rw [e])
    simp [Act.put, Array.getElem?_setIfInBounds_ne this]
theorem put_get_eq {a a' : Act} (hs : a.tmps.size = a'.tmps.size) (v : Value) (t : Tmp) : (a.put (some t) v).tmps[t]? = (a'.put (some t) v).tmps[t]? := by
  simp [Act.put, Array.getElem?_setIfInBounds_self, hs]

/-- Two such frames agree on a slot where the operations that yield it are in both or in none. -/
theorem puts_get (ops : Array Oper) (a : Act) (vals : Nat → Value) (S S' : Nat → Bool) (t : Tmp) (k : Nat) (h : ∀ j, j < k → dstAt ops j = some t → S j = S' j) :
    (puts ops a vals S k).tmps[t]? = (puts ops a vals S' k).tmps[t]? := by
  induction k with
  | zero => rfl
  | succ k ih =>
    have ih' := ih (fun j hj hd => h j (by omega) hd)
    unfold puts
    by_cases hd : dstAt ops k = some t
    · rw [h k (by omega) hd]
      split
      · rw [hd]
        exact put_get_eq (by rw [puts_size, puts_size]) _ _
      · exact ih'
    · split <;> split <;> simp only [put_get_ne _ _ _ _ hd, ih']

theorem eval_of_get {a a' : Act} {x : Operand} (h : ∀ t, x = .tmp t → a.tmps[t]? = a'.tmps[t]?) : a.eval x = a'.eval x := by
  cases x with
  | tmp t =>
    have := h t rfl
    simp only [Act.eval, Array.getD_eq_getD_getElem?, this]
  | const v => rfl
  | global g => rfl
  | func f => rfl

theorem exec_of_get {ops : Array Oper} {o : Oper} (hs : ∀ cs b, o.op ≠ .select cs b) {a a' : Act} (h : ∀ t, t ∈ o.looksAt ops → a.tmps[t]? = a'.tmps[t]?) :
    execOp a.eval o = execOp a'.eval o :=
  execOp_congr o hs fun x hx => eval_of_get fun t ht => h t (by
    subst ht
    exact List.mem_append_left _ (List.mem_filterMap.2 ⟨.tmp t, by simpa using hx, rfl⟩))

theorem wanted_of_get {ops : Array Oper} {o : Oper} {a a' : Act} (h : ∀ t, t ∈ o.looksAt ops → a.tmps[t]? = a'.tmps[t]?) :
    Region.wanted o (yielded ops a.tmps) = Region.wanted o (yielded ops a'.tmps) := by
  unfold Region.wanted
  cases hg : o.guard with
  | none => rfl
  | some gw =>
    obtain ⟨g, want⟩ := gw
    have hy : yielded ops a.tmps g = yielded ops a'.tmps g := by
      unfold yielded
      cases ht : (ops[g]?).bind (·.dst) with
      | none => rfl
      | some t =>
        have : t ∈ o.looksAt ops := List.mem_append_right _ (by simp [hg, ht])
        simp only [Option.bind_some, h t this]
    simp only [hy]

/-- One operation more, whichever: the frame with it. -/
theorem puts_add (ops : Array Oper) (a : Act) (vals : Nat → Value) (S : Nat → Bool) (i : Nat) (v : Value) (k : Nat) (hS : S i = false) (hd : ∀ j, j < k → j ≠ i → ∀ d, dstAt ops i = some d → dstAt ops j ≠ some d) :
    puts ops a (fun j => if j = i then v else vals j) (fun j => if j = i then true else S j) k = if i < k then (puts ops a vals S k).put (dstAt ops i) v else puts ops a vals S k := by
  induction k with
  | zero => simp [puts]
  | succ k ih =>
    have ih' := ih (fun j hj hne => hd j (by omega) hne)
    unfold puts
    by_cases hk : k = i
    · subst hk
      rw [if_neg (Nat.lt_irrefl _)] at ih'
      simp only [if_true, ih', hS, Bool.false_eq_true, if_false]
      rw [if_pos (Nat.lt_succ_self _)]
    · simp only [hk, if_false]
      by_cases hik : i < k
      · rw [if_pos hik] at ih'
        have hik1 : i < k + 1 := by omega
        simp only [hik1, if_true, ih']
        by_cases hSk : S k = true
        · simp only [hSk, if_true]
          exact Act.put_comm _ _ _ (fun d h => hd k (by omega) hk d h)
        · simp only [hSk, Bool.false_eq_true, if_false]
      · rw [if_neg hik] at ih'
        have hik1 : ¬ i < k + 1 := by omega
        simp only [hik1, if_false, ih']

theorem puts_none (ops : Array Oper) (a : Act) (vals : Nat → Value) (S : Nat → Bool) (k : Nat) (h : ∀ j, j < k → S j = false) : puts ops a vals S k = a := by
  induction k with
  | zero => rfl
  | succ k ih =>
    unfold puts
    rw [h k (by omega), if_neg (by simp)]
    exact ih fun j hj => h j (by omega)
theorem puts_cut (ops : Array Oper) (a : Act) (vals : Nat → Value) (S : Nat → Bool) (k m : Nat) (hkm : k ≤ m) (h : ∀ j, k ≤ j → j < m → S j = false) : puts ops a vals S m = puts ops a vals S k := by
  induction m with
  | zero => obtain rfl : k = 0 := by omega
            rfl
  | succ m ih =>
    by_cases e : k = m + 1
    · subst e; rfl
    · conv => lhs; unfold puts
      rw [h m (by omega) (by omega), if_neg (by simp)]
      exact ih (by omega) fun j h1 h2 => h j h1 (by omega)
theorem puts_same (ops : Array Oper) (a : Act) (vals vals' : Nat → Value) (S S' : Nat → Bool) (k : Nat) (h : ∀ j, j < k → S j = S' j) (hv : ∀ j, j < k → S j = true → vals j = vals' j) : puts ops a vals S k = puts ops a vals' S' k := by
  induction k with
  | zero => rfl
  | succ k ih =>
    unfold puts
    rw [ih (fun j hj => h j (by omega)) (fun j hj => hv j (by omega)), h k (by omega)]
    split
    · rename_i hk
      rw [hv k (by omega) (by rw [h k (by omega)]; exact hk)]
    · rfl

/-- What one operation owes, in the frame of the text's order. -/
def monoPost (V : Value → World → Prop) (o : Oper) (a : Act) (W : World) : Exit → Act → World → Prop :=
  fun ex a' W' => ex = .normal ∧ ∃ v, a' = a.put o.dst v ∧ Below W.heap.size W W' ∧ V v W'

def stepsFrom (P : Program) (ops : Array Oper) (w : World) (V : Nat → Value → World → Prop) : Nat → List Oper → ((Nat → Value) → Act) → Prop
  | _, [], _ => True
  | i, o :: l, fr => (∀ vals W, Below w.heap.size w W → (∀ e ∈ o.after, Region.binds .any e = true → V e.on (vals e.on) W) → wpList P ops (monoPost (V i) o (fr vals) W) [o] (fr vals) W) ∧
      stepsFrom P ops w V (i + 1) l (fun vals => (fr vals).put o.dst (vals i))

theorem steps_cons {P : Program} {ops : Array Oper} {w : World} {V : Nat → Value → World → Prop} {i : Nat} {o : Oper} {l : List Oper} {fr : (Nat → Value) → Act}
    (h : ∀ vals W, Below w.heap.size w W → (∀ e ∈ o.after, Region.binds .any e = true → V e.on (vals e.on) W) → wpList P ops (monoPost (V i) o (fr vals) W) [o] (fr vals) W)
    (h' : stepsFrom P ops w V (i + 1) l (fun vals => (fr vals).put o.dst (vals i))) : stepsFrom P ops w V i (o :: l) fr := ⟨h, h'⟩
theorem steps_nil {P : Program} {ops : Array Oper} {w : World} {V : Nat → Value → World → Prop} {i : Nat} {fr : (Nat → Value) → Act} : stepsFrom P ops w V i [] fr := trivial

theorem upon_of_mono {P : Program} {o : Oper} {a al : Act} {W : World} {V : Value → World → Prop} {K : Act → World → Prop} {Q : Exit → Act → World → Prop} {next : Act → World → Prop}
    (hn : ∀ a' W', next a' W' → monoPost V o al W .normal a' W') (hr : ∀ v W', next (al.put o.dst v) W' → K (a.put o.dst v) W') (r : Result Next)
    (h : o.upon P al next (monoPost V o al W) r) : o.upon P a K Q r := by
  cases r with
  | ok n w' =>
    cases n with
    | value v => exact hr _ _ h
    | skip => exact hr _ _ h
    | defer d =>
      exfalso
      obtain ⟨_, v, hv, _⟩ := hn _ _ h
      have h2 := congrArg Act.defers hv
      have h3 : ∀ (x : Act) (y : Option Tmp) (z : Value), (x.put y z).defers = x.defers := fun x y z => by cases y <;> rfl
      rw [h3, h3] at h2
      exact absurd (congrArg List.length h2) (by simp)
    | enter f args =>
      refine Calls.mono h fun e w'' he => ?_
      cases e with
      | returned v => exact hr _ _ he
      | panicked c => exact absurd he.1 (by simp)
      | outgrown =>
        obtain ⟨a', w3, h3⟩ := he
        exact absurd h3.1 (by simp)
    | row row args => exact Rows.mono h fun v w'' he => hr _ _ he
    | _ => exact h.elim
  | halt x w' =>
    cases x with
    | panic v => exact absurd (show monoPost V o al W (.panic [{ v, recovered := false }]) al w' from h).1 (by simp)
    | _ => exact h.elim

theorem put_inj_val {a : Act} {d : Option Tmp} {v u : Value} (h : a.put d v = a.put d u) (a' : Act) (hs : a'.tmps.size = a.tmps.size) : a'.put d v = a'.put d u := by
  cases d with
  | none => rfl
  | some t =>
    have h1 := congrArg Act.tmps h
    by_cases ht : t < a.tmps.size
    · have h2 := congrArg (fun x : Array Value => x[t]?) h1
      simp only [Act.put, Array.getElem?_setIfInBounds_self, ht, if_true, Option.some.injEq] at h2
      rw [h2]
    · have ht' : a'.tmps.size ≤ t := by rw [hs]; exact Nat.le_of_not_lt ht
      simp only [Act.put]
      rw [Array.setIfInBounds_eq_of_size_le ht', Array.setIfInBounds_eq_of_size_le ht']

/-- How many have not come. -/
def leftN (listed : Array Bool) : Nat → Nat
  | 0 => 0
  | k + 1 => (if listed.getD k true = true then 0 else 1) + leftN listed k
theorem leftN_set {listed : Array Bool} {i : Nat} (hi : listed.getD i true = false) (k : Nat) (hk : k ≤ listed.size) : leftN listed k = leftN (listed.setIfInBounds i true) k + if i < k then 1 else 0 := by
  induction k with
  | zero => simp [leftN]
  | succ k ih =>
    have ih' := ih (by omega)
    unfold leftN
    by_cases e : i = k
    · subst e
      have h1 : (listed.setIfInBounds i true).getD i true = true := by simp [show i < listed.size by omega]
      rw [if_neg (Nat.lt_irrefl _)] at ih'
      rw [hi, h1, if_pos rfl, if_neg (by simp), if_pos (Nat.lt_succ_self _), ih']
      omega
    · rw [getD_set_ne true e, ih']
      have : (if i < k then 1 else 0) = (if i < k + 1 then 1 else 0) := by
        by_cases h : i < k
        · rw [if_pos h, if_pos (by omega)]
        · rw [if_neg h, if_neg (by omega)]
      omega
theorem leftN_zero {listed : Array Bool} {k : Nat} (h : leftN listed k = 0) : ∀ j, j < k → listed.getD j true = true := by
  induction k with
  | zero => intro j hj; omega
  | succ k ih =>
    unfold leftN at h
    intro j hj
    by_cases e : j = k
    · subst e
      by_cases h1 : listed.getD j true = true
      · exact h1
      · rw [if_neg h1] at h; omega
    · exact ih (by omega) j (by omega)

section
variable {P : Program} {ops : Array Oper} {Q : Exit → Act → World → Prop}

/-- Behind the first ones: one by one. -/
theorem any_tail {m : Nat} (hok : MonoOk ops m) (l : List Oper) : ∀ (t : Nat) (listed : Array Bool) (a : Act) (w : World), m ≤ t → t + l.length = ops.size → (∀ j, l[j]? = ops[t + j]?) → listed.size = ops.size → (∀ j, j < t → listed.getD j true = true) →
    (∀ j, t ≤ j → j < ops.size → listed.getD j true = false) → wpList P ops Q l a w → wpAny P .any ops Q l.length listed a w := by
  induction l with
  | nil =>
    intro t listed a w hm ht hl hsz h1 h2 h
    refine ⟨?_, h⟩
    apply List.eq_nil_iff_forall_not_mem.2
    intro i hi
    obtain ⟨h0, o, ho, _⟩ := mem_ready.1 hi
    have := (Array.getElem?_eq_some_iff.1 ho).1
    simp only [List.length_nil] at ht
    rw [h1 i (by omega)] at h0
    cases h0
  | cons o l ih =>
    intro t listed a w hm ht hl hsz h1 h2 h
    simp only [List.length_cons] at ht
    have ho : ops[t]? = some o := by simpa using (hl 0).symm
    have hr : t ∈ Region.ready .any ops listed := mem_ready.2 ⟨h2 t (Nat.le_refl _) (by omega), o, ho, fun e he hb => by
      have h3 := hok.back t o ho e he hb
      have h4 := h1 e.on h3
      simp only [Array.getD_eq_getD_getElem?] at h4 ⊢
      rw [Array.getElem?_eq_getElem (by omega)] at h4 ⊢
      simpa using h4⟩
    refine ⟨fun h3 => (by rw [h3] at hr; cases hr), fun i hi => ?_⟩
    obtain ⟨h0, o', ho', hall⟩ := mem_ready.1 hi
    have hin := (Array.getElem?_eq_some_iff.1 ho').1
    have hit : i = t := by
      rcases Nat.lt_trichotomy i t with h3 | h3 | h3
      · rw [h1 i h3] at h0; cases h0
      · exact h3
      · obtain ⟨e, he, hb, hon⟩ := hok.tail i o' (by omega) ho' t h3
        have h4 := hall e he hb
        rw [hon] at h4
        have h5 := h2 t (Nat.le_refl _) (by omega)
        simp only [Array.getD_eq_getD_getElem?] at h4 h5
        rw [Array.getElem?_eq_getElem (by omega)] at h4 h5
        simp at h4 h5
        rw [h4] at h5
        cases h5
    subst hit
    have hnext : ∀ a' w', wpList P ops Q l a' w' → wpAny P .any ops Q l.length (listed.setIfInBounds i true) a' w' := fun a' w' h3 =>
      ih (i + 1) _ a' w' (by omega) (by omega) (fun j => by have := hl (j + 1); simpa [Nat.add_assoc, Nat.add_comm 1 j] using this) (by simpa using hsz)
        (fun j hj => by
          by_cases e : i = j
          · subst e; simp [show i < listed.size by omega]
          · rw [getD_set_ne true e]; exact h1 j (by omega))
        (fun j hj hj2 => by rw [getD_set_ne true (by omega)]; exact h2 j (by omega) hj2) h3
    unfold wpOp
    simp only [ho]
    simp only [wpList] at h
    split
    · rename_i hw
      rw [if_pos hw] at h
      exact h.imp (Oper.wp_mono hnext) id
    · rename_i hw
      rw [if_neg hw] at h
      exact hnext _ _ h

/-- **The order of the text serves every order.** -/
theorem any_mono {m : Nat} (hok : MonoOk ops m) (a0 : Act) (w0 : World) (V : Nat → Value → World → Prop) (hV : ∀ i v W W', V i v W → Below W.heap.size W W' → V i v W')
    (hstep : ∀ i o, i < m → ops[i]? = some o → ∀ vals W, Below w0.heap.size w0 W → (∀ e ∈ o.after, Region.binds .any e = true → V e.on (vals e.on) W) →
      wpList P ops (monoPost (V i) o (puts ops a0 vals (fun _ => true) i) W) [o] (puts ops a0 vals (fun _ => true) i) W)
    (hend : ∀ vals W, Below w0.heap.size w0 W → (∀ i, i < m → V i (vals i) W) → wpList P ops Q (ops.toList.drop m) (puts ops a0 vals (fun _ => true) m) W) :
    ∀ (fuel : Nat) (listed : Array Bool) (vals : Nat → Value) (w : World), listed.size = ops.size → (∀ j, m ≤ j → j < ops.size → listed.getD j true = false) → fuel = leftN listed m + (ops.size - m) → Below w0.heap.size w0 w →
      (∀ j, j < m → listed.getD j true = true → V j (vals j) w) → wpAny P .any ops Q fuel listed (puts ops a0 vals (fun j => listed.getD j true) m) w := by
  intro fuel
  induction fuel with
  | zero =>
    intro listed vals w hsz htail hf hw hv
    have h0 := leftN_zero (listed := listed) (k := m) (by omega)
    have hm : ops.size = m := by have := hok.le; omega
    have hp := puts_same ops a0 vals vals (fun j => listed.getD j true) (fun _ => true) m (fun j hj => h0 j hj) (fun _ _ _ => rfl)
    have h := any_tail (P := P) (Q := Q) hok [] m listed _ w (Nat.le_refl _) (by simp [hm]) (fun j => by simp [hm]) hsz h0 (fun j h1 h2 => by omega)
      (by have := hend vals w hw (fun i hi => hv i hi (h0 i hi)); rwa [List.drop_of_length_le (by simp [hm])] at this)
    rw [hp]
    exact h
  | succ fuel ih =>
    intro listed vals w hsz htail hf hw hv
    by_cases hall : leftN listed m = 0
    · have h0 := leftN_zero (listed := listed) (k := m) hall
      have hp := puts_same ops a0 vals vals (fun j => listed.getD j true) (fun _ => true) m (fun j hj => h0 j hj) (fun _ _ _ => rfl)
      rw [hp]
      have h := any_tail (P := P) (Q := Q) hok (ops.toList.drop m) m listed _ w (Nat.le_refl _) (by have := hok.le; simp; omega) (fun j => by simp) hsz h0 htail (hend vals w hw (fun i hi => hv i hi (h0 i hi)))
      have hl : (ops.toList.drop m).length = fuel + 1 := by simp; omega
      rwa [hl] at h
    · have hne : Region.ready .any ops listed ≠ [] := by
        intro hnil
        have hex : ∃ j, j < m ∧ listed.getD j true = false := by
          apply Classical.byContradiction
          intro hno
          apply hall
          have hall2 : ∀ j, j < m → listed.getD j true = true := fun j hj => by
            cases hj2 : listed.getD j true with
            | true => rfl
            | false => exact absurd ⟨j, hj, hj2⟩ hno
          clear hno hall hf hv htail
          have : ∀ k, k ≤ m → leftN listed k = 0 := by
            intro k
            induction k with
            | zero => intro _; rfl
            | succ k ihk =>
              intro hk
              unfold leftN
              rw [hall2 k (by omega), if_pos rfl, ihk (by omega)]
          exact this m (Nat.le_refl _)
        have hmin : ∀ k j, j ≤ k → j < m → listed.getD j true = false → False := by
          intro k
          induction k with
          | zero =>
            intro j hjk hj hj2
            obtain rfl : j = 0 := by omega
            have hjn : 0 < ops.size := Nat.lt_of_lt_of_le hj hok.le
            have : 0 ∈ Region.ready .any ops listed := mem_ready.2 ⟨hj2, ops[0], Array.getElem?_eq_getElem hjn, fun e he hb => by
              have := hok.back 0 _ (Array.getElem?_eq_getElem hjn) e he hb
              omega⟩
            rw [hnil] at this
            cases this
          | succ k ihk =>
            intro j hjk hj hj2
            have hjn : j < ops.size := Nat.lt_of_lt_of_le hj hok.le
            by_cases hb : ∃ e ∈ ops[j].after, Region.binds .any e = true ∧ listed.getD e.on false = false
            · obtain ⟨e, he, hb1, hb2⟩ := hb
              have h3 := hok.back j _ (Array.getElem?_eq_getElem hjn) e he hb1
              refine ihk e.on (by omega) (by omega) ?_
              simp only [Array.getD_eq_getD_getElem?] at hb2 ⊢
              rw [Array.getElem?_eq_getElem (by omega)] at hb2 ⊢
              simpa using hb2
            · have : j ∈ Region.ready .any ops listed := mem_ready.2 ⟨hj2, ops[j], Array.getElem?_eq_getElem hjn, fun e he hb1 => by
                cases h4 : listed.getD e.on false with
                | true => rfl
                | false => exact absurd ⟨e, he, hb1, h4⟩ hb⟩
              rw [hnil] at this
              cases this
        obtain ⟨j, hj, hj2⟩ := hex
        exact hmin j j (Nat.le_refl _) hj hj2
      refine ⟨fun h => absurd h hne, fun i hi => ?_⟩
      obtain ⟨hi0, o, ho, hdeps⟩ := mem_ready.1 hi
      have hin := (Array.getElem?_eq_some_iff.1 ho).1
      have him : i < m := by
        rcases Nat.lt_or_ge i m with h | h
        · exact h
        · exfalso
          apply hall
          have hall2 : ∀ j, j < m → listed.getD j true = true := fun j hj => by
            obtain ⟨e, he, hb, hon⟩ := hok.tail i o h ho j (by omega)
            have h4 := hdeps e he hb
            rw [hon] at h4
            simp only [Array.getD_eq_getD_getElem?] at h4 ⊢
            rw [Array.getElem?_eq_getElem (by omega)] at h4 ⊢
            simpa using h4
          have : ∀ k, k ≤ m → leftN listed k = 0 := by
            intro k
            induction k with
            | zero => intro _; rfl
            | succ k ihk =>
              intro hk
              unfold leftN
              rw [hall2 k (by omega), if_pos rfl, ihk (by omega)]
          exact this m (Nat.le_refl _)
      have hdep : ∀ e ∈ o.after, Region.binds .any e = true → e.on < i ∧ listed.getD e.on true = true := fun e he hb => by
        have h3 := hok.back i o ho e he hb
        have h4 := hdeps e he hb
        refine ⟨h3, ?_⟩
        simp only [Array.getD_eq_getD_getElem?] at h4 ⊢
        rw [Array.getElem?_eq_getElem (by omega)] at h4 ⊢
        simpa using h4
      have hs := hstep i o him ho vals w hw (fun e he hb => hv e.on (by have := (hdep e he hb).1; omega) (hdep e he hb).2)
      have hagree : ∀ t, t ∈ o.looksAt ops → (puts ops a0 vals (fun j => listed.getD j true) m).tmps[t]? = (puts ops a0 vals (fun _ => true) i).tmps[t]? := fun t ht => by
        have h1 : (puts ops a0 vals (fun _ => true) i).tmps[t]? = (puts ops a0 vals (fun j => decide (j < i)) m).tmps[t]? := by
          have e1 := puts_same ops a0 vals vals (fun _ => true) (fun j => decide (j < i)) i (fun j hj => by simp [hj]) (fun _ _ _ => rfl)
          have e2 := puts_cut ops a0 vals (fun j => decide (j < i)) i m (by omega) (fun j h1 h2 => by simp; omega)
          rw [e1, e2]
        rw [h1]
        refine puts_get ops a0 vals _ _ t m fun j hj hd => ?_
        obtain ⟨h2, e, he, hb, hon⟩ := hok.look i o j t him ho (Nat.lt_of_lt_of_le hj hok.le) hd ht
        have h3 := (hdep e he hb).2
        rw [hon] at h3
        simp only [h3, h2, decide_true]
      have hex := exec_of_get (fun cs b => hok.sel i o cs b ho) hagree
      have hwa := wanted_of_get hagree
      have hd : ∀ j, j < m → j ≠ i → ∀ d, dstAt ops i = some d → dstAt ops j ≠ some d := fun j hj hne d hd hd2 => hok.dist i j d him (Nat.lt_of_lt_of_le hj hok.le) (Ne.symm hne) hd2 hd
      have hnext : ∀ v W', Below w.heap.size w W' → V i v W' → wpAny P .any ops Q fuel (listed.setIfInBounds i true) ((puts ops a0 vals (fun j => listed.getD j true) m).put o.dst v) W' := fun v W' hW hvv => by
        have hadd := puts_add ops a0 vals (fun j => listed.getD j true) i v m hi0 hd
        rw [if_pos him] at hadd
        have hdst : dstAt ops i = o.dst := by unfold dstAt; rw [ho]; rfl
        rw [hdst] at hadd
        rw [← hadd]
        have hS : (fun j => if j = i then true else listed.getD j true) = fun j => (listed.setIfInBounds i true).getD j true := by
          funext j
          by_cases e : j = i
          · subst e; simp [show j < listed.size by omega]
          · rw [if_neg e, getD_set_ne true (Ne.symm e)]
        rw [hS]
        refine ih _ _ W' (by simpa using hsz) (fun j h1 h2 => by rw [getD_set_ne true (by omega)]; exact htail j h1 h2) ?_ (hw.trans (hW.mono hw.size)) (fun j hj hj2 => ?_)
        · have := leftN_set hi0 m (by have := hok.le; omega)
          rw [if_pos him] at this
          omega
        · by_cases e : j = i
          · subst e
            simpa using hvv
          · rw [getD_set_ne true (Ne.symm e)] at hj2
            rw [if_neg e]
            exact hV _ _ _ _ (hv j hj hj2) hW
      unfold wpOp
      simp only [ho]
      simp only [wpList] at hs
      rw [← hwa] at hs
      split
      · rename_i hwt
        rw [if_pos hwt] at hs
        rcases hs with hs | ⟨_, a', w3, h3⟩
        · refine .inl ?_
          unfold Oper.wp at hs ⊢
          rw [hex]
          refine upon_of_mono (fun _ _ h => h) (fun v W' h => ?_) _ hs
          obtain ⟨_, u, hu, hb, hvv⟩ := h
          have h5 := put_inj_val hu (puts ops a0 vals (fun j => listed.getD j true) m) (by rw [puts_size, puts_size])
          rw [h5]
          exact hnext u W' hb hvv
        · exact absurd h3.1 (by simp)
      · rename_i hwt
        rw [if_neg hwt] at hs
        obtain ⟨_, u, hu, hb, hvv⟩ := hs
        have h5 := put_inj_val hu (puts ops a0 vals (fun j => listed.getD j true) m) (by rw [puts_size, puts_size])
        rw [h5]
        exact hnext u w hb hvv
end

/-- What does not change while memory grows. -/
def Stable (p : Value → World → Prop) : Prop := ∀ v W W', p v W → Below W.heap.size W W' → p v W'
def StableL : List (Value → World → Prop) → Prop
  | [] => True
  | p :: ps => Stable p ∧ StableL ps
def atV (Vs : List (Value → World → Prop)) (i : Nat) : Value → World → Prop := (Vs[i]?).getD (fun _ _ => True)
theorem stableL_at : ∀ (Vs : List (Value → World → Prop)), StableL Vs → ∀ i, Stable (atV Vs i)
  | [], _, i => fun _ _ _ _ _ => by simp [atV]
  | p :: ps, h, 0 => by simpa [atV] using h.1
  | p :: ps, h, i + 1 => by
    have := stableL_at ps h.2 i
    simpa [atV] using this
theorem stable_true : Stable (fun _ _ => True) := fun _ _ _ _ _ => trivial
theorem stable_eq (c : Value) : Stable (fun v _ => v = c) := fun _ _ _ h _ => h
theorem stable_pure (p : Value → Prop) : Stable (fun v _ => p v) := fun _ _ _ h _ => h

/-- The frame behind the first ones. -/
def lexL (vals : Nat → Value) : Nat → List Oper → Act → Act
  | _, [], a => a
  | k, o :: l, a => lexL vals (k + 1) l (a.put o.dst (vals k))

theorem steps_at {P : Program} {ops : Array Oper} {w : World} {V : Nat → Value → World → Prop} (a : Act) (m : Nat) : ∀ (l : List Oper) (k : Nat), k + l.length = m → (∀ j, j < l.length → l[j]? = ops[k + j]?) →
    stepsFrom P ops w V k l (fun vals => puts ops a vals (fun _ => true) k) → ∀ i o, k ≤ i → i < m → ops[i]? = some o → ∀ vals W, Below w.heap.size w W → (∀ e ∈ o.after, Region.binds .any e = true → V e.on (vals e.on) W) →
      wpList P ops (monoPost (V i) o (puts ops a vals (fun _ => true) i) W) [o] (puts ops a vals (fun _ => true) i) W
  | [], k, hk, _, _, i, o, h1, h2, _ => by simp at hk; omega
  | x :: l, k, hk, hl, hs, i, o, h1, h2, ho => by
    have hx : ops[k]? = some x := by simpa using (hl 0 (by simp)).symm
    by_cases e : i = k
    · subst e
      have : o = x := Option.some.inj (ho.symm.trans hx)
      subst this
      exact hs.1
    · have hfr : (fun vals => (puts ops a vals (fun _ => true) k).put x.dst (vals k)) = fun vals => puts ops a vals (fun _ => true) (k + 1) := by
        funext vals
        have : dstAt ops k = x.dst := by unfold dstAt; rw [hx]; rfl
        simp only [puts, if_true, this]
      have hs2 := hs.2
      rw [hfr] at hs2
      exact steps_at a m l (k + 1) (by simp at hk; omega) (fun j hj => by have := hl (j + 1) (by simp; omega); simpa [Nat.add_assoc, Nat.add_comm 1 j] using this) hs2 i o (by omega) h2 ho

theorem lexL_puts (ops : Array Oper) (a : Act) (vals : Nat → Value) : ∀ (l : List Oper) (k : Nat), (∀ j, j < l.length → l[j]? = ops[k + j]?) → lexL vals k l (puts ops a vals (fun _ => true) k) = puts ops a vals (fun _ => true) (k + l.length)
  | [], k, _ => rfl
  | x :: l, k, hl => by
    have hx : ops[k]? = some x := by simpa using (hl 0 (by simp)).symm
    have hfr : (puts ops a vals (fun _ => true) k).put x.dst (vals k) = puts ops a vals (fun _ => true) (k + 1) := by
      have : dstAt ops k = x.dst := by unfold dstAt; rw [hx]; rfl
      simp only [puts, if_true, this]
    simp only [lexL, hfr]
    rw [lexL_puts ops a vals l (k + 1) (fun j hj => by have := hl (j + 1) (by simp; omega); simpa [Nat.add_assoc, Nat.add_comm 1 j] using this)]
    congr 1
    simp only [List.length_cons]
    omega

theorem leftN_start (n k : Nat) (hk : k ≤ n) : leftN (Array.replicate n false) k = k := by
  induction k with
  | zero => rfl
  | succ k ih =>
    unfold leftN
    rw [ih (by omega)]
    simp [show k < n by omega]
    omega

/-- **A region whose order is open: its first m operations each by itself, the others behind them.** -/
theorem wp_region_mono {P : Program} {id : Nat} {Q : Exit → Act → World → Prop} {a : Act} {w : World} {l : List Oper} (m : Nat) (hm : P.follows .mixedOrders = true) (hB : monoB l.toArray m = true)
    (Vs : List (Value → World → Prop)) (hV : StableL Vs) (hs : stepsFrom P l.toArray w (atV Vs) 0 (l.take m) (fun _ => a))
    (hend : ∀ vals W, Below w.heap.size w W → (∀ i, i < m → atV Vs i (vals i) W) → wpList P l.toArray Q (l.drop m) (lexL vals 0 (l.take m) a) W) :
    (Code.region id l.toArray true).wp P Q a w := by
  have hok := monoB_ok hB
  have hml : m ≤ l.length := by simpa using hok.le
  have hlen : (l.take m).length = m := by simp; omega
  have hget : ∀ j, j < (l.take m).length → (l.take m)[j]? = l.toArray[0 + j]? := fun j hj => by
    rw [hlen] at hj
    simp [hj]
  have hst := steps_at (P := P) (w := w) (V := atV Vs) a m (l.take m) 0 (by omega) hget hs
  refine wp_region_any hm ?_
  have h := any_mono (P := P) (Q := Q) hok a w (atV Vs) (fun i v W W' h hb => stableL_at Vs hV i v W W' h hb) (fun i o hi ho => hst i o (Nat.zero_le _) hi ho)
    (fun vals W hW hv => by
      have h1 := hend vals W hW hv
      have h2 := lexL_puts l.toArray a vals (l.take m) 0 hget
      rw [hlen, Nat.zero_add] at h2
      have h3 : puts l.toArray a vals (fun _ => true) 0 = a := rfl
      rw [h3] at h2
      rw [← h2]
      simpa using h1)
    l.toArray.size (Array.replicate l.toArray.size false) (fun _ => undef) { w with drawn := w.drawn + 1 } (by simp) (fun j h1 h2 => by
      have h2' : j < l.length := by simpa using h2
      simp [h2'])
    (by rw [leftN_start _ _ hok.le]; have := hok.le; omega) (below_drewN (Below.refl w.heap.size w) 1) (fun j hj hj2 => by
      have h2' : j < l.length := by omega
      simp [h2'] at hj2)
  rwa [puts_none _ _ _ _ _ (fun j hj => by
    have h2' : j < l.length := by omega
    simp [h2'])] at h

/-- Derived/StillTail's law, the draw by its name. -/
theorem still_tail {P : Program} {id : Nat} {Q : Exit → Act → World → Prop} {a : Act} {w : World} {l : List Oper} (n : Nat) (hm : P.follows .mixedOrders = true) (hB : Region.lexTailB .any l.toArray n = true)
    (h : wpStill P l.toArray w.drew (fun a' => wpList P l.toArray Q (l.drop n) a' w.drew) (l.take n) a) : (Code.region id l.toArray true).wp P Q a w := wp_region_still_tail n hm hB h

/-- A region of open order, each of whose operations yields one value in every world that has grown out of the one at hand: Derived/Deep/Quiet's law at that class. -/
theorem region_scalar {P : Program} {id : Nat} {Q : Exit → Act → World → Prop} {a : Act} {w : World} {l : List Oper} (hm : P.follows .mixedOrders = true) (hB : Region.lexB .any l.toArray = true)
    (h : wpQuiet P l.toArray (fun W => Below w.heap.size w W) (fun a' => ∀ W, Below w.heap.size w W → Q .normal a' W) l a) : (Code.region id l.toArray true).wp P Q a w :=
  wp_region_quiet (C := fun W => Below w.heap.size w W) hm hB (below_drewN (Below.refl w.heap.size w) 1) (by simpa using h)
theorem scalar_want {P : Program} {ops : Array Oper} {C : World → Prop} {Q : Act → Prop} {a : Act} {o : Oper} {rest : List Oper} (v : Value) (hw : Region.wanted o (yielded ops a.tmps) = true)
    (h : ∀ W, C W → Oper.quietUpon P C W v ((execOp a.eval o).run P W)) (h2 : wpQuiet P ops C Q rest (a.put o.dst v)) : wpQuiet P ops C Q (o :: rest) a := by
  simp only [wpQuiet]
  rw [if_pos hw]
  exact ⟨v, h, h2⟩
theorem scalar_skip {P : Program} {ops : Array Oper} {C : World → Prop} {Q : Act → Prop} {a : Act} {o : Oper} {rest : List Oper} (hw : Region.wanted o (yielded ops a.tmps) = false)
    (h2 : wpQuiet P ops C Q rest (a.put o.dst undef)) : wpQuiet P ops C Q (o :: rest) a := by
  simp only [wpQuiet]
  rw [if_neg (by simp [hw])]
  exact h2

/-- A world that has grown out of w. -/
structure Grow (w : World) where
  W : World
  h : Below w.heap.size w W
instance (w : World) : Nonempty (Grow w) := ⟨⟨w, Below.refl _ _⟩⟩
def ext (w : World) (x : Grow w) : World := x.W
theorem ext_cell (w : World) (x : Grow w) (b o : Nat) (h : b < w.heap.size) : (ext w x).cell? ⟨b, o, none⟩ = w.cell? ⟨b, o, none⟩ := x.h.cell (p := ⟨b, o, none⟩) h
theorem ext_below (w : World) (x : Grow w) : Below w.heap.size w (ext w x) := x.h
/-- The same region law at the worlds that have grown, each by its name. -/
theorem region_ext {P : Program} {id : Nat} {Q : Exit → Act → World → Prop} {a : Act} {w : World} {l : List Oper} (hm : P.follows .mixedOrders = true) (hB : Region.lexB .any l.toArray = true)
    (h : wpQuiet P l.toArray (fun W => ∃ x, W = ext w x) (fun a' => ∀ W, (∃ x, W = ext w x) → Q .normal a' W) l a) : (Code.region id l.toArray true).wp P Q a w :=
  wp_region_quiet (C := fun W => ∃ x, W = ext w x) hm hB ⟨⟨{ w with drawn := w.drawn + 1 }, below_drewN (Below.refl w.heap.size w) 1⟩, rfl⟩ (by simpa using h)
theorem ext_call {P : Program} {f : FuncId} {args : Array Value} {w : World} {x : Grow w} {v : Value}
    (h : Calls P f args (ext w x) fun e w' => e = .returned v ∧ Below (ext w x).heap.size (ext w x) w') : Calls P f args (ext w x) fun e w' => e = .returned v ∧ ∃ y, w' = ext w y :=
  h.mono fun _ w' ⟨he, hb⟩ => ⟨he, ⟨w', below_to (ext_below w x) hb⟩, rfl⟩

end Go.Proofs.YtmmakkaolknbaaaGreatDoor
