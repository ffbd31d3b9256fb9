/- Regions that draw their order, by facts, walked in the order of the text: each operation by itself, over a frame in which the operations ahead of it have left their values; of these it knows what those tell that it waits for. -/
import Derived.Test.YtpppfeldnbjdpaaGreatDoorB5
namespace Go.Proofs.YtpppfeldnbjdpaaGreatDoor
open Go Go.RowKit
section
variable {P : Program} {ops : Array Oper} {md : Region.Mode}

/-- What is told of operation k's value: which it is, or the fact. -/
def factF (c : Nat → Option Value) (Φ : Nat → Value → World → Prop) (k : Nat) (v : Value) (w : World) : Prop :=
  match c k with
  | some u => v = u
  | none => Φ k v w

/-- What of Γ operation k may lean on. -/
def ctxF (S : Nat → Nat → Bool) (k : Nat) : List (Nat × (World → Prop)) → World → Prop
  | [], _ => True
  | p :: Γ, w => (S k p.1 = true → p.2 w) ∧ ctxF S k Γ w
def allF : List (Nat × (World → Prop)) → World → Prop
  | [], _ => True
  | p :: Γ, w => p.2 w ∧ allF Γ w

/-- One operation by itself. -/
def oneF (P : Program) (ops : Array Oper) (St : World → World → Prop) (φ : Value → World → Prop) (o : Oper) (b : Act) (w : World) : Prop :=
  ∀ Q : Exit → Act → World → Prop, (∀ u w', St w w' → φ u w' → Q .normal (b.put o.dst u) w') → wpList P ops Q [o] b w

/-- The walk in the order of the text. -/
def walkF (P : Program) (ops : Array Oper) (D : World → Prop) (St : World → World → Prop) (S : Nat → Nat → Bool) (c : Nat → Option Value) (Φ : Nat → Value → World → Prop) (E : Act → World → Prop) : Nat → List Oper → Act → List (Nat × (World → Prop)) → Prop
  | _, [], b, Γ => ∀ w, D w → allF Γ w → E b w
  | k, o :: r, b, Γ => (∀ w, D w → ctxF S k Γ w → oneF P ops St (factF c Φ k) o b w) ∧
    match c k with
    | some u => walkF P ops D St S c Φ E (k + 1) r (b.put o.dst u) Γ
    | none => ∀ v, walkF P ops D St S c Φ E (k + 1) r (b.put o.dst v) ((k, Φ k v) :: Γ)

def putsF (vs : Nat → Value) : Nat → List Oper → Act → Act
  | _, [], b => b
  | k, o :: r, b => putsF vs (k + 1) r (b.put o.dst (vs k))

def gamF (c : Nat → Option Value) (Φ : Nat → Value → World → Prop) (vs : Nat → Value) : Nat → Nat → List (Nat × (World → Prop)) → List (Nat × (World → Prop))
  | _, 0, Γ => Γ
  | k, n + 1, Γ => gamF c Φ vs (k + 1) n (match c k with | some _ => Γ | none => (k, Φ k (vs k)) :: Γ)

theorem walkF_at {D : World → Prop} {St : World → World → Prop} {S : Nat → Nat → Bool} {c : Nat → Option Value} {Φ : Nat → Value → World → Prop} {E : Act → World → Prop} {vs : Nat → Value} (hvs : ∀ k u, c k = some u → vs k = u) :
    ∀ (l : List Oper) (k : Nat) (b : Act) (Γ : List (Nat × (World → Prop))), walkF P ops D St S c Φ E k l b Γ →
      (∀ i o, l[i]? = some o → ∀ w, D w → ctxF S (k + i) (gamF c Φ vs k i Γ) w → oneF P ops St (factF c Φ (k + i)) o (putsF vs k (l.take i) b) w) ∧
      (∀ w, D w → allF (gamF c Φ vs k l.length Γ) w → E (putsF vs k l b) w)
  | [], k, b, Γ, h => ⟨fun i o hi => by simp at hi, fun w hw ha => h w hw ha⟩
  | o :: r, k, b, Γ, h => by
    obtain ⟨h1, h2⟩ := h
    have hrest : walkF P ops D St S c Φ E (k + 1) r (b.put o.dst (vs k)) (match c k with | some _ => Γ | none => (k, Φ k (vs k)) :: Γ) := by
      cases hc : c k with
      | some u => rw [hc] at h2; rw [hvs k u hc]; exact h2
      | none => rw [hc] at h2; exact h2 (vs k)
    obtain ⟨h3, h4⟩ := walkF_at hvs r (k + 1) _ _ hrest
    refine ⟨fun i o' hi w hw hctx => ?_, fun w hw ha => h4 w hw ha⟩
    cases i with
    | zero =>
      have : o = o' := by simpa using hi
      subst this
      exact h1 w hw hctx
    | succ i =>
      have := h3 i o' (by simpa using hi) w hw (by rw [Nat.add_assoc, Nat.add_comm 1 i]; exact hctx)
      rw [Nat.add_assoc, Nat.add_comm 1 i] at this
      exact this

theorem ctxF_gam {S : Nat → Nat → Bool} {c : Nat → Option Value} {Φ : Nat → Value → World → Prop} {vs : Nat → Value} {i : Nat} {w : World} : ∀ (n k : Nat) (Γ : List (Nat × (World → Prop))), ctxF S i Γ w →
    (∀ j, k ≤ j → j < k + n → c j = none → S i j = true → Φ j (vs j) w) → ctxF S i (gamF c Φ vs k n Γ) w
  | 0, _, _, h, _ => h
  | n + 1, k, Γ, h, hf => by
    refine ctxF_gam n (k + 1) _ ?_ (fun j h1 h2 => hf j (by omega) (by omega))
    cases hc : c k with
    | some u => exact h
    | none => exact ⟨fun hs => hf k (Nat.le_refl _) (by omega) hc hs, h⟩
theorem allF_gam {c : Nat → Option Value} {Φ : Nat → Value → World → Prop} {vs : Nat → Value} {w : World} : ∀ (n k : Nat) (Γ : List (Nat × (World → Prop))), allF Γ w →
    (∀ j, k ≤ j → j < k + n → c j = none → Φ j (vs j) w) → allF (gamF c Φ vs k n Γ) w
  | 0, _, _, h, _ => h
  | n + 1, k, Γ, h, hf => by
    refine allF_gam n (k + 1) _ ?_ (fun j h1 h2 => hf j (by omega) (by omega))
    cases hc : c k with
    | some u => exact h
    | none => exact ⟨hf k (Nat.le_refl _) (by omega) hc, h⟩

theorem putsF_size (vs : Nat → Value) : ∀ (l : List Oper) (k : Nat) (b : Act), (putsF vs k l b).tmps.size = b.tmps.size
  | [], _, _ => rfl
  | o :: r, k, b => by
    rw [putsF, putsF_size vs r]
    cases o.dst <;> simp [Act.put]
theorem putsF_defers (vs : Nat → Value) : ∀ (l : List Oper) (k : Nat) (b : Act), (putsF vs k l b).defers = b.defers
  | [], _, _ => rfl
  | o :: r, k, b => by
    rw [putsF, putsF_defers vs r]
    cases o.dst <;> rfl
theorem putsF_none (vs : Nat → Value) (t : Tmp) : ∀ (l : List Oper) (k : Nat) (b : Act), (∀ (j : Nat) (o : Oper), l[j]? = some o → o.dst ≠ some t) → (putsF vs k l b).tmps[t]? = b.tmps[t]?
  | [], _, _, _ => rfl
  | o :: r, k, b, h => by
    rw [putsF, putsF_none vs t r (k + 1) _ (fun j o' hj => h (j + 1) o' (by simpa using hj))]
    have h0 := h 0 o rfl
    cases hd : o.dst with
    | none => rfl
    | some d => simp [Act.put, Array.getElem?_setIfInBounds_ne (show d ≠ t from fun e => h0 (by rw [hd, e]))]
theorem putsF_some (vs : Nat → Value) (t : Tmp) : ∀ (l : List Oper) (k : Nat) (b : Act) (j : Nat) (o : Oper), l[j]? = some o → o.dst = some t → t < b.tmps.size → (∀ (i : Nat) (o' : Oper), l[i]? = some o' → o'.dst = some t → i = j) → (putsF vs k l b).tmps[t]? = some (vs (k + j))
  | [], _, _, j, o, h, _, _, _ => by simp at h
  | o :: r, k, b, 0, o', h, hd, ht, hu => by
    have : o = o' := by simpa using h
    subst this
    rw [putsF, putsF_none vs t r (k + 1) _ (fun i o1 hi hd1 => by have := hu (i + 1) o1 (by simpa using hi) hd1; omega), hd]
    simp [Act.put, ht]
  | o :: r, k, b, j + 1, o', h, hd, ht, hu => by
    rw [putsF, putsF_some vs t r (k + 1) _ j o' (by simpa using h) hd (by cases o.dst <;> simpa [Act.put] using ht) (fun i o1 hi hd1 => by have := hu (i + 1) o1 (by simpa using hi) hd1; omega)]
    congr 2
    omega

/-- Whatever an operation looks at is left by one that it waits for, or waits for it. -/
def lookB (ops : Array Oper) (n : Nat) (S : Nat → Nat → Bool) : Bool :=
  (List.range n).all fun i => match ops[i]? with
    | some o => Region.noSelect #[o] && (o.looksAt ops).all fun t => (List.range ops.size).all fun j => match ops[j]? with
      | some x => !(x.dst == some t) || (S i j && decide (j < i) && decide (j < n)) || (decide (i < j) && S j i) || i == j
      | none => true
    | none => true

/-- An operation whose value is left open has a temporary. -/
def openB (l : List Oper) (c : Nat → Option Value) (n : Nat) : Bool := (List.range n).all fun k => (c k).isSome || ((l[k]?).bind (·.dst)).isSome
theorem openB_spec {l : List Oper} {c : Nat → Option Value} {n k : Nat} {o : Oper} (h : openB l c n = true) (hk : k < n) (ho : l[k]? = some o) (hd : o.dst = none) (hc : c k = none) : False := by
  have := List.all_eq_true.1 h k (List.mem_range.2 hk)
  simp [hc, ho, hd] at this

theorem wanted_same {o : Oper} {a b : Act} (h : ∀ t, t ∈ o.looksAt ops → a.tmps[t]? = b.tmps[t]?) : Region.wanted o (yielded ops a.tmps) = Region.wanted o (yielded ops b.tmps) := by
  unfold Region.wanted
  cases hg : o.guard with
  | none => rfl
  | some gw =>
    obtain ⟨g, want⟩ := gw
    have hy : yielded ops a.tmps g = yielded ops b.tmps g := by
      unfold yielded
      cases ht : (ops[g]?).bind (·.dst) with
      | none => rfl
      | some t =>
        have hm : t ∈ o.looksAt ops := by
          unfold Oper.looksAt
          refine List.mem_append_right _ ?_
          simp [hg, ht]
        simp only [Option.bind_some]
        rw [h t hm]
    simp only [hy]
theorem exec_same {o : Oper} {a b : Act} (hs : ∀ cs b, o.op ≠ .select cs b) (h : ∀ t, t ∈ o.looksAt ops → a.tmps[t]? = b.tmps[t]?) : execOp a.eval o = execOp b.eval o :=
  execOp_congr o hs fun x hx => by
    cases x with
    | tmp t =>
      have := h t (List.mem_append_left _ (List.mem_filterMap.2 ⟨.tmp t, by simpa using hx, rfl⟩))
      simp only [Act.eval, Array.getD_eq_getD_getElem?, this]
    | _ => rfl

theorem put_inj {b : Act} {d : Tmp} {u v : Value} (hd : d < b.tmps.size) (h : b.put (some d) u = b.put (some d) v) : u = v := by
  have := congrArg (fun a : Act => a.tmps[d]?) h
  simpa [Act.put, hd] using this

theorem factStep_of_oneF {St : World → World → Prop} {φ : Value → World → Prop} {o : Oper} {a b : Act} {w : World} (hs : ∀ cs b, o.op ≠ .select cs b) (h : ∀ t, t ∈ o.looksAt ops → a.tmps[t]? = b.tmps[t]?)
    (hd : ∀ d, o.dst = some d → d < b.tmps.size) (h1 : oneF P ops St φ o b w) : factStep P ops o a w St (fun v w' => (∃ d, o.dst = some d) → φ v w') := by
  have h2 := h1 (fun e a1 w1 => e = .normal ∧ ∃ u, a1 = b.put o.dst u ∧ St w w1 ∧ φ u w1) (fun u w' hst hu => ⟨rfl, u, rfl, hst, hu⟩)
  have hLO : ¬ LetsOut (fun (e : Exit) (a1 : Act) (w1 : World) => e = .normal ∧ ∃ u, a1 = b.put o.dst u ∧ St w w1 ∧ φ u w1) := by
    rintro ⟨_, _, h0, _⟩; cases h0
  have hput : ∀ u v w1, b.put o.dst v = b.put o.dst u → φ u w1 → (∃ d, o.dst = some d) → φ v w1 := fun u v w1 he hu hsome => by
    obtain ⟨d, hd1⟩ := hsome
    rw [hd1] at he
    rw [put_inj (hd d hd1) he]; exact hu
  unfold wpList at h2
  unfold factStep
  rw [wanted_same h, exec_same hs h]
  by_cases hw : Region.wanted o (yielded ops b.tmps) = true
  · rw [if_pos hw] at h2 ⊢
    rcases h2 with h2 | ⟨_, h2⟩
    · unfold Oper.wp at h2
      generalize (execOp b.eval o).run P w = r at *
      cases r with
      | ok nx w' =>
        cases nx <;> simp only [Oper.upon, wpList] at h2 <;> simp only []
        case value u => obtain ⟨_, u1, he, hst, hu⟩ := h2; exact ⟨hst, hput _ _ _ he hu⟩
        case skip => obtain ⟨_, u1, he, hst, hu⟩ := h2; exact ⟨hst, hput _ _ _ he hu⟩
        case defer dd =>
          obtain ⟨_, u1, he, _⟩ := h2
          have := congrArg Act.defers he
          have h3 : (({ b with defers := dd :: b.defers } : Act).put o.dst undef).defers = dd :: b.defers := by cases o.dst <;> rfl
          have h4 : (b.put o.dst u1).defers = b.defers := by cases o.dst <;> rfl
          rw [h3, h4] at this
          exact absurd this (by simp)
        case enter f args =>
          refine h2.mono fun e w'' he => ?_
          cases e with
          | returned v => obtain ⟨_, u1, he, hst, hu⟩ := he; exact ⟨v, rfl, hst, hput _ _ _ he hu⟩
          | panicked ch => obtain ⟨h0, _⟩ := he; cases h0
          | outgrown => exact absurd he hLO
        case row rr args => exact h2.mono fun v w'' ⟨_, u1, he, hst, hu⟩ => ⟨hst, hput _ _ _ he hu⟩
      | halt x w' =>
        cases x <;> simp only [Oper.upon] at h2
        case panic v => obtain ⟨h0, _⟩ := h2; cases h0
    · exact absurd h2 hLO
  · rw [if_neg hw] at h2 ⊢
    simp only [wpList] at h2
    obtain ⟨_, u1, he, hst, hu⟩ := h2
    exact ⟨hst, hput _ _ _ he hu⟩

theorem region_walk {id : Nat} {Q : Exit → Act → World → Prop} {a : Act} {w : World} {l : List Oper} (n : Nat) (D : World → Prop) (St : World → World → Prop) (c : Nat → Option Value) (Φ : Nat → Value → World → Prop) (S : Nat → Nat → Bool)
    (hm : P.follows .mixedOrders = true) (hB : (factsB .any l.toArray n S && lookB l.toArray n S && openB l c n) = true) (hds : (l.all fun o => match o.dst with | some d => decide (d < a.tmps.size) | none => true) = true) (hD : D { w with drawn := w.drawn + 1 })
    (hstD : ∀ w w', D w → St w w' → D w') (hstF : ∀ i v w w', D w → Φ i v w → St w w' → Φ i v w')
    (h : walkF P l.toArray D St S c Φ (fun b w' => wpList P l.toArray Q (l.drop n) b w') 0 (l.take n) a []) : (Code.region id l.toArray true).wp P Q a w := by
  obtain ⟨hB, hO⟩ := Bool.and_eq_true_iff.1 hB
  obtain ⟨hB, hL⟩ := Bool.and_eq_true_iff.1 hB
  have hB' := hB
  simp only [factsB, Bool.and_eq_true, decide_eq_true_eq] at hB'
  obtain ⟨⟨⟨⟨hn, hW⟩, hT⟩, hU⟩, hseq⟩ := hB'
  have hn' : n ≤ l.length := by simpa using hn
  have huniq : ∀ (i j : Nat) (x y : Oper) (d : Tmp), l[i]? = some x → l[j]? = some y → x.dst = some d → y.dst = some d → i = j := fun i j x y d hx hy h1 h2 => by
    have hi := (List.getElem?_eq_some_iff.1 hx).1
    have hj := (List.getElem?_eq_some_iff.1 hy).1
    have h3 := List.all_eq_true.1 (List.all_eq_true.1 hU i (List.mem_range.2 (by simpa using hi))) j (List.mem_range.2 (by simpa using hj))
    simp only [Bool.or_eq_true, beq_iff_eq] at h3
    exact h3.resolve_right fun h => uniqAt_spec h (by simpa using hx) (by simpa using hy) h1 h2
  have hdst : ∀ (j : Nat) (o : Oper) (d : Tmp), l[j]? = some o → o.dst = some d → d < a.tmps.size := fun j o d hj hd => by
    have h1 := List.all_eq_true.1 hds o (List.mem_of_getElem? hj)
    rw [hd] at h1
    simpa using h1
  have htk : ∀ (i j : Nat) (o : Oper), (l.take i)[j]? = some o → j < i ∧ l[j]? = some o := fun i j o hj => by
    rw [List.getElem?_take] at hj
    split at hj
    · exact ⟨by assumption, hj⟩
    · cases hj
  let vs (a' : Act) : Nat → Value := fun j => match c j with
    | some u => u
    | none => match (l[j]?).bind (·.dst) with
      | some d => a'.tmps.getD d undef
      | none => undef
  have hvs : ∀ a' k u, c k = some u → vs a' k = u := fun a' k u hc => by simp only [vs, hc]
  have hvd : ∀ (a' : Act) (w' : World) (j : Nat) (oj : Oper) (d : Tmp), l[j]? = some oj → oj.dst = some d → factF c Φ j (a'.tmps.getD d undef) w' → vs a' j = a'.tmps.getD d undef := fun a' w' j oj d hj hd hf => by
    unfold factF at hf
    simp only [vs]
    cases hc : c j with
    | some u => rw [hc] at hf; exact hf.symm
    | none => simp [hj, hd]
  refine region_facts n D St (fun j v w' => (∃ oj d, l[j]? = some oj ∧ oj.dst = some d) → factF c Φ j v w') S hm hB hds hD hstD (fun i v w1 w2 hD1 hf hst hex => ?_) (fun i o hi ho a' w' hDw hsz hfacts hrest => ?_) (fun a' w' hDw hdef hsz hfacts hrest => ?_)
  · have h1 := hf hex
    unfold factF at *
    cases hc : c i with
    | some u => rw [hc] at h1; exact h1
    | none => rw [hc] at h1; exact hstF i v w1 w2 hD1 h1 hst
  · have hil : i < l.length := by omega
    have h1 := (walkF_at (vs := vs a') (hvs a') (l.take n) 0 a [] h).1 i o (by rw [List.getElem?_take, if_pos hi]; exact ho) w' hDw (ctxF_gam i 0 [] trivial fun j _ hji hc hS => by
      have hj : j < i := by omega
      have hjl : j < l.length := by omega
      have hj0 : l[j]? = some l[j] := List.getElem?_eq_getElem hjl
      cases hd : l[j].dst with
      | none => exact (openB_spec hO (by omega) hj0 hd hc).elim
      | some d =>
        have hf := hfacts j _ d (by rw [Nat.zero_add] at hS; exact hS) hj0 hd ⟨_, d, hj0, hd⟩
        rw [hvd a' w' j _ d hj0 hd hf]
        unfold factF at hf
        rw [hc] at hf
        exact hf)
    rw [Nat.zero_add, List.take_take, Nat.min_eq_left (Nat.le_of_lt hi)] at h1
    have hli := List.all_eq_true.1 hL i (List.mem_range.2 hi)
    have ho' : l.toArray[i]? = some o := by simpa using ho
    simp only [ho', Bool.and_eq_true] at hli
    have hstep := factStep_of_oneF (a := a') (Region.noSelect_spec hli.1 0 o · · rfl) (fun t ht => by
      have h3 := List.all_eq_true.1 hli.2 t ht
      have hcase : ∀ (j : Nat) (x : Oper), l[j]? = some x → x.dst = some t → (S i j = true ∧ j < i ∧ j < n) ∨ (i < j ∧ S j i = true) ∨ i = j := fun j x hj hd => by
        have hjl := (List.getElem?_eq_some_iff.1 hj).1
        have h4 := List.all_eq_true.1 h3 j (List.mem_range.2 (by simpa using hjl))
        have hj' : l.toArray[j]? = some x := by simpa using hj
        simp only [hj', hd, Bool.or_eq_true, Bool.and_eq_true, decide_eq_true_eq, beq_iff_eq] at h4
        simp only [BEq.rfl, Bool.not_true, Bool.false_eq_true, false_or] at h4
        rcases h4 with (h4 | h4) | h4
        · exact .inl ⟨h4.1.1, h4.1.2, h4.2⟩
        · exact .inr (.inl h4)
        · exact .inr (.inr h4)
      by_cases hex : ∃ (j : Nat) (x : Oper), l[j]? = some x ∧ x.dst = some t ∧ S i j = true ∧ j < i
      · obtain ⟨j, x, hj, hd, hS, hji⟩ := hex
        have hf := hfacts j x t hS hj hd ⟨x, t, hj, hd⟩
        have hts : t < a.tmps.size := hdst j x t hj hd
        rw [putsF_some (vs a') t (l.take i) 0 a j x (by rw [List.getElem?_take, if_pos hji]; exact hj) hd hts (fun i' o' hi' hd' => huniq i' j o' x t (htk i i' o' hi').2 hj hd' hd), Nat.zero_add, hvd a' w' j x t hj hd hf]
        have : t < a'.tmps.size := by rw [hsz]; exact hts
        simp [this]
      · rw [putsF_none (vs a') t (l.take i) 0 a (fun j o' hj hd' => by
          obtain ⟨h5, h6⟩ := htk i j o' hj
          rcases hcase j o' h6 hd' with h7 | h7 | h7
          · exact hex ⟨j, o', h6, hd', h7.1, h7.2.1⟩
          · omega
          · omega)]
        exact hrest t fun j oj hj hd => by
          rcases hcase j oj hj hd with h7 | h7 | h7
          · exact absurd ⟨j, oj, hj, hd, h7.1, h7.2.1⟩ hex
          · exact .inr h7.2
          · exact .inl h7.symm) (fun d hd => by rw [putsF_size]; exact hdst i o d ho hd) h1
    unfold factStep at hstep ⊢
    split at hstep
    · rename_i hw
      rw [if_pos hw]
      generalize (execOp a'.eval o).run P w' = r at *
      cases r with
      | ok nx w2 =>
        cases nx <;> simp only [] at hstep ⊢
        case value u => exact ⟨hstep.1, fun ⟨oj, d, hj, hd⟩ => hstep.2 ⟨d, by rw [← Option.some.inj (hj.symm.trans ho)]; exact hd⟩⟩
        case skip => exact ⟨hstep.1, fun ⟨oj, d, hj, hd⟩ => hstep.2 ⟨d, by rw [← Option.some.inj (hj.symm.trans ho)]; exact hd⟩⟩
        case enter f args => exact hstep.mono fun e w3 ⟨u, he, h1, h2⟩ => ⟨u, he, h1, fun ⟨oj, d, hj, hd⟩ => h2 ⟨d, by rw [← Option.some.inj (hj.symm.trans ho)]; exact hd⟩⟩
        case row rr args => exact hstep.mono fun u w3 ⟨h1, h2⟩ => ⟨h1, fun ⟨oj, d, hj, hd⟩ => h2 ⟨d, by rw [← Option.some.inj (hj.symm.trans ho)]; exact hd⟩⟩
      | halt x w2 => simp only [] at hstep
    · rename_i hw
      rw [if_neg hw]
      exact ⟨hstep.1, fun ⟨oj, d, hj, hd⟩ => hstep.2 ⟨d, by rw [← Option.some.inj (hj.symm.trans ho)]; exact hd⟩⟩
  · have hlen : (l.take n).length = n := by simp; omega
    have h1 := (walkF_at (vs := vs a') (hvs a') (l.take n) 0 a [] h).2 w' hDw (allF_gam _ 0 [] trivial fun j _ hj hc => by
      have hjn : j < n := by rw [hlen] at hj; omega
      have hj0 : l[j]? = some (l[j]'(by omega)) := List.getElem?_eq_getElem (by omega)
      cases hd : (l[j]'(by omega)).dst with
      | none => exact (openB_spec hO hjn hj0 hd hc).elim
      | some d =>
        have hf := hfacts j _ d hjn hj0 hd ⟨_, d, hj0, hd⟩
        rw [hvd a' w' j _ d hj0 hd hf]
        unfold factF at hf
        rw [hc] at hf
        exact hf)
    have heq : putsF (vs a') 0 (l.take n) a = a' := by
      have htm : (putsF (vs a') 0 (l.take n) a).tmps = a'.tmps := by
        refine Array.ext_getElem? fun t => ?_
        by_cases hex : ∃ (j : Nat) (x : Oper), j < n ∧ l[j]? = some x ∧ x.dst = some t
        · obtain ⟨j, x, hjn, hj, hd⟩ := hex
          have hf := hfacts j x t hjn hj hd ⟨x, t, hj, hd⟩
          have hts : t < a.tmps.size := hdst j x t hj hd
          rw [putsF_some (vs a') t (l.take n) 0 a j x (by rw [List.getElem?_take, if_pos hjn]; exact hj) hd hts (fun i' o' hi' hd' => huniq i' j o' x t (htk n i' o' hi').2 hj hd' hd), Nat.zero_add, hvd a' w' j x t hj hd hf]
          have : t < a'.tmps.size := by rw [hsz]; exact hts
          simp [this]
        · rw [putsF_none (vs a') t (l.take n) 0 a (fun j o' hj hd' => hex ⟨j, o', (htk n j o' hj).1, (htk n j o' hj).2, hd'⟩)]
          exact (hrest t fun j oj hj1 hj2 hd => hex ⟨j, oj, hj1, hj2, hd⟩).symm
      have hdf := putsF_defers (vs a') (l.take n) 0 a
      obtain ⟨t1, d1⟩ := a'
      simp only at htm hdef
      rw [← hdef] at hdf
      generalize putsF (vs ⟨t1, d1⟩) 0 (l.take n) a = x at *
      obtain ⟨t2, d2⟩ := x
      simp only at htm hdf
      rw [htm, hdf]
    rw [heq] at h1
    exact h1
end
end Go.Proofs.YtpppfeldnbjdpaaGreatDoor
