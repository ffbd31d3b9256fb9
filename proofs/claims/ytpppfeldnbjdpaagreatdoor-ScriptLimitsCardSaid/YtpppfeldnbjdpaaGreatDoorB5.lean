/- Regions that draw their order, by facts: each operation, whenever it comes up behind what it waits for, yields a value and a world of which its own fact holds, and leaves the facts of the others; behind them a fixed tail. -/
import Derived.Test.YtpppfeldnbjdpaaGreatDoorB2
namespace Go.Proofs.YtpppfeldnbjdpaaGreatDoor
open Go Go.RowKit
section
variable {P : Program} {ops : Array Oper} {md : Region.Mode}

/-- One operation, from a frame and a world: a value of which the fact holds. -/
def factStep (P : Program) (ops : Array Oper) (o : Oper) (a : Act) (w : World) (St : World → World → Prop) (φ : Value → World → Prop) : Prop :=
  if Region.wanted o (yielded ops a.tmps) then
    match (execOp a.eval o).run P w with
    | .ok (.value u) w' => St w w' ∧ φ u w'
    | .ok .skip w' => St w w' ∧ φ undef w'
    | .ok (.enter f args) w' => Calls P f args w' fun e w'' => ∃ u, e = .returned u ∧ St w w'' ∧ φ u w''
    | .ok (.row row args) w' => Rows P row args w' fun u w'' => St w w'' ∧ φ u w''
    | _ => False
  else St w w ∧ φ undef w

/-- S i j: operation i comes up behind operation j. -/
def waitsB (md : Region.Mode) (ops : Array Oper) (S : Nat → Nat → Bool) : Bool :=
  (List.range ops.size).all fun i => match ops[i]? with
    | some o => (o.after.all fun e => !Region.binds md e || decide (e.on < i)) && (List.range ops.size).all fun j => !S i j || o.after.any fun e => Region.binds md e && decide (e.on < i) && (e.on == j || S e.on j)
    | none => true

/-- The state in the midst of the region. -/
structure Amid (a : Act) (ops : Array Oper) (n : Nat) (Φ : Nat → Value → World → Prop) (listed : Array Bool) (a' : Act) (w : World) : Prop where
  defers : a'.defers = a.defers
  size : a'.tmps.size = a.tmps.size
  rest : ∀ t, (∀ i o, ops[i]? = some o → listed.getD i false = true → o.dst ≠ some t) → a'.tmps[t]? = a.tmps[t]?
  facts : ∀ i o d, ops[i]? = some o → o.dst = some d → listed.getD i false = true → Φ i (a'.tmps.getD d undef) w

structure Closed (md : Region.Mode) (ops : Array Oper) (n : Nat) (listed : Array Bool) : Prop where
  size : listed.size = ops.size
  closed : ∀ j oj, ops[j]? = some oj → listed.getD j false = true → ∀ e ∈ oj.after, Region.binds md e = true → listed.getD e.on false = true
  tail : ∀ t, n ≤ t → listed.getD t false = false

theorem getD_fls {listed : Array Bool} {i : Nat} (h : listed.getD i false = true) : listed.getD i true = true := by
  rcases Nat.lt_or_ge i listed.size with h' | h'
  · simp [h'] at h ⊢; exact h
  · simp [Array.getElem?_eq_none h']

theorem Closed.set {n i : Nat} {listed : Array Bool} (inv : Closed md ops n listed) (hi : i ∈ Region.ready md ops listed) (hin : i < n) : Closed md ops n (listed.setIfInBounds i true) := by
  obtain ⟨_, oi, hoi, hall⟩ := mem_ready.1 hi
  refine ⟨by simp [inv.size], fun j oj hj hl e he hb => ?_, fun t ht => by rw [getD_set_ne false (by omega)]; exact inv.tail t ht⟩
  by_cases hij : i = j
  · subst hij
    have : oj = oi := Option.some.inj (hj.symm.trans hoi)
    subst this
    exact getD_set_true (hall e he hb)
  · rw [getD_set_ne false hij] at hl
    exact getD_set_true (inv.closed j oj hj hl e he hb)

theorem waits_spec {S : Nat → Nat → Bool} (h : waitsB md ops S = true) {i : Nat} {o : Oper} (ho : ops[i]? = some o) :
    (∀ e ∈ o.after, Region.binds md e = true → e.on < i) ∧ ∀ j, j < ops.size → S i j = true → ∃ e ∈ o.after, Region.binds md e = true ∧ e.on < i ∧ (e.on = j ∨ S e.on j = true) := by
  have hi : i < ops.size := (Array.getElem?_eq_some_iff.1 ho).1
  have h1 := List.all_eq_true.1 h i (List.mem_range.2 hi)
  simp only [ho, Bool.and_eq_true] at h1
  refine ⟨fun e he hb => ?_, fun j hj hS => ?_⟩
  · have := Array.all_eq_true'.1 h1.1 e he
    simpa [hb] using this
  · have h2 := List.all_eq_true.1 h1.2 j (List.mem_range.2 hj)
    simp only [hS, Bool.not_true, Bool.false_or] at h2
    obtain ⟨e, he, h3⟩ := Array.any_eq_true'.1 h2
    simp only [Bool.and_eq_true, Bool.or_eq_true, beq_iff_eq, decide_eq_true_eq] at h3
    exact ⟨e, he, h3.1.1, h3.1.2, h3.2⟩

/-- What is listed has all that it waits for listed. -/
theorem listed_of {S : Nat → Nat → Bool} (h : waitsB md ops S = true) {n : Nat} {listed : Array Bool} (inv : Closed md ops n listed) :
    ∀ (i : Nat) (o : Oper), ops[i]? = some o → (∀ e ∈ o.after, Region.binds md e = true → listed.getD e.on false = true) → ∀ j, j < ops.size → S i j = true → listed.getD j false = true := by
  intro i
  induction i using Nat.strongRecOn with
  | _ i ih =>
    intro o ho hall j hj hS
    obtain ⟨e, he, hb, hlt, h1⟩ := (waits_spec h ho).2 j hj hS
    have hl := hall e he hb
    rcases h1 with h1 | h1
    · exact h1 ▸ hl
    · have hsz : e.on < ops.size := Nat.lt_trans hlt (Array.getElem?_eq_some_iff.1 ho).1
      exact ih e.on hlt ops[e.on] (Array.getElem?_eq_getElem hsz) (inv.closed e.on _ (Array.getElem?_eq_getElem hsz) hl) j hj h1

/-- While an operation of the head is left, one comes up. -/
theorem comes_up {S : Nat → Nat → Bool} (h : waitsB md ops S = true) {n : Nat} {listed : Array Bool} (inv : Closed md ops n listed) (hn : n ≤ ops.size) :
    ∀ (i : Nat), i < n → listed.getD i true = false → Region.ready md ops listed ≠ [] := by
  intro i
  induction i using Nat.strongRecOn with
  | _ i ih =>
    intro hi hun
    have hsz : i < ops.size := by omega
    have ho := Array.getElem?_eq_getElem hsz
    by_cases hall : ∀ e ∈ ops[i].after, Region.binds md e = true → listed.getD e.on false = true
    · intro h0
      have : i ∈ Region.ready md ops listed := mem_ready.2 ⟨hun, ops[i], ho, hall⟩
      rw [h0] at this; cases this
    · obtain ⟨e, he⟩ := Classical.not_forall.1 hall
      obtain ⟨hm, he⟩ := Classical.not_imp.1 he
      obtain ⟨hb, hl⟩ := Classical.not_imp.1 he
      have hlt := (waits_spec h ho).1 e hm hb
      exact ih e.on hlt (by omega) (getD_in (by rw [inv.size]; omega) (by simpa using hl))

def cnt (listed : Array Bool) : Nat → Nat
  | 0 => 0
  | n + 1 => cnt listed n + (if listed.getD n true then 0 else 1)

theorem cnt_set_le (listed : Array Bool) (i : Nat) : ∀ n, cnt (listed.setIfInBounds i true) n ≤ cnt listed n
  | 0 => Nat.le_refl _
  | n + 1 => by
    have := cnt_set_le listed i n
    simp only [cnt]
    by_cases h : i = n
    · subst h
      have : (listed.setIfInBounds i true).getD i true = true := by
        rcases Nat.lt_or_ge i listed.size with h' | h'
        · simp [h']
        · simp [h']
      simp only [this, if_true]; omega
    · rw [getD_set_ne true h]; omega
theorem cnt_set_lt {listed : Array Bool} {i : Nat} (hun : listed.getD i true = false) : ∀ n, i < n → cnt (listed.setIfInBounds i true) n < cnt listed n
  | 0, h => absurd h (Nat.not_lt_zero _)
  | n + 1, h => by
    simp only [cnt]
    by_cases hin : i = n
    · subst hin
      have h1 := cnt_set_le listed i i
      have h2 : (listed.setIfInBounds i true).getD i true = true := by
        rcases Nat.lt_or_ge i listed.size with h' | h'
        · simp [h']
        · simp [h']
      simp only [h2, hun, if_true]; simp; omega
    · have := cnt_set_lt hun n (by omega)
      rw [getD_set_ne true hin]; omega
theorem cnt_zero {listed : Array Bool} : ∀ {n : Nat}, cnt listed n = 0 → ∀ i, i < n → listed.getD i true = true
  | 0, _, i, h => absurd h (Nat.not_lt_zero _)
  | n + 1, h, i, hi => by
    simp only [cnt] at h
    by_cases hin : i = n
    · subst hin
      rcases hb : listed.getD i true with _ | _
      · rw [hb] at h; simp at h
      · rfl
    · exact cnt_zero (n := n) (by omega) i (by omega)
theorem cnt_pos {listed : Array Bool} : ∀ {n : Nat}, cnt listed n ≠ 0 → ∃ i, i < n ∧ listed.getD i true = false
  | 0, h => absurd rfl h
  | n + 1, h => by
    simp only [cnt] at h
    rcases hb : listed.getD n true with _ | _
    · exact ⟨n, by omega, hb⟩
    · obtain ⟨i, h1, h2⟩ := cnt_pos (n := n) (by rw [hb] at h; simpa using h)
      exact ⟨i, by omega, h2⟩
theorem cnt_new (m : Nat) : ∀ n, cnt (Array.replicate m false) n ≤ n
  | 0 => Nat.le_refl _
  | n + 1 => by have := cnt_new m n; simp only [cnt]; split <;> omega

theorem wpAny_of_seq_le {Q' : Exit → Act → World → Prop} : ∀ (l : List Oper) (k : Nat) (listed : Array Bool) (a : Act) (w : World) (fuel : Nat), (∀ j, l[j]? = ops[k + j]?) → l.length ≤ fuel →
    Region.seqB md ops l.length k listed = true → wpList P ops Q' l a w → wpAny P md ops Q' fuel listed a w
  | [], _, _, _, _, 0, _, _, hB, h => ⟨by simpa [Region.seqB] using hB, h⟩
  | [], _, listed, _, _, fuel + 1, _, _, hB, h => ⟨fun _ => h, fun i hi => by rw [show Region.ready md ops listed = [] by simpa [Region.seqB] using hB] at hi; cases hi⟩
  | o :: l, k, listed, a, w, 0, _, hf, _, _ => absurd hf (by simp)
  | o :: l, k, listed, a, w, fuel + 1, hl, hf, hB, h => by
    have h0 : ops[k]? = some o := by simpa using (hl 0).symm
    simp only [List.length_cons, Region.seqB, Bool.and_eq_true, decide_eq_true_eq] at hB
    refine ⟨fun h1 => (by rw [hB.1] at h1; cases h1), fun i hi => ?_⟩
    rw [hB.1] at hi
    have hik : i = k := by simpa using hi
    subst hik
    have hw : wpOp P ops Q' i (wpList P ops Q' l) a w := by unfold wpOp; simp only [h0]; exact h
    exact wpOp_mono (fun a' w' h' => wpAny_of_seq_le l (i + 1) _ a' w' fuel (fun j => by have := hl (j + 1); simpa [Nat.add_assoc, Nat.add_comm 1 j] using this) (by simpa using hf) hB.2 h') hw

/-- All that stands ahead of n is listed. -/
def headAll (m n : Nat) : Array Bool := ((List.range m).map fun i => decide (i < n)).toArray

theorem getD_eq {x y : Array Bool} (hs : x.size = y.size) (h : ∀ i, i < x.size → x.getD i true = y.getD i true) : x = y := by
  apply Array.ext hs
  intro i h1 h2
  have := h i h1
  simpa [h1, h2] using this

def sameDst (x y : Oper) : Bool := match x.dst, y.dst with
  | some a, some b => a == b
  | _, _ => false
def uniqAt (ops : Array Oper) (i j : Nat) : Bool := match ops[i]?, ops[j]? with
  | some x, some y => !sameDst x y
  | _, _ => true
theorem uniqAt_spec {i j : Nat} {x y : Oper} {d : Tmp} (h : uniqAt ops i j = true) (hx : ops[i]? = some x) (hy : ops[j]? = some y) (h1 : x.dst = some d) (h2 : y.dst = some d) : False := by
  simp [uniqAt, hx, hy, sameDst, h1, h2] at h

/-- What is asked of the region. -/
def factsB (md : Region.Mode) (ops : Array Oper) (n : Nat) (S : Nat → Nat → Bool) : Bool :=
  decide (n ≤ ops.size) && waitsB md ops S && ((List.range ops.size).all fun t => decide (t < n) || (List.range n).all fun i => S t i) &&
  ((List.range ops.size).all fun i => (List.range ops.size).all fun j => i == j || uniqAt ops i j) && Region.seqB md ops (ops.size - n) n (headAll ops.size n)

theorem region_facts {id : Nat} {Q : Exit → Act → World → Prop} {a : Act} {w : World} {l : List Oper} (n : Nat) (D : World → Prop) (St : World → World → Prop) (Φ : Nat → Value → World → Prop) (S : Nat → Nat → Bool)
    (hm : P.follows .mixedOrders = true) (hB : factsB .any l.toArray n S = true) (hds : (l.all fun o => match o.dst with | some d => decide (d < a.tmps.size) | none => true) = true) (hD : D { w with drawn := w.drawn + 1 }) (hstD : ∀ w w', D w → St w w' → D w') (hstF : ∀ i v w w', D w → Φ i v w → St w w' → Φ i v w')
    (hob : ∀ i o, i < n → l[i]? = some o → ∀ a' w', D w' → a'.tmps.size = a.tmps.size → (∀ j oj d, S i j = true → l[j]? = some oj → oj.dst = some d → Φ j (a'.tmps.getD d undef) w') →
      (∀ t, (∀ j oj, l[j]? = some oj → oj.dst = some t → j = i ∨ S j i = true) → a'.tmps[t]? = a.tmps[t]?) → factStep P l.toArray o a' w' St (Φ i))
    (hend : ∀ a' w', D w' → a'.defers = a.defers → a'.tmps.size = a.tmps.size → (∀ j oj d, j < n → l[j]? = some oj → oj.dst = some d → Φ j (a'.tmps.getD d undef) w') →
      (∀ t, (∀ j oj, j < n → l[j]? = some oj → oj.dst ≠ some t) → a'.tmps[t]? = a.tmps[t]?) → wpList P l.toArray Q (l.drop n) a' w') : (Code.region id l.toArray true).wp P Q a w := by
  simp only [factsB, Bool.and_eq_true, decide_eq_true_eq] at hB
  obtain ⟨⟨⟨⟨hn, hW⟩, hT⟩, hU⟩, hseq⟩ := hB
  have huniq : ∀ (i j : Nat) (x y : Oper) (d : Tmp), l.toArray[i]? = some x → l.toArray[j]? = some y → x.dst = some d → y.dst = some d → i = j := fun i j x y d hx hy h1 h2 => by
    have hi : i < l.toArray.size := (Array.getElem?_eq_some_iff.1 hx).1
    have hj : j < l.toArray.size := (Array.getElem?_eq_some_iff.1 hy).1
    have h3 := List.all_eq_true.1 (List.all_eq_true.1 hU i (List.mem_range.2 hi)) j (List.mem_range.2 hj)
    simp only [Bool.or_eq_true, beq_iff_eq] at h3
    exact h3.resolve_right fun h => uniqAt_spec h hx hy h1 h2
  have main : ∀ (k fuel : Nat) (listed : Array Bool) (a' : Act) (w' : World), cnt listed n = k → k + (l.toArray.size - n) ≤ fuel → Closed .any l.toArray n listed → D w' → Amid a l.toArray n Φ listed a' w' → wpAny P .any l.toArray Q fuel listed a' w' := by
    intro k
    induction k using Nat.strongRecOn with
    | _ k ih =>
      intro fuel listed a' w' hk hf inv hDw amid
      by_cases hk0 : k = 0
      · have hall : ∀ i, i < n → listed.getD i true = true := cnt_zero (by omega)
        have hlist : listed = headAll l.toArray.size n := by
          refine getD_eq (by simp [headAll, inv.size]) fun i hi => ?_
          by_cases hin : i < n
          · rw [hall i hin]
            have : i < l.length := by rw [inv.size] at hi; simpa using hi
            simp [headAll, this, hin]
          · have h1 := getD_in hi (inv.tail i (by omega))
            rw [h1]
            have : i < l.length := by rw [inv.size] at hi; simpa using hi
            simp [headAll, this, hin]
        refine wpAny_of_seq_le (l.drop n) n listed a' w' fuel (fun j => by simp [List.getElem?_drop]) (by simp at hf ⊢; omega) (by rw [hlist]; simpa using hseq) ?_
        refine hend a' w' hDw amid.defers amid.size (fun j oj d hj hoj hd => amid.facts j oj d (by simpa using hoj) hd ?_) (fun t ht => amid.rest t fun i o hi hl => ?_)
        · have hjs : j < listed.size := by rw [inv.size]; omega
          have := hall j hj
          simpa [hjs] using this
        · refine ht i o ?_ (by simpa using hi)
          rcases Nat.lt_or_ge i n with h | h
          · exact h
          · rw [inv.tail i h] at hl; cases hl
      · obtain ⟨i0, hi0, hun0⟩ := cnt_pos (listed := listed) (n := n) (by omega)
        have hne := comes_up hW inv hn i0 hi0 hun0
        cases fuel with
        | zero => omega
        | succ fuel =>
          refine ⟨fun h0 => absurd h0 hne, fun i hi => ?_⟩
          obtain ⟨hun, o, ho, hall⟩ := mem_ready.1 hi
          have hisz : i < l.toArray.size := (Array.getElem?_eq_some_iff.1 ho).1
          have hls : i < listed.size := by rw [inv.size]; exact hisz
          have hin : i < n := by
            rcases Nat.lt_or_ge i n with h | h
            · exact h
            · have h1 := List.all_eq_true.1 hT i (List.mem_range.2 hisz)
              simp only [Bool.or_eq_true, decide_eq_true_eq] at h1
              rcases h1 with h1 | h1
              · omega
              · have h2 := List.all_eq_true.1 h1 i0 (List.mem_range.2 hi0)
                have := listed_of hW inv i o ho hall i0 (by omega) h2
                rw [getD_both hun0] at this; cases this
          have hstep := hob i o hin (by simpa using ho) a' w' hDw amid.size (fun j oj d hS hoj hd => amid.facts j oj d (by simpa using hoj) hd (listed_of hW inv i o ho hall j (by have := (List.getElem?_eq_some_iff.1 hoj).1; simpa using this) hS)) (fun t ht => amid.rest t fun j oj hoj hl hd => by
            rcases ht j oj (by simpa using hoj) hd with h1 | h1
            · subst h1; rw [getD_both hun] at hl; cases hl
            · have := listed_of hW inv j oj hoj (inv.closed j oj hoj hl) i hisz h1
              rw [getD_both hun] at this; cases this)
          have hnext : ∀ (v : Value) (w'' : World), St w' w'' → Φ i v w'' → wpAny P .any l.toArray Q fuel (listed.setIfInBounds i true) (a'.put o.dst v) w'' := fun v w'' hst hphi => by
            have hlt := cnt_set_lt hun n hin
            refine ih (cnt (listed.setIfInBounds i true) n) (by omega) fuel _ _ _ rfl (by omega) (inv.set hi hin) (hstD _ _ hDw hst) ⟨?_, ?_, fun t ht => ?_, fun j oj d hoj hd hl => ?_⟩
            · rw [← amid.defers]; cases o.dst <;> rfl
            · rw [← amid.size]; cases o.dst <;> simp [Act.put]
            · have h1 : a'.tmps[t]? = a.tmps[t]? := amid.rest t fun j oj hoj hl => ht j oj hoj (getD_set_true hl)
              rw [← h1]
              have h2 := ht i o ho (by simp [hls])
              cases hd : o.dst with
              | none => rfl
              | some d =>
                have hne : d ≠ t := fun h => h2 (by rw [hd, h])
                simp [Act.put, Array.getElem?_setIfInBounds_ne hne]
            · by_cases hji : j = i
              · subst hji
                have : oj = o := Option.some.inj (hoj.symm.trans ho)
                subst this
                rw [hd]
                simp only [Act.put]
                have hdl : d < a'.tmps.size := by
                  have h1 := List.all_eq_true.1 hds oj (List.mem_of_getElem? (by simpa using hoj))
                  rw [hd] at h1
                  rw [amid.size]
                  simpa using h1
                simpa [hdl] using hphi
              · rw [getD_set_ne false (Ne.symm hji)] at hl
                have h1 := hstF j _ _ _ hDw (amid.facts j oj d hoj hd hl) hst
                cases hdo : o.dst with
                | none => exact h1
                | some d' =>
                  have hne : d' ≠ d := fun h => hji (huniq j i oj o d hoj ho hd (by rw [hdo, h]))
                  simp only [Act.put]
                  have : (a'.tmps.setIfInBounds d' v).getD d undef = a'.tmps.getD d undef := by simp [Array.getElem?_setIfInBounds_ne hne]
                  rw [this]; exact h1
          unfold wpOp
          simp only [ho]
          unfold factStep at hstep
          by_cases hw : Region.wanted o (yielded l.toArray a'.tmps) = true
          · rw [if_pos hw] at hstep ⊢
            left
            unfold Oper.wp
            generalize (execOp a'.eval o).run P w' = r at *
            cases r with
            | ok nx w'' =>
              cases nx <;> simp only [] at hstep <;> simp only [Oper.upon]
              case value u => exact hnext u w'' hstep.1 hstep.2
              case skip => exact hnext undef w'' hstep.1 hstep.2
              case enter f args => exact hstep.mono fun e w3 ⟨u, he, h1, h2⟩ => by subst he; exact hnext u w3 h1 h2
              case row r args => exact hstep.mono fun u w3 ⟨h1, h2⟩ => hnext u w3 h1 h2
            | halt x w'' => simp only [] at hstep
          · rw [if_neg hw] at hstep ⊢
            exact hnext undef w' hstep.1 hstep.2
  refine wp_region_any hm (main _ _ _ a _ rfl ?_ ⟨by simp, fun j oj _ hl => (by rw [getD_replicate_false] at hl; cases hl), fun t _ => getD_replicate_false _ _⟩ hD ⟨rfl, rfl, fun _ _ => rfl, fun i o d _ _ hl => (by rw [getD_replicate_false] at hl; cases hl)⟩)
  have := cnt_new l.toArray.size n
  omega
end
end Go.Proofs.YtpppfeldnbjdpaaGreatDoor
