/- Regions that draw their order, begin with a read of a local and end in a fixed tail: the read may come up late, even inside the tail; the walk in the order of the text serves. -/
import Derived.Test.YtpppfeldnbjdpaaGreatDoorB2
namespace Go.Proofs.YtpppfeldnbjdpaaGreatDoor
open Go Go.RowKit
section
variable {P : Program} {ops : Array Oper} {md : Region.Mode} {C : World → Prop}

theorem wp_put {o : Oper} {a : Act} {w : World} {d : Option Tmp} {v : Value} {K : Act → World → Prop} {Q' : Exit → Act → World → Prop} (hsel : ∀ cs b, o.op ≠ .select cs b)
    (h1 : ∀ e, d = some e → e ∉ o.looksAt ops) (h2 : ∀ e, d = some e → o.dst ≠ some e) (hQ : ∀ e a w, Q' e a w → e = .normal) (h : o.wp P (a.put d v) w K Q') :
    o.wp P a w (fun a' w' => K (a'.put d v) w' ∧ ∃ u D, a' = ({ a with defers := D } : Act).put o.dst u) Q' := by
  unfold Oper.wp at *
  rw [execOp_put (ops := ops) o hsel a d v h1] at h
  generalize (execOp a.eval o).run P w = r at *
  cases r with
  | ok n w' =>
    cases n <;> simp only [Oper.upon] at h ⊢
    case value u => exact ⟨by rw [← Act.put_comm a v u h2]; exact h, u, a.defers, rfl⟩
    case skip => exact ⟨by rw [← Act.put_comm a v undef h2]; exact h, undef, a.defers, rfl⟩
    case defer D =>
      refine ⟨?_, undef, D :: a.defers, rfl⟩
      rw [← Act.put_comm ({ a with defers := D :: a.defers } : Act) v undef h2]
      have he : ({ a with defers := D :: a.defers } : Act).put d v = { a.put d v with defers := D :: (a.put d v).defers } := by cases d <;> rfl
      rw [he]
      exact h
    case enter f args =>
      refine h.mono fun e w'' he => ?_
      cases e with
      | returned u => exact ⟨by rw [← Act.put_comm a v u h2]; exact he, u, a.defers, rfl⟩
      | panicked c => exact absurd (hQ _ _ _ he) (by intro hh; cases hh)
      | outgrown => exact he
    case row r args => exact h.mono fun u w'' he => ⟨by rw [← Act.put_comm a v u h2]; exact he, u, a.defers, rfl⟩
  | halt x w' =>
    cases x <;> simp only [Oper.upon] at h ⊢
    case panic c => exact absurd (hQ _ _ _ h) (by intro hh; cases hh)

/-- A pure operation that may come up now may be taken first. -/
theorem pure_first {Q' : Exit → Act → World → Prop} (hQ : ∀ e a w, Q' e a w → e = .normal) {i : Nat} {oi : Oper} {v : Value} (hi : ops[i]? = some oi) (hsel : ∀ (j : Nat) (o : Oper) cs b, ops[j]? = some o → o.op ≠ .select cs b) (hgd : oi.guard = none) :
    ∀ (fuel : Nat) (listed : Array Bool) (a : Act) (w : World),
      (∀ j oj, ops[j]? = some oj → j ≠ i → listed.getD j true = false → (∀ e ∈ oj.after, Region.binds md e = true → e.on ≠ i) → oi.apart ops oj = true) →
      i ∈ Region.ready md ops listed → (∀ w, (execOp a.eval oi).run P w = .ok (.value v) w) →
      wpAny P md ops Q' fuel (listed.setIfInBounds i true) (a.put oi.dst v) w → wpAny P md ops Q' (fuel + 1) listed a w := by
  have hown : ∀ (a : Act) (w : World) (K : Act → World → Prop), (∀ w, (execOp a.eval oi).run P w = .ok (.value v) w) → K (a.put oi.dst v) w → wpOp P ops Q' i K a w := fun a w K hv hk => by
    unfold wpOp
    simp only [hi]
    rw [if_pos (by simp [Region.wanted, hgd])]
    left
    unfold Oper.wp
    rw [hv w]
    exact hk
  intro fuel
  induction fuel with
  | zero =>
    intro listed a w _ hr hv H
    refine ⟨fun h => (by rw [h] at hr; cases hr), fun j hj => ?_⟩
    by_cases hji : j = i
    · subst hji; exact hown a w _ hv H
    · have := ready_mono hj hji
      rw [H.1] at this
      cases this
  | succ fuel ih =>
    intro listed a w hfree hr hv H
    refine ⟨fun h => (by rw [h] at hr; cases hr), fun j hj => ?_⟩
    by_cases hji : j = i
    · subst hji; exact hown a w _ hv H
    · have h1 := H.2 j (ready_mono hj hji)
      obtain ⟨hjun, oj, hoj, hall⟩ := mem_ready.1 hj
      have hnot : ∀ e ∈ oj.after, Region.binds md e = true → e.on ≠ i := fun e he hb heq => by
        have h1 := hall e he hb
        have h0 := (mem_ready.1 hr).1
        rw [heq] at h1
        rcases Nat.lt_or_ge i listed.size with h' | h'
        · simp [h'] at h0 h1; rw [h0] at h1; cases h1
        · simp [Array.getElem?_eq_none h'] at h1
      obtain ⟨p1, p2, p3⟩ := Oper.apart_spec (hfree j oj hoj hji hjun hnot)
      have hfree' : ∀ k ok, ops[k]? = some ok → k ≠ i → (listed.setIfInBounds j true).getD k true = false →
          (∀ e ∈ ok.after, Region.binds md e = true → e.on ≠ i) → oi.apart ops ok = true := fun k ok hk hki hun hno => by
        refine hfree k ok hk hki ?_ hno
        by_cases hjk : j = k
        · subst hjk; exact hjun
        · rw [getD_set_ne true hjk] at hun; exact hun
      have hgo : ∀ u D w', wpAny P md ops Q' fuel ((listed.setIfInBounds i true).setIfInBounds j true) ((({ a with defers := D } : Act).put oj.dst u).put oi.dst v) w' →
          wpAny P md ops Q' (fuel + 1) (listed.setIfInBounds j true) (({ a with defers := D } : Act).put oj.dst u) w' := fun u D w' h => by
        refine ih _ _ _ hfree' (ready_mono hr (Ne.symm hji)) (fun w'' => ?_) (by rw [Array.setIfInBounds_comm _ _ hji]; exact h)
        rw [execOp_put (ops := ops) oi (fun cs b => hsel i oi cs b hi) _ oj.dst u p3]
        exact hv w''
      unfold wpOp at h1 ⊢
      simp only [hoj] at h1 ⊢
      rw [wanted_put (ops := ops) oj a oi.dst v p1] at h1
      by_cases hw : Region.wanted oj (yielded ops a.tmps) = true
      · rw [if_pos hw] at h1 ⊢
        left
        rcases h1 with h1 | ⟨_, a0, w0, h0⟩
        · refine Oper.wp_mono ?_ (wp_put (fun cs b => hsel j oj cs b hoj) p1 p2 hQ h1)
          rintro a' w' ⟨hk, u, D, rfl⟩
          exact hgo u D w' hk
        · exact absurd (hQ _ _ _ h0) (by intro hh; cases hh)
      · rw [if_neg hw] at h1 ⊢
        have := hgo undef a.defers w (by rw [← Act.put_comm a v undef p2]; exact h1)
        exact this

theorem wp_weaken {o : Oper} {a : Act} {w : World} {K : Act → World → Prop} {Q1 Q2 : Exit → Act → World → Prop} (hQ : ∀ e a w, Q1 e a w → Q2 e a w) (h : o.wp P a w K Q1) : o.wp P a w K Q2 := by
  unfold Oper.wp at *
  generalize (execOp a.eval o).run P w = r at *
  cases r with
  | ok n w' =>
    cases n <;> simp only [Oper.upon] at h ⊢ <;> try exact h
    case enter f args =>
      refine h.mono fun e w'' he => ?_
      cases e with
      | returned u => exact he
      | panicked c => exact hQ _ _ _ he
      | outgrown => obtain ⟨a0, w0, h0⟩ := he; exact ⟨a0, w0, hQ _ _ _ h0⟩
  | halt x w' =>
    cases x <;> simp only [Oper.upon] at h ⊢
    case panic c => exact hQ _ _ _ h

theorem wpAny_weaken {Q1 Q2 : Exit → Act → World → Prop} (hQ : ∀ e a w, Q1 e a w → Q2 e a w) : ∀ (fuel : Nat) (listed : Array Bool) (a : Act) (w : World), wpAny P md ops Q1 fuel listed a w → wpAny P md ops Q2 fuel listed a w
  | 0, _, _, _, h => ⟨h.1, hQ _ _ _ h.2⟩
  | fuel + 1, listed, a, w, h => by
    refine ⟨fun h0 => hQ _ _ _ (h.1 h0), fun i hi => ?_⟩
    have h1 := h.2 i hi
    unfold wpOp at h1 ⊢
    cases ho : ops[i]? with
    | none => simp only [ho] at h1 ⊢; exact wpAny_weaken hQ fuel _ _ _ h1
    | some o =>
      simp only [ho] at h1 ⊢
      split
      · rename_i hw
        rw [if_pos hw] at h1
        rcases h1 with h1 | ⟨h1, a0, w0, h0⟩
        · exact .inl (wp_weaken hQ (Oper.wp_mono (fun a' w' hk => wpAny_weaken hQ fuel _ _ _ hk) h1))
        · exact .inr ⟨h1, a0, w0, hQ _ _ _ h0⟩
      · rename_i hw
        rw [if_neg hw] at h1
        exact wpAny_weaken hQ fuel _ _ _ h1

/-! ### Heads under an invariant of one's own -/
theorem headI_first {Inv : Array Bool → Prop} {n i : Nat} {oi : Oper} {v : Value} {L : Array Bool → Act → Prop} (hi : ops[i]? = some oi) (hsel : ∀ (j : Nat) (o : Oper) cs b, ops[j]? = some o → o.op ≠ .select cs b)
    (hset : ∀ listed j, Inv listed → j ∈ Region.ready md ops listed → j < n → Inv (listed.setIfInBounds j true))
    (hwait : ∀ listed j t, Inv listed → j < n → listed.getD j true = false → n ≤ t → t ∉ Region.ready md ops listed) (hin : i < n)
    (hdone : ∀ listed a, L listed a → ∀ j ∈ Region.ready md ops listed, n ≤ j) :
    ∀ (f : Nat) (listed : Array Bool) (a : Act), Inv listed →
      (∀ j oj, ops[j]? = some oj → j ≠ i → listed.getD j true = false → (∀ e ∈ oj.after, Region.binds md e = true → e.on ≠ i) → oi.apart ops oj = true) →
      i ∈ Region.ready md ops listed → YieldsIn P ops C oi v a →
      headQ P md ops C n L f (listed.setIfInBounds i true) (a.put oi.dst v) → headQ P md ops C n L (f + 1) listed a := by
  intro f
  induction f with
  | zero =>
    intro listed a inv _ hr hy H
    have hun := (mem_ready.1 hr).1
    refine ⟨fun h => (by rw [h] at hr; cases hr), fun j hj => ?_⟩
    have hjn : j < n := by
      rcases Nat.lt_or_ge j n with h | h
      · exact h
      · exact absurd hj (hwait _ i j inv hin hun h)
    refine ⟨hjn, ?_⟩
    by_cases hji : j = i
    · subst hji; exact hy.qOp hi H
    · have := hdone _ _ H j (ready_mono hj hji)
      omega
  | succ f ih =>
    intro listed a inv hfree hr hy H
    have hun := (mem_ready.1 hr).1
    refine ⟨fun h => (by rw [h] at hr; cases hr), fun j hj => ?_⟩
    have hjn : j < n := by
      rcases Nat.lt_or_ge j n with h | h
      · exact h
      · exact absurd hj (hwait _ i j inv hin hun h)
    refine ⟨hjn, ?_⟩
    by_cases hji : j = i
    · subst hji; exact hy.qOp hi H
    · have h1 := (H.2 j (ready_mono hj hji)).2
      obtain ⟨hjun, oj, hoj, hall⟩ := mem_ready.1 hj
      have hnot : ∀ e ∈ oj.after, Region.binds md e = true → e.on ≠ i := fun e he hb heq => by
        have h1 := hall e he hb
        rw [heq, getD_both hun] at h1
        cases h1
      have h2 := qOp_put hoj (hfree j oj hoj hji hjun hnot) (fun cs b => hsel i oi cs b hi) (fun cs b => hsel j oj cs b hoj) hy h1
      have hfree' : ∀ k ok, ops[k]? = some ok → k ≠ i → (listed.setIfInBounds j true).getD k true = false →
          (∀ e ∈ ok.after, Region.binds md e = true → e.on ≠ i) → oi.apart ops ok = true := fun k ok hk hki hun hno => by
        refine hfree k ok hk hki ?_ hno
        by_cases hjk : j = k
        · subst hjk; exact hjun
        · rw [getD_set_ne true hjk] at hun; exact hun
      refine qOp_mono (fun a' h3 => ih (listed.setIfInBounds j true) a' (hset _ _ inv hj hjn) hfree' (ready_mono hr (Ne.symm hji)) h3.1 ?_) h2
      rw [Array.setIfInBounds_comm _ _ hji]
      exact h3.2

theorem headI_lex {Inv : Array Bool → Prop} {n g : Nat} {Lq : Act → Prop} (hsel : Region.noSelect ops = true)
    (hset : ∀ listed j, Inv listed → j ∈ Region.ready md ops listed → j < n → Inv (listed.setIfInBounds j true))
    (hwait : ∀ listed j t, Inv listed → j < n → listed.getD j true = false → n ≤ t → t ∉ Region.ready md ops listed) :
    ∀ (l : List Oper) (k : Nat) (listed : Array Bool) (a : Act), (∀ j, j < l.length → l[j]? = ops[k + j]?) → k + l.length = n → Inv listed →
    Region.lexHead md ops g l.length k listed = true → wpQuiet P ops C Lq l a →
    headQ P md ops C n (fun listed' a' => Region.seqB md ops g n listed' = true ∧ Lq a') l.length listed a
  | [], k, listed, a, _, hk, _, hB, h => by
    have : k = n := by simpa using hk
    subst this
    exact ⟨by simpa [Region.lexHead] using hB, h⟩
  | o :: l, k, listed, a, hl, hk, inv, hB, h => by
    have h0 : ops[k]? = some o := by simpa using (hl 0 (by simp)).symm
    simp only [List.length_cons, Region.lexHead, Bool.and_eq_true] at hB
    obtain ⟨⟨hr, hf⟩, hB'⟩ := hB
    have hkn : k < n := by simp only [List.length_cons] at hk; omega
    have hr' : k ∈ Region.ready md ops listed := by simpa using hr
    have hst : qOp P ops C k (wpQuiet P ops C Lq l) a := by unfold qOp; simp only [h0]; exact h
    obtain ⟨v, hy, hK⟩ := yieldsIn_of_qOp h0 hst
    exact headI_first h0 (Region.noSelect_spec hsel) hset hwait hkn (fun listed' a' hL => seqB_ready hL.1) l.length listed a inv (Region.free_spec h0 hf) hr' hy
      (headI_lex hsel hset hwait l (k + 1) _ _ (fun j hj => by have := hl (j + 1) (by simp; omega); simpa [Nat.add_assoc, Nat.add_comm 1 j] using this) (by simp only [List.length_cons] at hk; omega) (hset _ _ inv hr' hkn) hB' hK)

/-- Every operation of the head but the first is waited for. -/
def sink1B (md : Region.Mode) (ops : Array Oper) (n : Nat) : Bool :=
  (List.range n).all fun i => i == 0 || (List.range (n + 1)).any fun j => decide (i < j) && Region.waitsFor md ops j i

theorem tail1_waits {n : Nat} {listed : Array Bool} (hs : sink1B md ops n = true) (hc : Region.chainB md ops n = true) (hn : n < ops.size) (inv : HeadInv md ops n listed) (h0 : listed.getD 0 false = true) :
    ∀ (d i : Nat), n - i = d → i < n → listed.getD i true = false → ∀ t, n ≤ t → t ∉ Region.ready md ops listed := by
  intro d
  induction d using Nat.strongRecOn with
  | _ d ih =>
    intro i hd hi hun t ht hr
    obtain ⟨_, ot, hot, hall⟩ := mem_ready.1 hr
    have htlt : t < ops.size := (Array.getElem?_eq_some_iff.1 hot).1
    by_cases htn : t = n
    · subst htn
      have h1 := List.all_eq_true.1 hs i (List.mem_range.2 hi)
      simp only [Bool.or_eq_true, beq_iff_eq] at h1
      rcases h1 with h1 | h1
      · subst h1
        rw [getD_both hun] at h0
        cases h0
      obtain ⟨j, hj, hj2⟩ := List.any_eq_true.1 h1
      simp only [Bool.and_eq_true, decide_eq_true_eq] at hj2
      obtain ⟨oj, hoj, e, he, hb, hon⟩ := Region.waitsFor_spec hj2.2
      have hjle : j ≤ t := by have := List.mem_range.1 hj; omega
      by_cases hjt : j = t
      · subst hjt
        have : oj = ot := Option.some.inj (hoj.symm.trans hot)
        subst this
        have h2 := hall e he hb
        rw [hon, getD_both hun] at h2
        cases h2
      · cases hl : listed.getD j false with
        | true =>
          have h2 := inv.closed j oj hoj hl e he hb
          rw [hon, getD_both hun] at h2
          cases h2
        | false =>
          have hjs : j < listed.size := by rw [inv.size]; omega
          exact ih (t - j) (by omega) j rfl (by omega) (getD_in hjs hl) t (Nat.le_refl _) hr
    · have h1 := List.all_eq_true.1 hc t (List.mem_range.2 htlt)
      simp only [Bool.or_eq_true, decide_eq_true_eq] at h1
      rcases h1 with h1 | h1
      · omega
      · obtain ⟨o', ho', e, he, hb, hon⟩ := Region.waitsFor_spec h1
        have : o' = ot := Option.some.inj (ho'.symm.trans hot)
        subst this
        have h2 := hall e he hb
        rw [hon, getD_both (inv.tail (t - 1) (by omega) (by omega))] at h2
        cases h2

/-- What is asked of such a region. -/
def lex1B (md : Region.Mode) (ops : Array Oper) (n : Nat) : Bool :=
  Region.noSelect ops && decide (1 ≤ n) && decide (n < ops.size) && sink1B md ops n && Region.chainB md ops n && (Region.ready md ops (Array.replicate ops.size false)).contains 0 &&
  Region.free md ops (Array.replicate ops.size false) 0 && Region.lexHead md ops (ops.size - n) (n - 1) 1 ((Array.replicate ops.size false).setIfInBounds 0 true)

theorem region_move_tail (C : World → Prop) {id : Nat} {Q : Exit → Act → World → Prop} {a : Act} {w : World} {o : Oper} {l : List Oper} (n : Nat) (x : Operand) (v : Value) (hv : a.eval x = v) (hm : P.follows .mixedOrders = true) (hB : lex1B .any (o :: l).toArray (n + 1) = true)
    (ho : o.op = .move x) (hgd : o.guard = none) (hC : C { w with drawn := w.drawn + 1 })
    (h : wpQuiet P (o :: l).toArray C (fun a' => ∀ w', C w' → wpList P (o :: l).toArray (fun e a'' w'' => e = .normal ∧ Q .normal a'' w'') (l.drop n) a' w') (l.take n) (a.put o.dst v)) : (Code.region id (o :: l).toArray true).wp P Q a w := by
  subst hv
  simp only [lex1B, Bool.and_eq_true, decide_eq_true_eq] at hB
  obtain ⟨⟨⟨⟨⟨⟨⟨hsel, h1⟩, hn⟩, hs⟩, hc⟩, hr⟩, hf⟩, hlex⟩ := hB
  have hn' : n < l.length := by simpa using hn
  have htl : (l.take n).length = n := by simp; omega
  have hr' : 0 ∈ Region.ready .any (o :: l).toArray (Array.replicate (o :: l).toArray.size false) := by simpa using hr
  have hi : (o :: l).toArray[0]? = some o := by simp
  have inv0 : HeadInv .any (o :: l).toArray (n + 1) (Array.replicate (o :: l).toArray.size false) :=
    ⟨by simp, fun j oj _ hl => (by rw [getD_replicate_false] at hl; cases hl), fun t _ ht => getD_in (by simpa using ht) (getD_replicate_false _ _)⟩
  have hset : ∀ listed j, (HeadInv .any (o :: l).toArray (n + 1) listed ∧ listed.getD 0 false = true) → j ∈ Region.ready .any (o :: l).toArray listed → j < n + 1 → (HeadInv .any (o :: l).toArray (n + 1) (listed.setIfInBounds j true) ∧ (listed.setIfInBounds j true).getD 0 false = true) :=
    fun listed j hI hj hjn => ⟨hI.1.set hj hjn, getD_set_true hI.2⟩
  have hwait : ∀ listed j t, (HeadInv .any (o :: l).toArray (n + 1) listed ∧ listed.getD 0 false = true) → j < n + 1 → listed.getD j true = false → n + 1 ≤ t → t ∉ Region.ready .any (o :: l).toArray listed :=
    fun listed j t hI hj hun ht => tail1_waits hs hc hn hI.1 hI.2 _ j rfl hj hun t ht
  have H := headI_lex (Inv := fun listed => HeadInv .any (o :: l).toArray (n + 1) listed ∧ listed.getD 0 false = true) (P := P) (md := .any) (C := C) (n := n + 1) (g := (o :: l).toArray.size - (n + 1)) hsel hset hwait (l.take n) 1 _ (a.put o.dst (a.eval x)) (fun j hj => by
    have hj' : j < n := by rw [htl] at hj; exact hj
    simp [hj', Nat.add_comm 1 j]) (by rw [htl]; omega) ⟨inv0.set hr' (by omega), by simp⟩ (by rw [htl]; simpa using hlex) h
  refine wp_region_any hm ?_
  have hQ : ∀ e a'' w'', (fun (e : Exit) a'' w'' => e = .normal ∧ Q .normal a'' w'') e a'' w'' → Q e a'' w'' := fun e a'' w'' ⟨h1, h2⟩ => by subst h1; exact h2
  refine wpAny_weaken hQ _ _ _ _ ?_
  have hk : (o :: l).toArray.size = l.length + 1 := by simp
  rw [hk]
  refine pure_first (i := 0) (oi := o) (v := a.eval x) (fun e a'' w'' h => h.1) hi (Region.noSelect_spec hsel) hgd l.length _ a _ (Region.free_spec hi (by simpa using hf)) (by simpa using hr') (fun w => BigFrame.run_move x ho w) ?_
  have := any_of_headQ (md := .any) (Q' := fun e a'' w'' => e = .normal ∧ Q .normal a'' w'') (g := (o :: l).toArray.size - (n + 1)) (fun listed a' w' hw' hL => by
    have := wpAny_of_seq (md := .any) (Q' := fun e a'' w'' => e = .normal ∧ Q .normal a'' w'') (l.drop n) (n + 1) listed a' w' (fun j => by simp [List.getElem?_drop, Nat.add_right_comm n 1 j]) (by simpa using hL.1) (hL.2 w' hw')
    simpa using this) _ _ _ { w with drawn := w.drawn + 1 } hC H
  rw [htl, hk, show n + (l.length + 1 - (n + 1)) = l.length by omega] at this
  exact this
end
end Go.Proofs.YtpppfeldnbjdpaaGreatDoor
