/- Regions that draw their order and hold one store into a block that nothing else of the region looks at, be it before or behind the calls. -/
import Derived.Test.YtpppfeldnbjdpaaGreatDoorB1
import Derived.Test.YtpppfeldnbjdpaaGreatDoorD1
namespace Go.Proofs.YtpppfeldnbjdpaaGreatDoor
open Go Go.RowKit
section
variable {P : Program} {ops : Array Oper} {md : Region.Mode} {D : World → Prop} {s : Nat} {upd : World → World}

/-- What operation i may come to in a world w: the store moves the world by upd; any other leaves it, or calls what keeps all blocks that are there. -/
def oneUpon (P : Program) (s : Nat) (upd : World → World) (i : Nat) (w : World) (v : Value) : Result Next → Prop
  | .ok (.value u) w' => i ≠ s ∧ w' = w ∧ u = v
  | .ok .skip w' => i = s ∧ w' = upd w ∧ v = undef
  | .ok (.enter f args) w' => i ≠ s ∧ w' = w ∧ Calls P f args w (fun e w'' => e = .returned v ∧ Below w.heap.size w w'')
  | _ => False

/-- One value, in every world of the class. -/
def oneOp (P : Program) (D : World → Prop) (s : Nat) (upd : World → World) (i : Nat) (o : Oper) (a : Act) (K : Act → Prop) : Prop :=
  ∃ v, (∀ w, D w → oneUpon P s upd i w v ((execOp a.eval o).run P w)) ∧ K (a.put o.dst v)

def oneAt (P : Program) (ops : Array Oper) (D : World → Prop) (s : Nat) (upd : World → World) (i : Nat) (K : Act → Prop) (a : Act) : Prop :=
  match ops[i]? with
  | none => K a
  | some o => if Region.wanted o (yielded ops a.tmps) then oneOp P D s upd i o a K else K (a.put o.dst undef)

/-- The walk in the order of the text, from operation k on. -/
def wpOne (P : Program) (ops : Array Oper) (D : World → Prop) (s : Nat) (upd : World → World) (Q : Act → Prop) : Nat → List Oper → Act → Prop
  | _, [], a => Q a
  | k, o :: rest, a => if Region.wanted o (yielded ops a.tmps) then oneOp P D s upd k o a (wpOne P ops D s upd Q (k + 1) rest) else wpOne P ops D s upd Q (k + 1) rest (a.put o.dst undef)

theorem oneOp_mono {i : Nat} {o : Oper} {a : Act} {K K' : Act → Prop} (h : ∀ a, K a → K' a) (hh : oneOp P D s upd i o a K) : oneOp P D s upd i o a K' :=
  let ⟨v, h1, h2⟩ := hh
  ⟨v, h1, h _ h2⟩
theorem oneAt_mono {i : Nat} {a : Act} {K K' : Act → Prop} (h : ∀ a, K a → K' a) (hh : oneAt P ops D s upd i K a) : oneAt P ops D s upd i K' a := by
  unfold oneAt at *
  split
  · exact h _ (by simpa [*] using hh)
  · rename_i o ho
    simp only [ho] at hh
    split
    · rename_i hw; simp only [hw, if_true] at hh; exact oneOp_mono h hh
    · rename_i hw; simp only [hw] at hh; exact h _ hh

/-- Whatever order is picked from here on. -/
def oneAny (P : Program) (md : Region.Mode) (ops : Array Oper) (D : World → Prop) (s : Nat) (upd : World → World) (Q : Act → Prop) : Nat → Array Bool → Act → Prop
  | 0, listed, a => listed.getD s false = true ∧ Region.ready md ops listed = [] ∧ Q a
  | fuel + 1, listed, a =>
    Region.ready md ops listed ≠ [] ∧ ∀ i ∈ Region.ready md ops listed, oneAt P ops D s upd i (oneAny P md ops D s upd Q fuel (listed.setIfInBounds i true)) a

/-- The worlds, before the store and behind it. -/
structure Flagged (C : Bool → World → Prop) (D : World → Prop) (upd : World → World) : Prop where
  sub : ∀ b w, C b w → D w
  below : ∀ b w w', C b w → Below w.heap.size w w' → C b w'
  upd : ∀ b w, C b w → C true (upd w)

theorem wpAny_of_one {C : Bool → World → Prop} (hC : Flagged C D upd) {os : Oper} (hos : ops[s]? = some os) (hgs : os.guard = none) {Q : Act → Prop} {Q' : Exit → Act → World → Prop} (hQ : ∀ a w, C true w → Q a → Q' .normal a w) :
    ∀ (fuel : Nat) (listed : Array Bool) (a : Act) (w : World), C (listed.getD s false) w → oneAny P md ops D s upd Q fuel listed a → wpAny P md ops Q' fuel listed a w
  | 0, listed, a, w, hw, h => ⟨h.2.1, hQ _ _ (by rw [h.1] at hw; exact hw) h.2.2⟩
  | fuel + 1, listed, a, w, hw, h => by
    refine ⟨fun h0 => absurd h0 h.1, fun i hi => ?_⟩
    have hun := (mem_ready.1 hi).1
    have hisz : i < listed.size := by
      rcases Nat.lt_or_ge i listed.size with h' | h'
      · exact h'
      · simp [Array.getElem?_eq_none h'] at hun
    have hi2 := h.2 i hi
    have hsame : i ≠ s → (listed.setIfInBounds i true).getD s false = listed.getD s false := fun hne => getD_set_ne false hne
    unfold oneAt at hi2
    unfold wpOp
    cases ho : ops[i]? with
    | none =>
      simp only [ho] at hi2 ⊢
      have hne : i ≠ s := fun h0 => by rw [h0, hos] at ho; cases ho
      exact wpAny_of_one hC hos hgs hQ fuel _ _ _ (by rw [hsame hne]; exact hw) hi2
    | some o =>
      simp only [ho] at hi2 ⊢
      by_cases hwt : Region.wanted o (yielded ops a.tmps) = true
      · simp only [hwt, if_true] at hi2 ⊢
        left
        obtain ⟨v, h1, h2⟩ := hi2
        have h3 := h1 w (hC.sub _ _ hw)
        unfold Oper.wp
        generalize (execOp a.eval o).run P w = r at *
        cases r with
        | ok n w' =>
          cases n <;> simp only [oneUpon] at h3 <;> simp only [Oper.upon]
          case value u =>
            obtain ⟨hne, e1, e2⟩ := h3
            rw [e1, e2]
            exact wpAny_of_one hC hos hgs hQ fuel _ _ _ (by rw [hsame hne]; exact hw) h2
          case skip =>
            obtain ⟨hne, e1, e2⟩ := h3
            rw [e1, ← e2]
            refine wpAny_of_one hC hos hgs hQ fuel _ _ _ ?_ h2
            rw [show (listed.setIfInBounds i true).getD s false = true by subst hne; simp [hisz]]
            exact hC.upd _ _ hw
          case enter f args =>
            obtain ⟨hne, e1, hc⟩ := h3
            rw [e1]
            exact hc.mono fun e w'' ⟨he, hw''⟩ => by subst he; exact wpAny_of_one hC hos hgs hQ fuel _ _ _ (by rw [hsame hne]; exact hC.below _ _ _ hw hw'') h2
        | halt x w' => simp only [oneUpon] at h3
      · simp only [hwt] at hi2 ⊢
        have hne : i ≠ s := fun h0 => by
          rw [h0, hos] at ho
          have : os = o := Option.some.inj ho
          subst this
          exact hwt (by simp [Region.wanted, hgs])
        exact wpAny_of_one hC hos hgs hQ fuel _ _ _ (by rw [hsame hne]; exact hw) hi2

def YieldsOne (P : Program) (ops : Array Oper) (D : World → Prop) (s : Nat) (upd : World → World) (i : Nat) (o : Oper) (v : Value) (a : Act) : Prop :=
  (Region.wanted o (yielded ops a.tmps) = true ∧ ∀ w, D w → oneUpon P s upd i w v ((execOp a.eval o).run P w)) ∨ (Region.wanted o (yielded ops a.tmps) = false ∧ v = undef)

theorem YieldsOne.oneAt {i : Nat} {o : Oper} {v : Value} {a : Act} (hi : ops[i]? = some o) (hy : YieldsOne P ops D s upd i o v a) {K : Act → Prop} (h : K (a.put o.dst v)) : oneAt P ops D s upd i K a := by
  unfold YtpppfeldnbjdpaaGreatDoor.oneAt
  simp only [hi]
  rcases hy with ⟨hw, hv⟩ | ⟨hw, rfl⟩
  · simp only [hw, if_true]; exact ⟨v, hv, h⟩
  · simp only [hw, Bool.false_eq_true, if_false]; exact h

theorem YieldsOne.of_same {i : Nat} {o : Oper} {v : Value} {a a' : Act} (hy : YieldsOne P ops D s upd i o v a) (he : execOp a'.eval o = execOp a.eval o)
    (hw : Region.wanted o (yielded ops a'.tmps) = Region.wanted o (yielded ops a.tmps)) : YieldsOne P ops D s upd i o v a' := by
  unfold YieldsOne at *
  rw [he, hw]
  exact hy

theorem yieldsOne_of {i : Nat} {o : Oper} {a : Act} {K : Act → Prop} (hi : ops[i]? = some o) (h : oneAt P ops D s upd i K a) : ∃ v, YieldsOne P ops D s upd i o v a ∧ K (a.put o.dst v) := by
  unfold oneAt at h
  simp only [hi] at h
  by_cases hw : Region.wanted o (yielded ops a.tmps) = true
  · simp only [hw, if_true] at h
    obtain ⟨v, h1, h2⟩ := h
    exact ⟨v, .inl ⟨hw, h1⟩, h2⟩
  · simp only [hw] at h
    exact ⟨undef, .inr ⟨by simpa using hw, rfl⟩, h⟩

theorem oneAt_put {i j : Nat} {oi oj : Oper} {v : Value} (hj : ops[j]? = some oj) (hap : oi.apart ops oj = true)
    (hsi : ∀ cs b, oi.op ≠ .select cs b) (hsj : ∀ cs b, oj.op ≠ .select cs b) {K : Act → Prop} {a : Act}
    (hy : YieldsOne P ops D s upd i oi v a) (h : oneAt P ops D s upd j K (a.put oi.dst v)) :
    oneAt P ops D s upd j (fun a' => YieldsOne P ops D s upd i oi v a' ∧ K (a'.put oi.dst v)) a := by
  obtain ⟨h1, h2, h3⟩ := Oper.apart_spec hap
  have keep : ∀ (a : Act), YieldsOne P ops D s upd i oi v a → ∀ u, YieldsOne P ops D s upd i oi v (a.put oj.dst u) := fun a hy u =>
    hy.of_same (execOp_put oi hsi a oj.dst u h3) (wanted_put oi a oj.dst u h3)
  unfold oneAt at *
  simp only [hj] at *
  rw [wanted_put oj a oi.dst v h1] at h
  split
  · rename_i hw
    simp only [hw, if_true] at h
    obtain ⟨u, hu, hn⟩ := h
    refine ⟨u, fun w hw' => ?_, keep a hy u, by rw [← Act.put_comm a v u h2]; exact hn⟩
    have := hu w hw'
    rwa [execOp_put oj hsj a oi.dst v h1] at this
  · rename_i hw
    simp only [hw] at h
    exact ⟨keep a hy _, by rw [← Act.put_comm a v undef h2]; exact h⟩

theorem oneAny_first {Q : Act → Prop} {i : Nat} {oi : Oper} {v : Value} (hi : ops[i]? = some oi) (hsel : ∀ (j : Nat) (o : Oper) cs b, ops[j]? = some o → o.op ≠ .select cs b) :
    ∀ (fuel : Nat) (listed : Array Bool) (a : Act),
      (∀ j oj, ops[j]? = some oj → j ≠ i → listed.getD j true = false → (∀ e ∈ oj.after, Region.binds md e = true → e.on ≠ i) → oi.apart ops oj = true) →
      i ∈ Region.ready md ops listed → YieldsOne P ops D s upd i oi v a →
      oneAny P md ops D s upd Q fuel (listed.setIfInBounds i true) (a.put oi.dst v) → oneAny P md ops D s upd Q (fuel + 1) listed a := by
  intro fuel
  induction fuel with
  | zero =>
    intro listed a _ hr hy H
    refine ⟨fun h => (by rw [h] at hr; cases hr), fun j hj => ?_⟩
    by_cases hji : j = i
    · subst hji; exact hy.oneAt hi H
    · have := ready_mono hj hji
      rw [H.2.1] at this
      cases this
  | succ fuel ih =>
    intro listed a hfree hr hy H
    refine ⟨fun h => (by rw [h] at hr; cases hr), fun j hj => ?_⟩
    by_cases hji : j = i
    · subst hji; exact hy.oneAt hi H
    · have h1 := H.2 j (ready_mono hj hji)
      obtain ⟨hjun, oj, hoj, hall⟩ := mem_ready.1 hj
      have hnot : ∀ e ∈ oj.after, Region.binds md e = true → e.on ≠ i := fun e he hb heq => by
        have h1 := hall e he hb
        have h0 := (mem_ready.1 hr).1
        rw [heq] at h1
        rcases Nat.lt_or_ge i listed.size with h' | h'
        · simp [h'] at h0 h1; rw [h0] at h1; cases h1
        · simp [Array.getElem?_eq_none h'] at h1
      have h2 := oneAt_put hoj (hfree j oj hoj hji hjun hnot) (fun cs b => hsel i oi cs b hi) (fun cs b => hsel j oj cs b hoj) hy h1
      have hfree' : ∀ k ok, ops[k]? = some ok → k ≠ i → (listed.setIfInBounds j true).getD k true = false →
          (∀ e ∈ ok.after, Region.binds md e = true → e.on ≠ i) → oi.apart ops ok = true := fun k ok hk hki hun hno => by
        refine hfree k ok hk hki ?_ hno
        by_cases hjk : j = k
        · subst hjk; exact hjun
        · rw [getD_set_ne true hjk] at hun; exact hun
      refine oneAt_mono (fun a' h3 => ih (listed.setIfInBounds j true) a' hfree' (ready_mono hr (Ne.symm hji)) h3.1 ?_) h2
      rw [Array.setIfInBounds_comm _ _ hji]
      exact h3.2

theorem oneAny_lex {Q : Act → Prop} (hs : Region.noSelect ops = true) (hsn : s < ops.size) : ∀ (l : List Oper) (k : Nat) (listed : Array Bool) (a : Act), (∀ j, l[j]? = ops[k + j]?) → (s < k → listed.getD s false = true) →
    Region.lexFrom md ops l.length k listed = true → wpOne P ops D s upd Q k l a → oneAny P md ops D s upd Q l.length listed a
  | [], k, listed, _, hl, hfl, hB, h => by
    have h0 : ops[k]? = none := by simpa using (hl 0).symm
    have : ops.size ≤ k := by simpa using h0
    exact ⟨hfl (by omega), by simpa [Region.lexFrom] using hB, h⟩
  | o :: l, k, listed, a, hl, hfl, hB, h => by
    have h0 : ops[k]? = some o := by simpa using (hl 0).symm
    simp only [List.length_cons, Region.lexFrom, Bool.and_eq_true] at hB
    obtain ⟨⟨hr, hf⟩, hB'⟩ := hB
    have hst : oneAt P ops D s upd k (wpOne P ops D s upd Q (k + 1) l) a := by unfold oneAt; simp only [h0]; exact h
    obtain ⟨v, hy, hK⟩ := yieldsOne_of h0 hst
    have hr' : k ∈ Region.ready md ops listed := by simpa using hr
    have hun := (mem_ready.1 hr').1
    refine oneAny_first h0 (Region.noSelect_spec hs) l.length listed a (Region.free_spec h0 hf) hr' hy
      (oneAny_lex hs hsn l (k + 1) _ _ (fun j => by have := hl (j + 1); simpa [Nat.add_assoc, Nat.add_comm 1 j] using this) (fun hk => ?_) hB' hK)
    by_cases hks : k = s
    · subst hks
      have hksz : k < listed.size := by
        rcases Nat.lt_or_ge k listed.size with h' | h'
        · exact h'
        · simp [Array.getElem?_eq_none h'] at hun
      simp [hksz]
    · rw [getD_set_ne false hks]; exact hfl (by omega)

/-- A world that is W below W's end but for block g, which may hold ob. -/
def ButFor (W : World) (g : Nat) (ob : Obj) (w : World) : Prop := Kept W w ∨ Kept (World.putObj W g ob) w

theorem ButFor.at {W w : World} {g b : Nat} {ob o : Obj} (h : ButFor W g ob w) (hne : b ≠ g) (hb : W.heap[b]? = some o) : w.heap[b]? = some o := by
  rcases h with h | h
  · exact h.at hb
  · exact h.at (by rw [putObj_other hne]; exact hb)

theorem putObj_kept {W w : World} {g : Nat} {ob : Obj} (h : Kept W w ∨ Kept (World.putObj W g ob) w) (hg : g < W.heap.size) : Kept (World.putObj W g ob) (World.putObj w g ob) := by
  have hsz : W.heap.size ≤ w.heap.size := by
    rcases h with h | h
    · exact h.size
    · have := h.size; rw [putObj_size] at this; exact this
  have hrest : ∀ k, k < W.heap.size → k ≠ g → w.heap[k]? = W.heap[k]? := fun k hk hne => by
    rcases h with h | h
    · exact h.block k hk
    · rw [h.block k (by rw [putObj_size]; exact hk), putObj_other hne]
  have hos : w.os = W.os ∧ w.tape = W.tape ∧ w.output = W.output := by
    rcases h with h | h
    · exact ⟨h.os, h.tape, h.output⟩
    · exact ⟨h.os, h.tape, h.output⟩
  refine ⟨hos.1, hos.2.1, hos.2.2, by rw [putObj_size, putObj_size]; exact hsz, fun k hk => ?_⟩
  rw [putObj_size] at hk
  by_cases hkg : k = g
  · subst hkg
    simp [World.putObj, hg, Nat.lt_of_lt_of_le hg hsz]
  · rw [putObj_other hkg, putObj_other hkg]; exact hrest k hk hkg

/-- The region: its one store into block g at s, all else quiet, in whatever order. -/
theorem region_one_store {id : Nat} {Q : Exit → Act → World → Prop} {a : Act} {w : World} {l : List Oper} (s g : Nat) (ob : Obj) (os : Oper) (hm : P.follows .mixedOrders = true) (hB : Region.lexB .any l.toArray = true)
    (hos : l[s]? = some os) (hgs : os.guard = none) (hg : g < w.heap.size)
    (h : wpOne P l.toArray (ButFor w g ob) s (fun w => World.putObj w g ob) (fun a' => ∀ w', Kept (World.putObj w g ob) w' → Q .normal a' w') 0 l a) : (Code.region id l.toArray true).wp P Q a w := by
  simp only [Region.lexB, Bool.and_eq_true] at hB
  have hsl : s < l.length := (List.getElem?_eq_some_iff.1 hos).1
  have hC : Flagged (fun b w' => Kept (bif b then World.putObj w g ob else w) w') (ButFor w g ob) (fun w => World.putObj w g ob) :=
    ⟨fun b w' hw => by cases b; exact .inl hw; exact .inr hw, fun b w1 w2 h1 h2 => h1.step h2, fun b w1 h1 => putObj_kept (by cases b; exact .inl h1; exact .inr h1) hg⟩
  refine wp_region_any hm (wpAny_of_one (D := ButFor w g ob) (s := s) (upd := fun w => World.putObj w g ob) hC (os := os) (by simpa using hos) hgs (Q := fun a' => ∀ w', Kept (World.putObj w g ob) w' → Q .normal a' w') (fun a' w' hw' hq => hq w' hw') _ _ _ _ ?_ ?_)
  · rw [show (Array.replicate l.toArray.size false).getD s false = false by simp [hsl]]
    exact Kept.drewn _ _
  · have := oneAny_lex (P := P) (D := ButFor w g ob) (s := s) (upd := fun w => World.putObj w g ob) (md := .any) (ops := l.toArray) hB.1 (by simpa using hsl) l 0 (Array.replicate l.toArray.size false) a (by simp) (fun h => absurd h (Nat.not_lt_zero _)) (by simpa using hB.2) h
    simpa using this
end

section
variable {P : Program} {ops : Array Oper} {D : World → Prop} {s k : Nat} {upd : World → World} {Q : Act → Prop} {a : Act} {o : Oper} {rest : List Oper} {K : Act → Prop}

theorem wpOne_nil (h : Q a) : wpOne P ops D s upd Q k [] a := h
theorem wpOne_want (hw : Region.wanted o (yielded ops a.tmps) = true) (h : ∀ K : Act → Prop, (∀ a, wpOne P ops D s upd Q (k + 1) rest a → K a) → oneOp P D s upd k o a K) : wpOne P ops D s upd Q k (o :: rest) a := by
  show if _ then _ else _
  rw [if_pos hw]
  exact h _ (fun _ h => h)
theorem wpOne_skip (hw : Region.wanted o (yielded ops a.tmps) = false) (h : wpOne P ops D s upd Q (k + 1) rest (a.put o.dst undef)) : wpOne P ops D s upd Q k (o :: rest) a := by
  show if _ then _ else _
  rw [if_neg (by rw [hw]; exact Bool.false_ne_true)]
  exact h

theorem one_of_quiet (hk : k ≠ s) (hp : plainOp o.op = true) (h : o.quiet P a (fun _ => True) K) : oneOp P D s upd k o a K := by
  have h' := q_any (C := fun _ => False) hp h
  obtain ⟨v, h1, h2⟩ := h
  refine ⟨v, fun w _ => ?_, h2⟩
  have h3 := h1 w trivial
  unfold Oper.quietAt at h3
  have hv : ∀ n w', (execOp a.eval o).run P w = .ok n w' → ∃ u, n = .value u := by
    intro n w' hr
    unfold execOp at hr
    cases ho : o.op <;> rw [ho] at hp hr <;> first | (exfalso; simp [plainOp] at hp; done) | exact value_only (f := fun x => x) hr | exact value_only hr
  cases hr : (execOp a.eval o).run P w with
  | halt x w1 => rw [hr] at h3; exact h3
  | ok n w1 =>
    obtain ⟨u, rfl⟩ := hv n w1 hr
    rw [hr] at h3
    exact ⟨hk, h3.1, h3.2⟩

theorem one_of_move (hk : k ≠ s) (x : Operand) (h : o.op = .move x) (hq : o.quiet P a (fun _ => True) K) : oneOp P D s upd k o a K := by
  obtain ⟨v, h1, h2⟩ := hq
  refine ⟨v, fun w _ => ?_, h2⟩
  have h3 := h1 w trivial
  unfold Oper.quietAt at h3
  rw [BigFrame.run_move x h] at h3 ⊢
  exact ⟨hk, h3.1, h3.2⟩
theorem one_of_assign (hk : k ≠ s) (x : Operand) (h : o.op = .assign x) (hq : o.quiet P a (fun _ => True) K) : oneOp P D s upd k o a K := by
  obtain ⟨v, h1, h2⟩ := hq
  refine ⟨v, fun w _ => ?_, h2⟩
  have h3 := h1 w trivial
  unfold Oper.quietAt at h3
  rw [BigFrame.run_assign x h] at h3 ⊢
  exact ⟨hk, h3.1, h3.2⟩

theorem one_load (hk : k ≠ s) {ty : TypeId} {x : Operand} (ho : o.op = .load ty x) {b : Nat} {cs : Array Value} {t : TypeId} {fr : Nat × Nat} (hx : a.eval x = .pointer (some ⟨b, 0, none⟩)) {d : TypeDesc}
    (hc : ∀ w, D w → w.heap[b]? = some (.cells cs t fr)) (hu : P.underlying ty = some d) (hd : (match d with | .struct _ | .array _ _ => true | _ => false) = true) (hi : (P.info? ty).map (·.size) = some cs.size) (h : K (a.put o.dst (.agg cs))) : oneOp P D s upd k o a K := by
  refine ⟨.agg cs, fun w hw => ?_, h⟩
  unfold execOp
  simp only [ho, hx, Sem.run_bind, Instr.loadAt, Instr.sureAddr, Sem.run_pure, run_loadVar_row w b t ty cs fr d (hc w hw) hu hd hi, Result.andThen_ok]
  exact ⟨hk, rfl, rfl⟩

theorem one_call (hk : k ≠ s) {f : FuncId} {args : List Operand} {ats : Array TypeId} (ho : o.op = .call { callee := .value (.func f), args := args.toArray, argTypes := ats }) (he : ∀ xs w, (callFunc f xs).run P w = .ok (.enter f xs) w)
    {v : Value} {vs : List Value} (hv : args.map a.eval = vs) (hc : ∀ w, D w → Calls P f vs.toArray w (fun e w' => e = .returned v ∧ Below w.heap.size w w')) (h : K (a.put o.dst v)) : oneOp P D s upd k o a K := by
  refine ⟨v, fun w hw => ?_, h⟩
  have hr : (execOp a.eval o).run P w = .ok (.enter f vs.toArray) w := by
    unfold execOp
    simp only [ho, resolve, List.map_toArray, hv]
    show (invoke (.fn (.func f) #[]) (#[] ++ vs.toArray)).run P w = _
    simp only [invoke, Array.empty_append, Array.append_empty]
    exact he vs.toArray w
  rw [hr]
  exact ⟨hk, rfl, hc w hw⟩

theorem setRow_putObj {w : World} {g : Nat} {old cs : Array Value} {t : TypeId} {fr : Nat × Nat} (h : w.heap[g]? = some (.cells old t fr)) : w.setRow g cs = World.putObj w g (.cells cs t fr) := by
  have hg : g < w.heap.size := by
    rcases Nat.lt_or_ge g w.heap.size with h1 | h1
    · exact h1
    · rw [Array.getElem?_eq_none h1] at h; cases h
  simp only [World.setRow, World.putObj]
  congr 1
  apply Array.ext_getElem?
  intro i
  rw [Array.getElem?_modify, Array.getElem?_setIfInBounds]
  by_cases hi : g = i
  · subst hi
    rw [if_pos rfl, if_pos rfl, if_pos hg, h]
    rfl
  · rw [if_neg hi, if_neg hi]
theorem one_store {t : TypeId} (g : Nat) (cs : Array Value) {a : Act} (ty : TypeId) (x y : Operand) (ho : o.op = .store ty x y)
    (hx : a.eval x = .pointer (some ⟨g, 0, none⟩)) (hy : a.eval y = .agg cs) (hD : ∀ w, D w → ∃ old, w.heap[g]? = some (.cells old t (0, 0)) ∧ old.size = cs.size) (hi : (P.info? ty).map (·.size) = some cs.size)
    (h1 : cs.all (·.oneCell') = true) (h : K (a.put o.dst undef)) : oneOp P D s (fun w => World.putObj w g (.cells cs t (0, 0))) s o a K := by
  refine ⟨undef, fun w hw => ?_, h⟩
  obtain ⟨old, hg, hold⟩ := hD w hw
  unfold execOp
  simp only [ho, hx, hy, Instr.storeAt, Instr.sureAddr, Sem.run_bind, Sem.run_pure, Result.andThen_ok, run_storeVar_row w g t ty old cs hg hi hold h1, setRow_putObj hg]
  exact ⟨rfl, rfl, rfl⟩

/-- The block of the store, in the class: what was there, or what is. -/
theorem ButFor.block {W w : World} {g : Nat} {old cs : Array Value} {t : TypeId} (h : ButFor W g (.cells cs t (0, 0)) w) (hg : W.heap[g]? = some (.cells old t (0, 0))) (hs : old.size = cs.size) : ∃ o, w.heap[g]? = some (.cells o t (0, 0)) ∧ o.size = cs.size := by
  rcases h with h | h
  · exact ⟨old, h.at hg, hs⟩
  · exact ⟨cs, h.at (putObj_at hg), rfl⟩
theorem ButFor.laid {W w : World} {g : Nat} {ob : Obj} {m : Nat} (h : ButFor W g ob w) (hm : m ≤ g) (hle : m ≤ W.heap.size) : Below m W w := by
  rcases h with h | h
  · exact Below.mono h hle
  · have hs : (World.putObj W g ob).heap.size = W.heap.size := putObj_size
    have h0 : Below m W (World.putObj W g ob) := ⟨rfl, rfl, rfl, by rw [hs]; exact Nat.le_refl _, fun k hk => putObj_other (show k ≠ g by omega)⟩
    exact h0.trans (Below.mono (h : Below (World.putObj W g ob).heap.size _ _) (by rw [hs]; exact hle))
end
end Go.Proofs.YtpppfeldnbjdpaaGreatDoor
