/- The program's verbs: a new map of seven functions, five of them closures over a number and a function. -/
import Derived.Test.YtpppfeldnbjdpaaGreatDoorD1
set_option linter.unusedVariables false
namespace Go.Proofs.YtpppfeldnbjdpaaGreatDoor
open Go Go.RowKit

/-- A closure of the maker's: over a number and a function. -/
def Clo (w : World) (v : Value) (n : Int) (f : Nat) : Prop := ∃ c1 c2, v = .func (.func 108) #[] #[.pointer (some ⟨c1, 0, none⟩), .pointer (some ⟨c2, 0, none⟩)] ∧
  w.heap[c1]? = some (.cells #[.int .i64 n] 3 (0, 0)) ∧ w.heap[c2]? = some (.cells #[.func (.func f) #[] #[]] 236 (0, 0))

theorem Clo.below {w w' : World} {v : Value} {n : Int} {f : Nat} (h : Clo w v n f) (hb : Below w.heap.size w w') : Clo w' v n f := by
  obtain ⟨c1, c2, h1, h2, h3⟩ := h
  exact ⟨c1, c2, h1, Kept.at hb h2, Kept.at hb h3⟩
theorem Clo.other {w w' : World} {v : Value} {n : Int} {f r : Nat} {es : Array MapEntry} {cl : Nat} (h : Clo w v n f) (hr : w.heap[r]? = some (.map es cl)) (hb : ∀ k, k ≠ r → w'.heap[k]? = w.heap[k]?) : Clo w' v n f := by
  obtain ⟨c1, c2, h1, h2, h3⟩ := h
  refine ⟨c1, c2, h1, (hb c1 ?_).trans h2, (hb c2 ?_).trans h3⟩ <;> (rintro rfl; simp_all)

theorem insert_gen {P : Program} {ops : Array Oper} {rest : List Oper} {o : Oper} {a : Act} {w : World} {Q : Exit → Act → World → Prop} (hgd : o.guard = none) {t kt et : TypeId} {m k x : Operand} (ho : o.op = .insert t m k x)
    {r : Nat} {es : Array MapEntry} {clock : Nat} {key : ByteArray} {v : Value} (hm : a.eval m = .map (some r)) (hk : a.eval k = .string key) (hx : a.eval x = v) (ht : P.underlying t = some (.map kt et)) (hkt : P.underlying kt = some .string)
    (h : w.heap[r]? = some (.map es clock)) (hn : Instr.findNow .string (.string key) es.toList 0 = some none)
    (hh : ∀ w1, w1.heap[r]? = some (.map (es.push ⟨.string key, v, clock⟩) (clock + 1)) → (∀ j, j ≠ r → w1.heap[j]? = w.heap[j]?) → w1.heap.size = w.heap.size → Below r w w1 → wpList P ops Q rest (a.put o.dst undef) w1) : wpList P ops Q (o :: rest) a w :=
  insert_new hgd ho hm hk hx ht hkt h hn (hh _ (putObj_at h) (fun j hj => putObj_other hj) putObj_size ⟨rfl, rfl, rfl, by rw [putObj_size]; exact Nat.le_refl _, fun j hj => putObj_other (by omega)⟩)

set_option maxHeartbeats 400000 in
theorem maker_any (n : Int) (f : Nat) (w : World) :
    Calls Tryz.prog 107 #[.int .i64 n, .func (.func f) #[] #[]] w fun e w' => (∃ v, e = .returned v ∧ Clo w' v n f) ∧ Below w.heap.size w w' := by
  go_enter Tryz.func107, Tryz.ntmps107
  go_wp2
  go_ret
  exact ⟨⟨_, rfl, w.heap.size, w.heap.size + 1, rfl, old_at (new_at _ _ _ rfl), new_at _ _ _ (by simp)⟩, ((Below.refl _ _).alloc (Nat.le_refl _) _).alloc (by simp) _⟩

set_option maxHeartbeats 2000000 in
set_option maxRecDepth 100000 in
theorem verbs_any (w : World) :
    Calls Tryz.prog 75 #[] w fun e w' => (∃ r v3 v4 v5 v6 v7, e = .returned (.map (some r)) ∧
      w'.heap[r]? = some (.map #[⟨.string ⟨#[97, 108, 101, 114, 116]⟩, .func (.func 110) #[] #[], 0⟩, ⟨.string ⟨#[97, 110, 115, 119, 101, 114]⟩, .func (.func 111) #[] #[], 1⟩, ⟨.string ⟨#[116, 105, 99, 107]⟩, v3, 2⟩, ⟨.string ⟨#[101, 100, 105, 116]⟩, v4, 3⟩, ⟨.string ⟨#[114, 101, 99, 101, 105, 112, 116]⟩, v5, 4⟩, ⟨.string ⟨#[115, 116, 97, 116, 101]⟩, v6, 5⟩, ⟨.string ⟨#[111, 119, 110]⟩, v7, 6⟩] 7) ∧ Clo w' v3 1 112 ∧ Clo w' v4 7 113 ∧ Clo w' v5 3 114 ∧ Clo w' v6 4 115 ∧ Clo w' v7 2 116) ∧ Below w.heap.size w w' := by
  have hmm := @run_makeMap Tryz.prog
  go_enter Tryz.func75, Tryz.ntmps75
  go_wp2_with (refine insert_gen rfl rfl rfl rfl rfl Tryz.underlying155 Tryz.underlying9 (r := w.heap.size) (es := #[]) (clock := 0) (new_at _ _ _ rfl) rfl ?_)
  intro w1 hm ho hs hb
  have HM1 := Lib.hid hm
  have HB1 := Lib.hid (((Below.refl w.heap.size w).alloc (Nat.le_refl _) (.map #[] 0)).trans hb)
  have HS1 : w.heap.size ≤ w1.heap.size := HB1.out.size
  clear hm ho hs hb
  go_wp2_with (refine insert_gen rfl rfl rfl rfl rfl Tryz.underlying155 Tryz.underlying9 (r := w.heap.size) (es := #[⟨.string ⟨#[97, 108, 101, 114, 116]⟩, .func (.func 110) #[] #[], 0⟩]) (clock := 1) HM1.out rfl ?_)
  intro w2 hm ho hs hb
  have HM2 := Lib.hid hm
  have HB2 := Lib.hid (HB1.out.trans hb)
  have HS2 : w.heap.size ≤ w2.heap.size := HB2.out.size
  clear hm ho hs hb HM1 HB1 HS1
  go_wp2_with fail
  refine (maker_any 1 112 _).mono ?_
  rintro e w3 ⟨⟨v3, rfl, hc3⟩, hb⟩
  have HM3 := Lib.hid (Kept.at hb HM2.out)
  have HB3 := Lib.hid (HB2.out.trans (hb.mono HS2))
  have HS3 : w.heap.size ≤ w3.heap.size := HB3.out.size
  have HC3 := Lib.hid hc3
  clear hb hc3 HM2 HB2 HS2
  go_wp2_with (refine insert_gen rfl rfl rfl rfl rfl Tryz.underlying155 Tryz.underlying9 (r := w.heap.size) (es := #[⟨.string ⟨#[97, 108, 101, 114, 116]⟩, .func (.func 110) #[] #[], 0⟩, ⟨.string ⟨#[97, 110, 115, 119, 101, 114]⟩, .func (.func 111) #[] #[], 1⟩]) (clock := 2) HM3.out rfl ?_)
  intro w4 hm ho hs hb
  have HM4 := Lib.hid hm
  have HB4 := Lib.hid (HB3.out.trans hb)
  replace HC3 := Lib.hid (HC3.out.other HM3.out ho)
  have HS4 : w.heap.size ≤ w4.heap.size := HB4.out.size
  clear hm ho hs hb HM3 HB3 HS3
  go_wp2_with fail
  refine (maker_any 7 113 _).mono ?_
  rintro e w5 ⟨⟨v4, rfl, hc4⟩, hb⟩
  have HM5 := Lib.hid (Kept.at hb HM4.out)
  have HB5 := Lib.hid (HB4.out.trans (hb.mono HS4))
  have HS5 : w.heap.size ≤ w5.heap.size := HB5.out.size
  replace HC3 := Lib.hid (HC3.out.below hb)
  have HC4 := Lib.hid hc4
  clear hb hc4 HM4 HB4 HS4
  go_wp2_with (refine insert_gen rfl rfl rfl rfl rfl Tryz.underlying155 Tryz.underlying9 (r := w.heap.size) (es := #[⟨.string ⟨#[97, 108, 101, 114, 116]⟩, .func (.func 110) #[] #[], 0⟩, ⟨.string ⟨#[97, 110, 115, 119, 101, 114]⟩, .func (.func 111) #[] #[], 1⟩, ⟨.string ⟨#[116, 105, 99, 107]⟩, v3, 2⟩]) (clock := 3) HM5.out rfl ?_)
  intro w6 hm ho hs hb
  have HM6 := Lib.hid hm
  have HB6 := Lib.hid (HB5.out.trans hb)
  replace HC3 := Lib.hid (HC3.out.other HM5.out ho)
  replace HC4 := Lib.hid (HC4.out.other HM5.out ho)
  have HS6 : w.heap.size ≤ w6.heap.size := HB6.out.size
  clear hm ho hs hb HM5 HB5 HS5
  go_wp2_with fail
  refine (maker_any 3 114 _).mono ?_
  rintro e w7 ⟨⟨v5, rfl, hc5⟩, hb⟩
  have HM7 := Lib.hid (Kept.at hb HM6.out)
  have HB7 := Lib.hid (HB6.out.trans (hb.mono HS6))
  have HS7 : w.heap.size ≤ w7.heap.size := HB7.out.size
  replace HC3 := Lib.hid (HC3.out.below hb)
  replace HC4 := Lib.hid (HC4.out.below hb)
  have HC5 := Lib.hid hc5
  clear hb hc5 HM6 HB6 HS6
  go_wp2_with (refine insert_gen rfl rfl rfl rfl rfl Tryz.underlying155 Tryz.underlying9 (r := w.heap.size) (es := #[⟨.string ⟨#[97, 108, 101, 114, 116]⟩, .func (.func 110) #[] #[], 0⟩, ⟨.string ⟨#[97, 110, 115, 119, 101, 114]⟩, .func (.func 111) #[] #[], 1⟩, ⟨.string ⟨#[116, 105, 99, 107]⟩, v3, 2⟩, ⟨.string ⟨#[101, 100, 105, 116]⟩, v4, 3⟩]) (clock := 4) HM7.out rfl ?_)
  intro w8 hm ho hs hb
  have HM8 := Lib.hid hm
  have HB8 := Lib.hid (HB7.out.trans hb)
  replace HC3 := Lib.hid (HC3.out.other HM7.out ho)
  replace HC4 := Lib.hid (HC4.out.other HM7.out ho)
  replace HC5 := Lib.hid (HC5.out.other HM7.out ho)
  have HS8 : w.heap.size ≤ w8.heap.size := HB8.out.size
  clear hm ho hs hb HM7 HB7 HS7
  go_wp2_with fail
  refine (maker_any 4 115 _).mono ?_
  rintro e w9 ⟨⟨v6, rfl, hc6⟩, hb⟩
  have HM9 := Lib.hid (Kept.at hb HM8.out)
  have HB9 := Lib.hid (HB8.out.trans (hb.mono HS8))
  have HS9 : w.heap.size ≤ w9.heap.size := HB9.out.size
  replace HC3 := Lib.hid (HC3.out.below hb)
  replace HC4 := Lib.hid (HC4.out.below hb)
  replace HC5 := Lib.hid (HC5.out.below hb)
  have HC6 := Lib.hid hc6
  clear hb hc6 HM8 HB8 HS8
  go_wp2_with (refine insert_gen rfl rfl rfl rfl rfl Tryz.underlying155 Tryz.underlying9 (r := w.heap.size) (es := #[⟨.string ⟨#[97, 108, 101, 114, 116]⟩, .func (.func 110) #[] #[], 0⟩, ⟨.string ⟨#[97, 110, 115, 119, 101, 114]⟩, .func (.func 111) #[] #[], 1⟩, ⟨.string ⟨#[116, 105, 99, 107]⟩, v3, 2⟩, ⟨.string ⟨#[101, 100, 105, 116]⟩, v4, 3⟩, ⟨.string ⟨#[114, 101, 99, 101, 105, 112, 116]⟩, v5, 4⟩]) (clock := 5) HM9.out rfl ?_)
  intro w10 hm ho hs hb
  have HM10 := Lib.hid hm
  have HB10 := Lib.hid (HB9.out.trans hb)
  replace HC3 := Lib.hid (HC3.out.other HM9.out ho)
  replace HC4 := Lib.hid (HC4.out.other HM9.out ho)
  replace HC5 := Lib.hid (HC5.out.other HM9.out ho)
  replace HC6 := Lib.hid (HC6.out.other HM9.out ho)
  have HS10 : w.heap.size ≤ w10.heap.size := HB10.out.size
  clear hm ho hs hb HM9 HB9 HS9
  go_wp2_with fail
  refine (maker_any 2 116 _).mono ?_
  rintro e w11 ⟨⟨v7, rfl, hc7⟩, hb⟩
  have HM11 := Lib.hid (Kept.at hb HM10.out)
  have HB11 := Lib.hid (HB10.out.trans (hb.mono HS10))
  have HS11 : w.heap.size ≤ w11.heap.size := HB11.out.size
  replace HC3 := Lib.hid (HC3.out.below hb)
  replace HC4 := Lib.hid (HC4.out.below hb)
  replace HC5 := Lib.hid (HC5.out.below hb)
  replace HC6 := Lib.hid (HC6.out.below hb)
  have HC7 := Lib.hid hc7
  clear hb hc7 HM10 HB10 HS10
  go_wp2_with (refine insert_gen rfl rfl rfl rfl rfl Tryz.underlying155 Tryz.underlying9 (r := w.heap.size) (es := #[⟨.string ⟨#[97, 108, 101, 114, 116]⟩, .func (.func 110) #[] #[], 0⟩, ⟨.string ⟨#[97, 110, 115, 119, 101, 114]⟩, .func (.func 111) #[] #[], 1⟩, ⟨.string ⟨#[116, 105, 99, 107]⟩, v3, 2⟩, ⟨.string ⟨#[101, 100, 105, 116]⟩, v4, 3⟩, ⟨.string ⟨#[114, 101, 99, 101, 105, 112, 116]⟩, v5, 4⟩, ⟨.string ⟨#[115, 116, 97, 116, 101]⟩, v6, 5⟩]) (clock := 6) HM11.out rfl ?_)
  intro w12 hm ho hs hb
  have HM12 := Lib.hid hm
  have HB12 := Lib.hid (HB11.out.trans hb)
  replace HC3 := Lib.hid (HC3.out.other HM11.out ho)
  replace HC4 := Lib.hid (HC4.out.other HM11.out ho)
  replace HC5 := Lib.hid (HC5.out.other HM11.out ho)
  replace HC6 := Lib.hid (HC6.out.other HM11.out ho)
  replace HC7 := Lib.hid (HC7.out.other HM11.out ho)
  have HS12 : w.heap.size ≤ w12.heap.size := HB12.out.size
  clear hm ho hs hb HM11 HB11 HS11
  go_wp2
  go_ret
  exact ⟨⟨_, _, _, _, _, _, rfl, HM12.out, HC3.out, HC4.out, HC5.out, HC6.out, HC7.out⟩, HB12.out⟩
end Go.Proofs.YtpppfeldnbjdpaaGreatDoor
