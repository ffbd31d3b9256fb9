/- Labels: the program's Parse at the sane text's labels. -/
import Derived.Test.YtpppfeldnbjdpaaGreatDoorF2
set_option linter.unusedVariables false
namespace Go.Proofs.YtpppfeldnbjdpaaGreatDoor
open Go Go.RowKit

theorem store_cell {P : Program} {ops : Array Oper} {rest : List Oper} {o : Oper} {a : Act} {w : World} {Q : Exit → Act → World → Prop} (hgd : o.guard = none) (ty : TypeId) (x y : Operand) (ho : o.op = .store ty x y)
    (g j : Nat) (v : Value) (hx : a.eval x = .pointer (some ⟨g, j, none⟩)) (hy : a.eval y = v) (t : TypeId) (old : Array Value) (hg : w.heap[g]? = some (.cells old t (0, 0))) (hi : (P.info? ty).map (·.size) = some 1)
    (hv : v.cells = #[v]) (h1 : v.oneCell' = true) (hj : j < old.size)
    (h : wpList P ops Q rest (a.put o.dst undef) (w.setRow g (old.setIfInBounds j v))) : wpList P ops Q (o :: rest) a w :=
  wpList_plain hgd fun K hK => by
    have hst : (storeVar ty ⟨g, j, none⟩ v).run P w = .ok () (w.setRow g (old.setIfInBounds j v)) := by
      cases hq : P.info? ty with
      | none => simp [hq] at hi
      | some i =>
        have hs : i.size = 1 := by simpa [hq] using hi
        have hcell : w.cell? ⟨g, j, none⟩ = some old[j] := by simp [World.cell?, hg, hj]
        have hfro : w.frozen? ⟨g, j, none⟩ = false := by simp [World.frozen?, hg]
        have hone : (store ⟨g, j, none⟩ v).run P w = .ok () (w.setRow g (old.setIfInBounds j v)) := by
          rw [run_store P w _ v _ h1, hcell]
          simp [hfro, setCell_eq_setRow w g j old t (0, 0) v hg]
        simp [storeVar, sizeOf, typeInfo, hq, hv, hs, storeCells, Addr.add, hone]
    unfold Oper.wp execOp
    simp only [ho, hx, hy, Instr.storeAt, Instr.sureAddr, Sem.run_bind, Sem.run_pure, Result.andThen_ok, hst]
    exact hK _ _ h

set_option maxHeartbeats 2000000 in
set_option maxRecDepth 100000 in
theorem labelParse_host (w : World) (hlaid : Laid w) :
    Calls Tryz.prog 160 #[.string ⟨labL.toArray⟩] w fun e w' => (∃ g cap, e = .returned (.tuple #[.slice (some ⟨g, 0, none⟩) 1 cap, .int .i64 0]) ∧ 1 ≤ cap ∧ w.heap.size ≤ g ∧ g < w'.heap.size ∧ w'.rangeAt g 0 labC.toList) ∧ Below w.heap.size w w' := by
  obtain ⟨i0, hi, hz0, hz1, hz2⟩ := info_parts (show (Tryz.prog.info? 97).map (fun i => (i.zero, i.size, i.bytes)) = some (some (.agg #[.string ⟨#[]⟩, .string ⟨#[]⟩]), 2, 32) by kernel_rfl)
  have HL := Lib.hid hlaid
  clear hlaid
  go_enter Tryz.func160, Tryz.ntmps160
  go_wp2_with fail
  refine (Tryz.strings_CutPrefix _ _ _).mono ?_
  rintro e w1 ⟨rfl, rfl⟩
  rw [show (Lib.trimPrefix (⟨labL.toArray⟩ : ByteArray).data.toList (⟨#[123]⟩ : ByteArray).data.toList).toArray = #[104, 111, 115, 116, 61, 34, 97, 34, 125] by rfl, show Lib.hasPrefix (⟨labL.toArray⟩ : ByteArray).data.toList (⟨#[123]⟩ : ByteArray).data.toList = true by rfl]
  go_wp2_with fail
  refine wp_loop_rounds 2 ?_
  rw [rounds_succ]
  go_wp2_with fail
  refine (Tryz.strings_TrimPrefix _ _ _).mono ?_
  rintro e w2 ⟨rfl, rfl⟩
  rw [show (Lib.trimPrefix (⟨#[104, 111, 115, 116, 61, 34, 97, 34, 125]⟩ : ByteArray).data.toList (⟨#[44]⟩ : ByteArray).data.toList).toArray = #[104, 111, 115, 116, 61, 34, 97, 34, 125] by rfl]
  go_wp2_with fail
  have hbA : Below w1.heap.size w1 (w1.alloc (.cells #[.string ⟨#[]⟩, .string ⟨#[]⟩] 97)) := (Below.refl _ _).alloc (Nat.le_refl _) _
  refine (cut_any [104, 111, 115, 116, 61, 34, 97, 34, 125] 61 (by decide) _ (HL.out.below hbA HL.out.size) [104, 111, 115, 116] [34, 97, 34, 125] true (by rfl)).mono ?_
  rintro e w2 ⟨rfl, hb2⟩
  have HZ2 := Lib.hid (Kept.at hb2 (new_at w1 (.cells #[.string ⟨#[]⟩, .string ⟨#[]⟩] 97) w1.heap.size rfl))
  have HB2 := Lib.hid (hbA.trans (hb2.mono hbA.size))
  have hs2 := HB2.out.size
  clear hb2 hbA
  go_wp2_with (refine store_cell rfl 9 _ _ rfl w1.heap.size 0 (.string ⟨#[104, 111, 115, 116]⟩) rfl rfl 97 _ HZ2.out (by kernel_rfl) rfl rfl (by simp) ?_)
  refine (unquoted_a _).mono ?_
  rintro e w3 ⟨rfl, hb3⟩
  have HZ3 := Lib.hid (Kept.at hb3 (setRow_heap _ _ _ _ _ _ HZ2.out))
  have HB3 := Lib.hid ((below_setRow HB2.out (Nat.le_refl _) _).trans (hb3.mono (by simpa using hs2)))
  have hs3 := HB3.out.size
  clear hb3
  have hls : labC.size = 2 := rfl
  have hfold : Array.foldl (fun (cs : Array Value) (x : Value × Nat) => cs.setIfInBounds x.snd x.fst) #[.string ⟨#[]⟩, .string ⟨#[]⟩] labC.zipIdx 0 2 = labC := by rfl
  go_wp2_with (first
    | (refine store_cell rfl 9 _ _ rfl w1.heap.size 1 (.string ⟨#[97]⟩) rfl rfl 97 _ HZ3.out (by kernel_rfl) rfl rfl (by simp) ?_)
    | (refine load_row rfl 97 _ rfl w1.heap.size labC rfl 97 (0, 0) _ (setRow_heap _ _ _ _ _ _ HZ3.out) Tryz.underlying97 rfl (by kernel_rfl) ?_)
    | (at_builtin; refine wpList_append_own _ rfl _ _ 23 rfl w1.heap.size 97 i0 (.agg #[.string ⟨#[]⟩, .string ⟨#[]⟩]) 2 32 Tryz.underlying23 hi hz0 hz1 hz2 rfl (by decide) _ _ _ rfl (World.ownsRow_nil _ _ _ _) ⟨w3.heap.size, 0, none⟩ 1 1 labC.toList rfl rfl ?c1 ?c2 ?c3 ?c4 ?c5 ?_))
  case c1 =>
    intro j u hj
    have h2 : labC[j]? = some u := by simpa using hj
    rw [show ((⟨w3.heap.size, 0, none⟩ : Addr).add j) = ⟨w3.heap.size, j, none⟩ by unfold Addr.add; split <;> simp_all]
    exact (cells_at (new_at (w3.setRow w1.heap.size #[.string ⟨#[104, 111, 115, 116]⟩, .string ⟨#[97]⟩]) (.cells labC 97) w3.heap.size (by simp)) j).trans h2
  case c2 => intro u hu; exact (Array.all_eq_true_iff_forall_mem.1 labC_one) u (by simpa using hu)
  case c3 => unfold maxLen; omega
  case c4 => omega
  case c5 => simp; omega
  intro v' w5 hown hgr _
  have hb5 := grown_below (World.ownsRow_nil _ w1.heap.size 97 2) hgr (Nat.le_refl _) (by simp; omega)
  have HB4 := Lib.hid ((below_setRow HB3.out (Nat.le_refl w1.heap.size) #[.string ⟨#[104, 111, 115, 116]⟩, .string ⟨#[97]⟩]).alloc (by simpa using hs3) (.cells labC 97))
  obtain ⟨g, cap, rfl⟩ := Joins.ownsRow_form hown (by simp)
  have hlt := hown.lt g rfl
  have hcap1 : 1 ≤ cap := by
    obtain ⟨_, h0 | ⟨_, _, _, hv, _, _, hc, _⟩⟩ := hown
    · cases h0.1
    · cases hv; exact hc
  have hrange : w5.rangeAt g 0 labC.toList := by
    intro j v hj
    have hjl : j < 2 := by
      rcases Nat.lt_or_ge j 2 with h | h
      · exact h
      · rw [List.getElem?_eq_none (by simpa [labC] using h)] at hj; cases hj
    have := hown.cellAt j (by simpa [labC] using hjl)
    simp only [Nat.zero_add]
    rw [this]
    simpa using hj
  have HB5 := Lib.hid (HB4.out.trans hb5)
  have hs5 := HB5.out.size
  have HR := Lib.hid hrange
  clear hown hgr hb5 hrange
  go_wp2_with fail
  rw [rounds_succ]
  go_wp2_with fail
  have hl5 : Laid w5 := HL.out.below HB5.out HL.out.size
  refine (text_host g cap hcap1 w5 hl5 hlt.2 HR.out).mono ?_
  rintro e w6 ⟨rfl, hb6⟩
  have HB6 := Lib.hid (HB5.out.trans (hb6.mono hs5))
  have HR6 := Lib.hid (show w6.rangeAt g 0 labC.toList from fun j v hj => (Below.cell hb6 (p := ⟨g, 0 + j, none⟩) hlt.2).trans (HR.out j v hj))
  have hs6 := hb6.size
  clear hb6
  go_wp2
  go_ret2
  exact ⟨⟨g, cap, rfl, hcap1, hlt.1, by omega, HR6.out⟩, HB6.out⟩
end Go.Proofs.YtpppfeldnbjdpaaGreatDoor
