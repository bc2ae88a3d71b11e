/- Package ir: Ends: what it answers, and its walk. -/
import Derived.Test.YtdmplkegjjbodaaIr2
namespace Go.Proofs.Ytdmplkegjjbodaa
set_option linter.unusedSimpArgs false
set_option linter.unusedVariables false
open Go.RowKit Go.Proofs.YtdmplkegjjbodaaW.PrintWords Go.Proofs.YtdmplkegjjbodaaW.PrintLast

def endsF (e : End) (v n : Int) : Int :=
  if e.kind < 1 ∨ 3 < e.kind ∨ (e.kind = 1 ∧ e.a ≠ 0) ∨ (e.kind = 3 ∧ e.jt ≠ 0) ∨ (e.kind ≠ 2 ∧ e.je ≠ 0) then 20
  else if e.kind ≠ 1 ∧ (e.a < 0 ∨ v ≤ e.a) then 21
  else if e.kind ≠ 3 ∧ (e.jt < 0 ∨ n ≤ e.jt) then 22
  else if e.kind = 2 ∧ (e.je < 0 ∨ n ≤ e.je) then 22
  else 0

theorem ret_int {k : IntKind} {a b : Int} (h : a = b) : Ending.returned (.int k a) = .returned (.int k b) := by rw [h]
set_option maxRecDepth 100000 in
set_option maxHeartbeats 4000000 in
theorem ends_1 (e0 : End) (v n : Int) (w : World) (hk : e0.kind = 1) :
    Calls Try.prog 67 #[.agg e0.cells.toArray, .int .i64 v, .int .i64 n] w fun e w' => e = .returned (.int .i64 (endsF e0 v n)) ∧ Upd (fun _ => False) w w' := by
  obtain ⟨k, a, jt, je⟩ := e0
  simp only [End.cells] at *
  subst hk
  go_enter Try.func67, Try.ntmps67
  go_wp2_with fail
  refine (last_calls ⟨_, a, jt, je⟩ _).mono ?_
  rintro e w1 ⟨rfl, h1⟩
  have hb1 := Lib.hid (h1.blk (heap_alloc_new w _) (by simp))
  have hc := fun q u e => cellAt hb1.out q u e
  have c0 := hc 0 _ rfl
  have c1 := hc 1 _ rfl
  have c2 := hc 2 _ rfl
  have c3 := hc 3 _ rfl
  clear hc
  have H1 := Lib.hid (((Upd.refl _ _).alloc _).trans h1)
  clear h1
  go_wp2
  all_goals
    go_ret
    refine ⟨ret_int ?_, H1.out⟩
    (try simp only [bne_iff_ne, ne_eq, bne_eq_false_iff_eq, beq_iff_eq, beq_eq_false_iff_ne] at *)
    unfold endsF
    (try dsimp only)
    (repeat' split) <;> omega
set_option maxRecDepth 100000 in
set_option maxHeartbeats 4000000 in
theorem ends_2 (e0 : End) (v n : Int) (w : World) (hk : e0.kind = 2) :
    Calls Try.prog 67 #[.agg e0.cells.toArray, .int .i64 v, .int .i64 n] w fun e w' => e = .returned (.int .i64 (endsF e0 v n)) ∧ Upd (fun _ => False) w w' := by
  obtain ⟨k, a, jt, je⟩ := e0
  simp only [End.cells] at *
  subst hk
  go_enter Try.func67, Try.ntmps67
  go_wp2_with fail
  refine (last_calls ⟨_, a, jt, je⟩ _).mono ?_
  rintro e w1 ⟨rfl, h1⟩
  have hb1 := Lib.hid (h1.blk (heap_alloc_new w _) (by simp))
  have hc := fun q u e => cellAt hb1.out q u e
  have c0 := hc 0 _ rfl
  have c1 := hc 1 _ rfl
  have c2 := hc 2 _ rfl
  have c3 := hc 3 _ rfl
  clear hc
  have H1 := Lib.hid (((Upd.refl _ _).alloc _).trans h1)
  clear h1
  go_wp2
  all_goals
    go_ret
    refine ⟨ret_int ?_, H1.out⟩
    (try simp only [bne_iff_ne, ne_eq, bne_eq_false_iff_eq, beq_iff_eq, beq_eq_false_iff_ne] at *)
    unfold endsF
    (try dsimp only)
    (repeat' split) <;> omega
set_option maxRecDepth 100000 in
set_option maxHeartbeats 4000000 in
theorem ends_3 (e0 : End) (v n : Int) (w : World) (hk : e0.kind = 3) :
    Calls Try.prog 67 #[.agg e0.cells.toArray, .int .i64 v, .int .i64 n] w fun e w' => e = .returned (.int .i64 (endsF e0 v n)) ∧ Upd (fun _ => False) w w' := by
  obtain ⟨k, a, jt, je⟩ := e0
  simp only [End.cells] at *
  subst hk
  go_enter Try.func67, Try.ntmps67
  go_wp2_with fail
  refine (last_calls ⟨_, a, jt, je⟩ _).mono ?_
  rintro e w1 ⟨rfl, h1⟩
  have hb1 := Lib.hid (h1.blk (heap_alloc_new w _) (by simp))
  have hc := fun q u e => cellAt hb1.out q u e
  have c0 := hc 0 _ rfl
  have c1 := hc 1 _ rfl
  have c2 := hc 2 _ rfl
  have c3 := hc 3 _ rfl
  clear hc
  have H1 := Lib.hid (((Upd.refl _ _).alloc _).trans h1)
  clear h1
  go_wp2
  all_goals
    go_ret
    refine ⟨ret_int ?_, H1.out⟩
    (try simp only [bne_iff_ne, ne_eq, bne_eq_false_iff_eq, beq_iff_eq, beq_eq_false_iff_ne] at *)
    unfold endsF
    (try dsimp only)
    (repeat' split) <;> omega
set_option maxRecDepth 100000 in
set_option maxHeartbeats 4000000 in
theorem ends_other (e0 : End) (v n : Int) (w : World) (hk : e0.kind < 1 ∨ 3 < e0.kind) :
    Calls Try.prog 67 #[.agg e0.cells.toArray, .int .i64 v, .int .i64 n] w fun e w' => e = .returned (.int .i64 (endsF e0 v n)) ∧ Upd (fun _ => False) w w' := by
  obtain ⟨k, a, jt, je⟩ := e0
  simp only [End.cells] at *
  have e1 : (k == 1) = false := by simp; omega
  have e2 : (k == 2) = false := by simp; omega
  have e3 : (k == 3) = false := by simp; omega
  go_enter Try.func67, Try.ntmps67
  go_wp2_with fail
  refine (last_calls ⟨_, a, jt, je⟩ _).mono ?_
  rintro e w1 ⟨rfl, h1⟩
  have hb1 := Lib.hid (h1.blk (heap_alloc_new w _) (by simp))
  have hc := fun q u e => cellAt hb1.out q u e
  have c0 := hc 0 _ rfl
  have c1 := hc 1 _ rfl
  have c2 := hc 2 _ rfl
  have c3 := hc 3 _ rfl
  clear hc
  have H1 := Lib.hid (((Upd.refl _ _).alloc _).trans h1)
  clear h1
  go_wp2
  all_goals
    go_ret
    refine ⟨ret_int ?_, H1.out⟩
    (try simp only [bne_iff_ne, ne_eq, bne_eq_false_iff_eq, beq_iff_eq, beq_eq_false_iff_ne] at *)
    unfold endsF
    (try dsimp only)
    (repeat' split) <;> omega
theorem ends_calls (e0 : End) (v n : Int) (w : World) :
    Calls Try.prog 67 #[.agg e0.cells.toArray, .int .i64 v, .int .i64 n] w fun e w' => e = .returned (.int .i64 (endsF e0 v n)) ∧ Upd (fun _ => False) w w' := by
  by_cases h : e0.kind < 1 ∨ 3 < e0.kind
  · exact ends_other e0 v n w h
  · have h0 : e0.kind = 1 ∨ e0.kind = 2 ∨ e0.kind = 3 := by omega
    rcases h0 with h | h | h
    · exact ends_1 e0 v n w h
    · exact ends_2 e0 v n w h
    · exact ends_3 e0 v n w h
end Go.Proofs.Ytdmplkegjjbodaa
