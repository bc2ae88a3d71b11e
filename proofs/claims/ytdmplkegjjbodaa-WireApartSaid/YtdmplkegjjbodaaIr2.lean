/- Package ir: Last, Gives, Uses, Ends, of: what they answer, and their walks. -/
import Derived.Test.YtdmplkegjjbodaaIr
import Derived.Deep.RegionHeld3
namespace Go.Proofs.Ytdmplkegjjbodaa
set_option linter.unusedSimpArgs false
set_option linter.unusedVariables false
open Go.RowKit Go.Proofs.YtdmplkegjjbodaaW.PrintWords Go.Proofs.YtdmplkegjjbodaaW.PrintLast

theorem last_calls (e0 : End) (w : World) :
    Calls Try.prog 58 #[.agg e0.cells.toArray] w fun e w' => e = .returned (.tuple #[.int .i64 e0.a, .bool (e0.kind == 2 || e0.kind == 3)]) ∧ Upd (fun _ => False) w w' := by
  obtain ⟨k, a, jt, je⟩ := e0
  simp only [End.cells]
  by_cases h2 : k = 2
  · subst h2
    go_enter Try.func58, Try.ntmps58
    go_wp2_with fail
    go_quiet (fail)
    go_wp2
    go_ret2
    exact ⟨rfl, by repeat (first | exact Upd.refl _ _ | apply Upd.alloc | apply Upd.drew | apply Upd.drewN)⟩
  · have hb : (k == 2) = false := by simpa using h2
    go_enter Try.func58, Try.ntmps58
    go_wp2_with fail
    go_quiet (fail)
    go_wp2
    go_ret2
    exact ⟨by simp [hb], by repeat (first | exact Upd.refl _ _ | apply Upd.alloc | apply Upd.drew | apply Upd.drewN)⟩

def givesB (k : Int) : Bool := k == 1 || k == 2 || k == 3 || k == 4 || k == 6 || k == 8
def givesD (i : Ins) : Int := if givesB i.kind = true then i.d else 0
set_option maxHeartbeats 1000000 in
theorem gives_calls (i : Ins) (A : Option Addr) (c : Nat) (w : World) :
    Calls Try.prog 80 #[.agg (i.cells (.slice A i.args.length c)).toArray] w fun e w' => e = .returned (.tuple #[.int .i64 (givesD i), .bool (givesB i.kind)]) ∧ Upd (fun _ => False) w w' := by
  obtain ⟨k, op, d, a, b, n, args⟩ := i
  simp only [Ins.cells]
  go_enter Try.func80, Try.ntmps80
  go_wp2
  all_goals
    go_ret2
    exact ⟨by simp [givesD, givesB, *], by repeat (first | exact Upd.refl _ _ | apply Upd.alloc | apply Upd.drew | apply Upd.drewN)⟩

def usesOf (i : Ins) : List Int :=
  if i.kind = 2 ∨ i.kind = 4 ∨ i.kind = 7 then [i.a] else if i.kind = 3 ∨ i.kind = 5 then [i.a, i.b] else if i.kind = 6 then i.args else []

theorem R_ints_lit {W : World} {e base g : Nat} (xs : List Int) (hg : W.heap.size = g) (hb : base ≤ g) (hm : xs.length ≤ 9223372036854775807) :
    (Kd.int .i64).R e (W.alloc (.cells (xs.map (Value.int .i64)).toArray e)) base (fun _ => True) (.slice (some ⟨g, 0, none⟩) xs.length xs.length) xs := by
  subst hg
  refine Kd.R_of_own (enc := Value.int .i64) (h1 := fun _ => rfl) ?_ (fun _ _ => trivial)
  have h := World.ownsRow_lit (base := base) (e := e) (size := 1) W (xs.map (Value.int .i64)).toArray xs.length hb (by simpa [maxLen] using hm) (by simp)
  simpa [encs] using h

def UsesPost (w : World) (i : Ins) (e : Ending) (w' : World) : Prop :=
  ∃ v, e = .returned v ∧ (Kd.int .i64).R 3 w' w.heap.size (fun _ => True) v (usesOf i) ∧ Upd (fun _ => False) w w'

theorem uses_calls (i : Ins) (A : Option Addr) (c : Nat) (w : World) (hc : i.args.length ≤ c) (hC : (Kd.int .i64).C w A i.args.length i.args) (hl : i.args.length * 8 ≤ 140737488355328) :
    Calls Try.prog 87 #[.agg (i.cells (.slice A i.args.length c)).toArray] w (UsesPost w i) := by
  obtain ⟨k, op, d, a, b, n, args⟩ := i
  simp only [Ins.cells] at *
  have hCC := Lib.hid hC
  clear hC
  by_cases h1 : k = 2 ∨ k = 4 ∨ k = 7
  · have hu : usesOf ⟨k, op, d, a, b, n, args⟩ = [a] := by simp [usesOf, h1]
    have hU := Lib.hid hu
    clear hu
    rcases h1 with rfl | rfl | rfl
    all_goals
      go_enter Try.func87, Try.ntmps87
      go_wp2
      go_ret
      refine ⟨_, rfl, ?_, by repeat (first | exact Upd.refl _ _ | apply Upd.alloc | apply Upd.drew | apply Upd.drewN)⟩
      rw [hU.out]
      exact R_ints_lit (W := w.alloc _) [a] (by simp) (by omega) (by simp)
  by_cases h2 : k = 3 ∨ k = 5
  · have hu : usesOf ⟨k, op, d, a, b, n, args⟩ = [a, b] := by simp [usesOf, h1, h2]
    have hU := Lib.hid hu
    clear hu h1
    rcases h2 with rfl | rfl
    all_goals
      go_enter Try.func87, Try.ntmps87
      go_wp2
      go_ret
      refine ⟨_, rfl, ?_, by repeat (first | exact Upd.refl _ _ | apply Upd.alloc | apply Upd.drew | apply Upd.drewN)⟩
      rw [hU.out]
      exact R_ints_lit (W := w.alloc _) [a, b] (by simp) (by omega) (by simp)
  by_cases h3 : k = 6
  · have hu : usesOf ⟨k, op, d, a, b, n, args⟩ = args := by simp [usesOf, h3]
    have hU := Lib.hid hu
    clear hu h1 h2
    subst h3
    have hc0 := Lib.hid (R_ints_lit (W := w.alloc (.cells #[.int .u8 6, .int .u8 op, .int .i64 d, .int .i64 a, .int .i64 b, .int .i64 n, .slice A args.length c] 82)) (e := 3) (base := w.heap.size) (g := w.heap.size + 1) [] (by simp) (by omega) (by simp))
    have hC2 := Lib.hid (Kd.C_alloc (Kd.C_alloc hCC.out (.cells #[.int .u8 6, .int .u8 op, .int .i64 d, .int .i64 a, .int .i64 b, .int .i64 n, .slice A args.length c] 82)) (.cells #[] 3))
    go_enter Try.func87, Try.ntmps87
    go_wp2_with (first
      | (at_builtin
         refine Kd.R_append_rows (Kd.int .i64) (w0 := w) w.heap.size rfl (.tmp 22) (.tmp 24) 80 3 (.int .i64 0) 8 rfl Try.underlying80 infoI rfl (by decide) (by decide) _ [] args A args.length c (fun _ => True) (fun _ => False) (by rfl) (by rfl) hc0.out hC2.out (fun _ _ h => h) (fun _ h => h.elim) (fun _ _ => trivial) (below_alloc (below_alloc (Below.refl _ _) _) _) (by simp; omega) (by simpa using hl) ?_
         intro v1 w1 hR1 hb1 _ _))
    go_ret
    refine ⟨_, rfl, ?_, Upd.of_below hb1 (fun i hi hk => by omega)⟩
    rw [hU.out]
    simpa using hR1
  · have e1 : (k == 2) = false := by simp; omega
    have e2 : (k == 4) = false := by simp; omega
    have e3 : (k == 7) = false := by simp; omega
    have e4 : (k == 3) = false := by simp; omega
    have e5 : (k == 5) = false := by simp; omega
    have e6 : (k == 6) = false := by simp; omega
    have hu : usesOf ⟨k, op, d, a, b, n, args⟩ = [] := by simp [usesOf, h1, h2, h3]
    have hU := Lib.hid hu
    clear hu h1 h2 h3
    go_enter Try.func87, Try.ntmps87
    go_wp2
    go_ret
    refine ⟨_, rfl, ?_, by repeat (first | exact Upd.refl _ _ | apply Upd.alloc | apply Upd.drew | apply Upd.drewN)⟩
    rw [hU.out]
    exact Kd.R_nil _ _ _ _ _
end Go.Proofs.Ytdmplkegjjbodaa
