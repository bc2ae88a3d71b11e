/- Package ir: plain, Uses, Gives, Last, Ends, of, Check: what they answer, and their walks. -/
import Derived.Test.YtdmplkegjjbodaaMd
import Derived.Deep.DeepCutAuto
import Derived.Deep.CutBlock
namespace Go.Proofs.Ytdmplkegjjbodaa
set_option linter.unusedSimpArgs false
set_option linter.unusedVariables false
open Go.RowKit Go.Proofs.YtdmplkegjjbodaaW.PrintWords Go.Proofs.YtdmplkegjjbodaaW.PrintLast

def wantOf (i : Ins) : Ins :=
  if i.kind = 1 then ⟨i.kind, 0, i.d, 0, 0, i.n, []⟩
  else if i.kind = 2 ∨ i.kind = 4 then ⟨i.kind, 0, i.d, i.a, 0, 0, []⟩
  else if i.kind = 3 then ⟨i.kind, i.op, i.d, i.a, i.b, 0, []⟩
  else if i.kind = 5 then ⟨i.kind, 0, 0, i.a, i.b, 0, []⟩
  else if i.kind = 6 then ⟨i.kind, 0, i.d, 0, 0, i.n, []⟩
  else ⟨i.kind, 0, 0, 0, 0, 0, []⟩
def plainB (i : Ins) : Bool :=
  i.op == (wantOf i).op && i.d == (wantOf i).d && i.a == (wantOf i).a && i.b == (wantOf i).b && i.n == (wantOf i).n && ((i.args.length : Int) == 0 || i.kind == 6)

set_option maxRecDepth 100000 in
set_option maxHeartbeats 2000000 in
theorem plain_1 (i : Ins) (A : Option Addr) (c : Nat) (w : World) (hk : i.kind = 1) (hl : i.args.length ≤ 9223372036854775807) :
    Calls Try.prog 86 #[.agg (i.cells (.slice A i.args.length c)).toArray] w fun e w' => e = .returned (.bool (plainB i)) ∧ Upd (fun _ => False) w w' := by
  obtain ⟨k, op, d, a, b, n, args⟩ := i
  simp only [Ins.cells] at *
  subst hk
  go_enter Try.func86, Try.ntmps86
  go_wp2_with fail
  go_region
  go_wp2
  all_goals
    go_ret
    exact ⟨by simp [plainB, wantOf, *], by repeat (first | exact Upd.refl _ _ | apply Upd.alloc | apply Upd.drew | apply Upd.drewN)⟩
set_option maxRecDepth 100000 in
set_option maxHeartbeats 2000000 in
theorem plain_2 (i : Ins) (A : Option Addr) (c : Nat) (w : World) (hk : i.kind = 2) (hl : i.args.length ≤ 9223372036854775807) :
    Calls Try.prog 86 #[.agg (i.cells (.slice A i.args.length c)).toArray] w fun e w' => e = .returned (.bool (plainB i)) ∧ Upd (fun _ => False) w w' := by
  obtain ⟨k, op, d, a, b, n, args⟩ := i
  simp only [Ins.cells] at *
  subst hk
  go_enter Try.func86, Try.ntmps86
  go_wp2_with fail
  go_region
  go_wp2
  all_goals
    go_ret
    exact ⟨by simp [plainB, wantOf, *], by repeat (first | exact Upd.refl _ _ | apply Upd.alloc | apply Upd.drew | apply Upd.drewN)⟩
set_option maxRecDepth 100000 in
set_option maxHeartbeats 2000000 in
theorem plain_3 (i : Ins) (A : Option Addr) (c : Nat) (w : World) (hk : i.kind = 3) (hl : i.args.length ≤ 9223372036854775807) :
    Calls Try.prog 86 #[.agg (i.cells (.slice A i.args.length c)).toArray] w fun e w' => e = .returned (.bool (plainB i)) ∧ Upd (fun _ => False) w w' := by
  obtain ⟨k, op, d, a, b, n, args⟩ := i
  simp only [Ins.cells] at *
  subst hk
  go_enter Try.func86, Try.ntmps86
  go_wp2_with fail
  go_region
  go_wp2
  all_goals
    go_ret
    exact ⟨by simp [plainB, wantOf, *], by repeat (first | exact Upd.refl _ _ | apply Upd.alloc | apply Upd.drew | apply Upd.drewN)⟩
set_option maxRecDepth 100000 in
set_option maxHeartbeats 2000000 in
theorem plain_4 (i : Ins) (A : Option Addr) (c : Nat) (w : World) (hk : i.kind = 4) (hl : i.args.length ≤ 9223372036854775807) :
    Calls Try.prog 86 #[.agg (i.cells (.slice A i.args.length c)).toArray] w fun e w' => e = .returned (.bool (plainB i)) ∧ Upd (fun _ => False) w w' := by
  obtain ⟨k, op, d, a, b, n, args⟩ := i
  simp only [Ins.cells] at *
  subst hk
  go_enter Try.func86, Try.ntmps86
  go_wp2_with fail
  go_region
  go_wp2
  all_goals
    go_ret
    exact ⟨by simp [plainB, wantOf, *], by repeat (first | exact Upd.refl _ _ | apply Upd.alloc | apply Upd.drew | apply Upd.drewN)⟩
set_option maxRecDepth 100000 in
set_option maxHeartbeats 2000000 in
theorem plain_5 (i : Ins) (A : Option Addr) (c : Nat) (w : World) (hk : i.kind = 5) (hl : i.args.length ≤ 9223372036854775807) :
    Calls Try.prog 86 #[.agg (i.cells (.slice A i.args.length c)).toArray] w fun e w' => e = .returned (.bool (plainB i)) ∧ Upd (fun _ => False) w w' := by
  obtain ⟨k, op, d, a, b, n, args⟩ := i
  simp only [Ins.cells] at *
  subst hk
  go_enter Try.func86, Try.ntmps86
  go_wp2_with fail
  go_region
  go_wp2
  all_goals
    go_ret
    exact ⟨by simp [plainB, wantOf, *], by repeat (first | exact Upd.refl _ _ | apply Upd.alloc | apply Upd.drew | apply Upd.drewN)⟩
set_option maxRecDepth 100000 in
set_option maxHeartbeats 2000000 in
theorem plain_6 (i : Ins) (A : Option Addr) (c : Nat) (w : World) (hk : i.kind = 6) (hl : i.args.length ≤ 9223372036854775807) :
    Calls Try.prog 86 #[.agg (i.cells (.slice A i.args.length c)).toArray] w fun e w' => e = .returned (.bool (plainB i)) ∧ Upd (fun _ => False) w w' := by
  obtain ⟨k, op, d, a, b, n, args⟩ := i
  simp only [Ins.cells] at *
  subst hk
  go_enter Try.func86, Try.ntmps86
  go_wp2_with fail
  go_region
  go_wp2
  all_goals
    go_ret
    exact ⟨by simp [plainB, wantOf, *], by repeat (first | exact Upd.refl _ _ | apply Upd.alloc | apply Upd.drew | apply Upd.drewN)⟩
set_option maxRecDepth 100000 in
set_option maxHeartbeats 2000000 in
theorem plain_other (i : Ins) (A : Option Addr) (c : Nat) (w : World) (hk : i.kind < 1 ∨ 6 < i.kind) (hl : i.args.length ≤ 9223372036854775807) :
    Calls Try.prog 86 #[.agg (i.cells (.slice A i.args.length c)).toArray] w fun e w' => e = .returned (.bool (plainB i)) ∧ Upd (fun _ => False) w w' := by
  obtain ⟨k, op, d, a, b, n, args⟩ := i
  simp only [Ins.cells] at *
  have h1 : (k == 1) = false := by simp; omega
  have h2 : (k == 2) = false := by simp; omega
  have h3 : (k == 3) = false := by simp; omega
  have h4 : (k == 4) = false := by simp; omega
  have h5 : (k == 5) = false := by simp; omega
  have h6 : (k == 6) = false := by simp; omega
  have e1 : ¬ k = 1 := by omega
  have e2 : ¬ k = 2 := by omega
  have e3 : ¬ k = 3 := by omega
  have e4 : ¬ k = 4 := by omega
  have e5 : ¬ k = 5 := by omega
  have e6 : ¬ k = 6 := by omega
  have H := Lib.hid (And.intro e1 (And.intro e2 (And.intro e3 (And.intro e4 (And.intro e5 e6)))))
  clear hk e1 e2 e3 e4 e5 e6
  go_enter Try.func86, Try.ntmps86
  go_wp2
  all_goals
    go_ret
    obtain ⟨e1, e2, e3, e4, e5, e6⟩ := H.out
    exact ⟨by simp [plainB, wantOf, *], by repeat (first | exact Upd.refl _ _ | apply Upd.alloc | apply Upd.drew | apply Upd.drewN)⟩
theorem plain_calls (i : Ins) (A : Option Addr) (c : Nat) (w : World) (hl : i.args.length ≤ 9223372036854775807) :
    Calls Try.prog 86 #[.agg (i.cells (.slice A i.args.length c)).toArray] w fun e w' => e = .returned (.bool (plainB i)) ∧ Upd (fun _ => False) w w' := by
  by_cases h : i.kind < 1 ∨ 6 < i.kind
  · exact plain_other i A c w h hl
  · have h0 : i.kind = 1 ∨ i.kind = 2 ∨ i.kind = 3 ∨ i.kind = 4 ∨ i.kind = 5 ∨ i.kind = 6 := by omega
    rcases h0 with h | h | h | h | h | h
    · exact plain_1 i A c w h hl
    · exact plain_2 i A c w h hl
    · exact plain_3 i A c w h hl
    · exact plain_4 i A c w h hl
    · exact plain_5 i A c w h hl
    · exact plain_6 i A c w h hl
end Go.Proofs.Ytdmplkegjjbodaa
