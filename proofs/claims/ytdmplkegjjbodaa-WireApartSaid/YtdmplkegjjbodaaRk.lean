/- What a row of a law needs: reading what came in. -/
import Derived.Test.YtdmplkegjjbodaaRows
import Derived.Test.YtdmplkegjjbodaaMd
import Derived.Lib.SmallJoins
import Derived.ProofKit
import Derived.OpenShut
import Derived.ShutString
import Derived.ChangeOld
import Derived.Below
import Derived.SizedLaws
namespace Go.Proofs.Ytdmplkegjjbodaa
open Go.Joins Go.ChangeShapes Go.WideShapes Go.ChangeAt Go.RowKit Go.Deep Go.Proofs.YtdmplkegjjbodaaW.PrintWords
set_option linter.unusedVariables false
set_option linter.unusedSimpArgs false
theorem own : ownKnob Try.prog.godebug = none := by kernel_rfl
theorem laidOut : laidOutB Try.prog = true := by kernel_rfl
theorem of_wf8 {n : Int} (h : (Lit.int .u8 n).wf = true) : 0 ≤ n ∧ n ≤ 255 := by
  simp [Lit.wf, IntKind.min, IntKind.max, IntKind.signed, IntKind.bits] at h
  omega
theorem of_wf64 {n : Int} (h : (Lit.int .i64 n).wf = true) : -9223372036854775808 ≤ n ∧ n ≤ 9223372036854775807 := by
  simp [Lit.wf, IntKind.min, IntKind.max, IntKind.signed, IntKind.bits] at h
  omega
section
variable {H : Type} {enc : TypeId × Value → H} {w : World} {spare : Nat → Bool} {held : Bool}
set_option maxRecDepth 100000 in
theorem read_bytes {fuel : Nat} {v : Value} {y : DataW H × List MemPlace} (h : DataW.trod enc Try.prog w 0 (fun _ => true) held fuel 25 [v] = some y) :
    ∃ (A : Option Addr) (c : Nat) (xs : List Int), v = .slice A xs.length c ∧ xs.length ≤ c ∧ bytesOk xs ∧ (Kd.int .u8).C w A xs.length xs := by
  rcases open_ints Try.underlying25 Try.underlying5 (by kernel_rfl) h with ⟨hcs, _⟩ | ⟨x, l, c, zs, hcs, _, hl, hm, hz, _, hcell, hwz⟩
  · simp at hcs
    subst hcs
    exact ⟨none, 0, [], rfl, by simp, (fun x hx => by cases hx), Kd.C_nil _ _⟩
  · simp at hcs
    subst hcs
    obtain ⟨xs, rfl, hr, _, hw, hc⟩ := ReadsInt.ofRowC (k := .u8) (w := w) (a := some x) (len := l) (cap := c) (zs := zs) (.inr ⟨_, rfl, hl, hm, by simpa using hz, hcell, hwz⟩)
    exact ⟨_, c, xs, rfl, hc, fun x hx => of_wf8 (hw x hx), Kd.C_of_reads (d := (0 : Int)) (h1 := fun _ => rfl) hr⟩
set_option maxRecDepth 100000 in
theorem read_spec {r : Reach} {b0 : Nat} {v : Value} {d : DataW H} {p : List MemPlace} (hv : Value.okWide Try.prog w r b0 27 v) (h : DataW.Trod enc Try.prog w 0 (fun _ => true) held 27 v d p) :
    ∃ (a b e : Int) (A : Option Addr) (c : Nat) (xs : List Int), v = .agg #[.int .u8 a, .int .u8 b, .int .u8 e, .slice A xs.length c] ∧ (0 ≤ a ∧ a ≤ 255) ∧ (0 ≤ b ∧ b ≤ 255) ∧ (0 ≤ e ∧ e ≤ 255) ∧ bytesOk xs ∧ xs.length ≤ c ∧ (Kd.int .u8).C w A xs.length xs := by
  obtain ⟨v0, v1, v2, v3, y0, y1, y2, y3, n, rfl, _, _, h0, h1, h2, h3⟩ := open_agg4 Try.underlying27 (by kernel_rfl) (by kernel_rfl) hv h
  obtain ⟨a, e0, _, w0⟩ := DataW.trod_int Try.underlying5 h0
  obtain ⟨b, e1, _, w1⟩ := DataW.trod_int Try.underlying5 h1
  obtain ⟨e, e2, _, w2⟩ := DataW.trod_int Try.underlying5 h2
  obtain ⟨A, c, xs, rfl, hc, hok, hC⟩ := read_bytes h3
  simp at e0 e1 e2
  subst e0 e1 e2
  exact ⟨a, b, e, A, c, xs, rfl, of_wf8 w0, of_wf8 w1, of_wf8 w2, hok, hc, hC⟩
end
end Go.Proofs.Ytdmplkegjjbodaa
