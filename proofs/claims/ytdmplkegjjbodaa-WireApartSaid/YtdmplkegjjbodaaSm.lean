/- Package outworkerref04: SameInts, SameBlocks, SameFuncs: their walks. -/
import Derived.Test.YtdmplkegjjbodaaCk
namespace Go.Proofs.Ytdmplkegjjbodaa
set_option linter.unusedSimpArgs false
set_option linter.unusedVariables false
open Go.RowKit Go.Proofs.YtdmplkegjjbodaaW.PrintWords Go.Proofs.YtdmplkegjjbodaaW.PrintLast

theorem take_eq_next {α : Type} {xs ys : List α} {j : Nat} {x y : α} (h : xs.take j = ys.take j) (hx : xs[j]? = some x) (hy : ys[j]? = some y) (hxy : x = y) : xs.take (j + 1) = ys.take (j + 1) := by
  rw [List.take_add_one, List.take_add_one, h, hx, hy, hxy]
theorem ne_of_at {α : Type} {xs ys : List α} {j : Nat} {x y : α} (hx : xs[j]? = some x) (hy : ys[j]? = some y) (hxy : x ≠ y) : xs ≠ ys := by
  rintro rfl
  rw [hx] at hy
  exact hxy (by injection hy)
theorem ret_bool {a b : Bool} (h : a = b) : Ending.returned (.bool a) = .returned (.bool b) := by rw [h]

set_option maxRecDepth 100000 in
set_option maxHeartbeats 4000000 in
theorem sameints_calls (xs ys : List Int) (A1 A2 : Option Addr) (c1 c2 : Nat) (w : World) (h1 : (Kd.int .i64).C w A1 xs.length xs) (h2 : (Kd.int .i64).C w A2 ys.length ys) (hm : xs.length ≤ 140737488355328) :
    Calls Try.prog 63 #[.slice A1 xs.length c1, .slice A2 ys.length c2] w fun e w' => e = .returned (.bool (decide (xs = ys))) ∧ Upd (fun _ => False) w w' := by
  obtain ⟨R, hR⟩ : ∃ R, decide (xs = ys) = R := ⟨_, rfl⟩
  rw [hR]
  have HR := Lib.hid hR
  have H1 := Lib.hid h1
  have H2 := Lib.hid h2
  clear hR h1 h2
  by_cases hlen : xs.length = ys.length
  · have hb : ((xs.length : Int) == (ys.length : Int)) = true := by simp [hlen]
    have hb' : ((xs.length : Int) != (ys.length : Int)) = false := by simp [hlen]
    rw [← hlen] at H2 ⊢
    go_enter Try.func63, Try.ntmps63
    go_wp2_with fail
    go_loopw [5] (fun i wr => ∃ j : Nat, j ≤ xs.length ∧ i = .int .i64 j ∧ xs.take j = ys.take j ∧ Upd (fun _ => False) w wr) (fun i _ => xs.length - (intOf i).toNat)
    case atStart => exact ⟨0, by omega, rfl, by simp, by repeat (first | exact Upd.refl _ _ | apply Upd.drew)⟩
    case round =>
      obtain ⟨j, hj, rfl, heq, hU⟩ := hrel
      by_cases hlt : j < xs.length
      · have hb := hU.below (B := w.heap.size) (fun _ h => h.elim) (Nat.le_refl _)
        obtain ⟨a1, rfl, r1⟩ := Kd.at_int (Kd.C_below H1.out hb) j (by omega) (by omega)
        obtain ⟨a2, rfl, r2⟩ := Kd.at_int (Kd.C_below H2.out hb) j (by omega) (by omega)
        have g1 : xs[j]? = some (rd xs j) := by simp [rd, List.getD, hlt]
        have g2 : ys[j]? = some (rd ys j) := by simp [rd, List.getD, hlen ▸ hlt]
        obtain ⟨x, hx⟩ : ∃ x, rd xs j = x := ⟨_, rfl⟩
        obtain ⟨y, hy⟩ : ∃ y, rd ys j = y := ⟨_, rfl⟩
        rw [hx] at r1 g1
        rw [hy] at r2 g2
        simp only [Int.toNat_natCast] at r1 r2
        have G1 := Lib.hid g1
        have G2 := Lib.hid g2
        have HE := Lib.hid heq
        have HU := Lib.hid hU
        have HL := Lib.hid hlen
        clear hx hy g1 g2 heq hU hlen
        cases hz : (x == y) with
        | true =>
          obtain rfl := eq_of_beq hz
          go_wp2_with fail
          go_quiet (fail)
          go_wp2
          exact ⟨⟨j + 1, by omega, by simp, take_eq_next HE.out G1.out G2.out rfl, by repeat (first | exact HU.out | apply Upd.drew | apply Upd.drewN)⟩, by simp [intOf]; omega⟩
        | false =>
          go_wp2_with fail
          go_quiet (fail)
          go_wp2
          go_ret
          refine ⟨ret_bool ?_, by repeat (first | exact HU.out | apply Upd.drew | apply Upd.drewN)⟩
          rw [← HR.out]
          have := ne_of_at G1.out G2.out (by simpa using hz)
          simp [this]
      · obtain rfl : j = xs.length := by omega
        have HE := Lib.hid heq
        have HU := Lib.hid hU
        have HL := Lib.hid hlen
        clear heq hU hlen
        go_wp2
        go_ret
        refine ⟨ret_bool ?_, HU.out⟩
        rw [← HR.out]
        have h3 := HE.out
        rw [List.take_length, HL.out, List.take_length] at h3
        simp [h3]
  · have hb : ((xs.length : Int) == (ys.length : Int)) = false := by simp; omega
    have hR : R = false := by
      rw [← HR.out]
      have : xs ≠ ys := by rintro rfl; exact hlen rfl
      simp [this]
    subst hR
    go_enter Try.func63, Try.ntmps63
    go_wp2
    go_ret
    exact ⟨rfl, Upd.refl _ _⟩
end Go.Proofs.Ytdmplkegjjbodaa
