/- Package wire: nums: what it answers, and its walk. -/
import Derived.Test.YtdmplkegjjbodaaLb
namespace Go.Proofs.Ytdmplkegjjbodaa
set_option linter.unusedSimpArgs false
set_option linter.unusedVariables false
open Go.RowKit Go.Proofs.YtdmplkegjjbodaaW.PrintWords Go.Proofs.YtdmplkegjjbodaaW.PrintLast

def nm (x : Int) : List Int := leb (x % 18446744073709551616).toNat
def nms (xs : List Int) : List Int := xs.flatMap nm
theorem nms_take (xs : List Int) (j : Nat) (x : Int) (h : xs[j]? = some x) : nms (xs.take (j + 1)) = nms (xs.take j) ++ nm x := by
  rw [List.take_add_one, h]
  simp [nms]
theorem nms_take_le (xs : List Int) (j : Nat) : (nms (xs.take j)).length ≤ (nms xs).length := by
  have h : nms xs = nms (xs.take j) ++ nms (xs.drop j) := by rw [nms, nms, nms, ← List.flatMap_append, List.take_append_drop]
  rw [h, List.length_append]
  omega

/-- a writer's block, and its bytes -/
def Wr (w : World) (g B : Nat) (bs : List Int) : Prop :=
  ∃ v, w.heap[g]? = some (.cells #[v] 107 (0, 0)) ∧ (Kd.int .u8).R 5 w B (fun _ => True) v bs ∧ B ≤ w.heap.size
theorem Wr.upd {w w' : World} {g B : Nat} {bs : List Int} (h : Wr w g B bs) {S : Nat → Prop} (hu : Upd S w w') (hg : ¬ S g) (hB : ∀ k, B ≤ k → ¬ S k) : Wr w' g B bs := by
  obtain ⟨v, h1, h2, h3⟩ := h
  exact ⟨v, hu.blk h1 hg, R_upd h2 hu (fun k _ hk _ => hB k hk), Nat.le_trans h3 hu.size⟩

def NumsPost (w : World) (g B : Nat) (bs : List Int) (e : Ending) (w' : World) : Prop :=
  e = .returned (.tuple #[]) ∧ Wr w' g B bs ∧ Upd (· = g) w w'

set_option maxRecDepth 100000 in
set_option maxHeartbeats 4000000 in
theorem nums_calls (xs : List Int) (A : Option Addr) (c g B : Nat) (bs : List Int) (w : World) (hW : Wr w g B bs) (hC : ∀ W', Upd (· = g) w W' → (Kd.int .i64).C W' A xs.length xs) (hl : (bs ++ nms xs).length ≤ 140737488355328) (hx : xs.length ≤ 140737488355328)
    : Calls Try.prog 47 #[.pointer (some ⟨g, 0, none⟩), .slice A xs.length c] w (NumsPost w g B (bs ++ nms xs)) := by
  have hCC := Lib.hid hC
  have HL := Lib.hid hl
  have HW := Lib.hid hW
  clear hC hW
  go_enter Try.func47, Try.ntmps47
  go_wp2_with fail
  go_loopw [8] (fun i wr => ∃ j : Nat, j ≤ xs.length ∧ i = .int .i64 j ∧ Wr wr g B (bs ++ nms (xs.take j)) ∧ Upd (· = g) w wr) (fun i _ => xs.length - (intOf i).toNat)
  case atStart => exact ⟨0, by omega, rfl, by simpa [nms] using HW.out, Upd.refl _ _⟩
  case round =>
    obtain ⟨j, hj, rfl, hWr, hU⟩ := hrel
    by_cases hlt : j < xs.length
    · obtain ⟨ad, rfl, hcell⟩ := Kd.at_int (hCC.out wr hU) j (by omega) (by omega)
      have hg : xs[j]? = some (rd xs j) := by simp [rd, List.getD, hlt]
      obtain ⟨x, hxx⟩ : ∃ x, rd xs j = x := ⟨_, rfl⟩
      rw [hxx] at hcell hg
      simp only [Int.toNat_natCast] at hcell
      obtain ⟨l, hll⟩ : ∃ l, bs ++ nms (xs.take j) = l := ⟨_, rfl⟩
      rw [hll] at hWr
      have HLL := Lib.hid hll
      obtain ⟨v, h1, h2, h3⟩ := hWr
      obtain ⟨A1, c1, rfl, hc1, hC1⟩ := Kd.R_reads h2
      have q0 := cellAt h1 0 _ rfl
      have H1 := Lib.hid h1
      have H2 := Lib.hid h2
      have HU := Lib.hid hU
      have HG := Lib.hid hg
      have HC1 := Lib.hid hC1
      clear hxx h1 h2 hU hg hC1 hll
      go_wp2_with fail
      have hwx : IntKind.u64.wrap x = ((x % 18446744073709551616).toNat : Int) := by rw [wrap_u64]; omega
      rw [hwx]
      have e2 : l ++ nm x = bs ++ nms (xs.take (j + 1)) := by rw [← HLL.out, List.append_assoc, nms_take xs j x HG.out]
      have E2 := Lib.hid e2
      clear e2
      refine (put_calls l A1 c1 _ wr hc1 HC1.out (by
        have h1 := HL.out
        have h2 := nms_take_le xs (j + 1)
        have h3 := congrArg List.length E2.out
        simp only [List.length_append, nm] at h1 h3 ⊢
        omega) (by omega)).mono ?_
      rintro e w5 ⟨v5, rfl, hR5, hU5⟩
      obtain ⟨A5, c5, rfl⟩ := Kd.R_slice hR5
      rw [List.length_append] at hR5
      have hb5 := hU5.blk H1.out (by simp)
      have q0 := cellAt hb5 0 _ rfl
      have z0 := froz hb5 0
      have HB5 := Lib.hid hb5
      have HR5 := Lib.hid hR5
      have HU5 := Lib.hid hU5
      clear hb5 hR5 hU5
      go_wp2
      refine ⟨⟨j + 1, by omega, by simp, ⟨.slice A5 (l.length + (leb (x % 18446744073709551616).toNat).length) c5, ?_, ?_, ?_⟩, (HU.out.trans (HU5.out.mono (fun _ _ h => h.elim))).trans (Upd.set1 w5 g 0 _)⟩, by simp [intOf]; omega⟩
      · have := heap_set HB5.out 0 (.slice A5 (l.length + (leb (x % 18446744073709551616).toNat).length) c5)
        simpa using this
      · rw [← E2.out]
        have hl2 := Kd.R_lower HR5.out (show B ≤ wr.heap.size from h3)
        exact Kd.R_set hl2 HB5.out (ints_ne (by decide)) 0 _
      · rw [size_set]
        have := HU5.out.size
        omega
    · obtain rfl : j = xs.length := by omega
      go_wp2
      refine bodyPost_end (results_none rfl _ _ _) rfl ⟨rfl, by simpa using hWr, hU⟩
end Go.Proofs.Ytdmplkegjjbodaa
