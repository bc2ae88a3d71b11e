/- Package leb: Put, PutInt: what they answer, and their walks. -/
import Derived.Test.YtdmplkegjjbodaaCk
namespace Go.Proofs.Ytdmplkegjjbodaa
set_option linter.unusedSimpArgs false
set_option linter.unusedVariables false
open Go.RowKit Go.Proofs.YtdmplkegjjbodaaW.PrintWords Go.Proofs.YtdmplkegjjbodaaW.PrintLast

def leb (n : Nat) : List Int := if h : n < 128 then [(n : Int)] else ((n % 128 + 128 : Nat) : Int) :: leb (n / 128)
termination_by n
decreasing_by omega
theorem leb_small {n : Nat} (h : n < 128) : leb n = [(n : Int)] := by rw [leb, dif_pos h]
theorem leb_big {n : Nat} (h : ¬ n < 128) : leb n = ((n % 128 + 128 : Nat) : Int) :: leb (n / 128) := by rw [leb, dif_neg h]
theorem leb_length (n : Nat) : 1 ≤ (leb n).length := by
  by_cases h : n < 128
  · simp [leb_small h]
  · simp [leb_big h]

theorem R_num_lit {k : IntKind} {W : World} {e base g : Nat} (xs : List Int) (hg : W.heap.size = g) (hb : base ≤ g) (hm : xs.length ≤ 9223372036854775807) :
    (Kd.int k).R e (W.alloc (.cells (xs.map (Value.int k)).toArray e)) base (fun _ => True) (.slice (some ⟨g, 0, none⟩) xs.length xs.length) xs := by
  subst hg
  refine Kd.R_of_own (enc := Value.int k) (h1 := fun _ => rfl) ?_ (fun _ _ => trivial)
  have h := World.ownsRow_lit (base := base) (e := e) (size := 1) W (xs.map (Value.int k)).toArray xs.length hb (by simpa [maxLen] using hm) (by simp)
  simpa [encs] using h

theorem bits_or128' : ∀ m : Fin 256, bits BinOp.or IntKind.u8 ((m.val : Nat) : Int) 128 = ((m.val % 128 + 128 : Nat) : Int) := by decide +kernel
theorem bits_or128 (k : Nat) : bits BinOp.or IntKind.u8 ((k : Int) % 256) 128 = ((k % 128 + 128 : Nat) : Int) := by
  have h := bits_or128' ⟨k % 256, by omega⟩
  have e : ((k % 256 : Nat) : Int) = (k : Int) % 256 := by omega
  simp only at h
  rw [e] at h
  rw [h]
  omega
def zigN (n : Int) : Nat := if 0 ≤ n then (2 * n).toNat else (-2 * n - 1).toNat

set_option maxRecDepth 100000 in
set_option maxHeartbeats 4000000 in
theorem put_calls (bs : List Int) (A : Option Addr) (c : Nat) (n : Nat) (w : World) (hc : bs.length ≤ c) (hC : (Kd.int .u8).C w A bs.length bs) (hl : (bs ++ leb n).length ≤ 140737488355328) (hn : n < 18446744073709551616) :
    Calls Try.prog 68 #[.slice A bs.length c, .int .u64 n] w fun e w' => ∃ v, e = .returned v ∧ (Kd.int .u8).R 5 w' w.heap.size (fun _ => True) v (bs ++ leb n) ∧ Upd (fun _ => False) w w' := by
  have hCC := Lib.hid hC
  have HL := Lib.hid hl
  clear hC
  have hl0 : (([] : List Int).length + bs.length) * 1 ≤ 140737488355328 := by simp at hl ⊢; omega
  have hc0 := Lib.hid (R_num_lit (k := .u8) (W := w) (e := 5) (base := w.heap.size) (g := w.heap.size) [] (by simp) (by omega) (by simp))
  have hC2 := Lib.hid (Kd.C_alloc hCC.out (.cells #[] 5))
  clear hl
  go_enter Try.func68, Try.ntmps68
  go_wp2_with (first
    | (at_builtin
       refine Kd.R_append_rows (Kd.int .u8) (w0 := w) w.heap.size rfl (.tmp 6) (.tmp 7) 25 5 (.int .u8 0) 1 rfl Try.underlying25 infoB rfl (by decide) (by decide) _ [] bs A bs.length c (fun _ => True) (fun _ => False) (by rfl) (by rfl) hc0.out hC2.out (fun _ _ h => h) (fun _ h => h.elim) (fun _ _ => trivial) (below_alloc (Below.refl _ _) _) (by simp) hl0 ?_
       intro v1 w1 hR1 hb1 _ _
       have hR1 := Lib.hid hR1
       have hb1 := Lib.hid hb1)
    | fail)
  go_loopw [1, 5] (fun m o wr => ∃ (k : Nat) (l : List Int), m = .int .u64 k ∧ k ≤ n ∧ l ++ leb k = bs ++ leb n ∧ (Kd.int .u8).R 5 wr w.heap.size (fun _ => True) o l ∧ Upd (fun _ => False) w wr) (fun m _ _ => (intOf m).toNat)
  case atStart => exact ⟨n, bs, rfl, by omega, rfl, hR1.out, Upd.of_below hb1.out (fun i hi hk => by omega)⟩
  case round =>
    obtain ⟨k, l, rfl, hk, hlk, hR, hU⟩ := hrel
    obtain ⟨A1, c1, rfl⟩ := Kd.R_slice hR
    have HLK := Lib.hid hlk
    have hl1 : (l.length + 1) * 1 ≤ 140737488355328 := by
      have h1 := HL.out
      rw [← hlk, List.length_append] at h1
      have := leb_length k
      omega
    clear hlk
    have HL1 := Lib.hid hl1
    have HR := Lib.hid hR
    have HU := Lib.hid hU
    clear hl1 hR hU
    by_cases h128 : (128 : Int) ≤ k
    · have hR3' := Lib.hid (Kd.R_alloc HR.out (.cells #[.int .u8 (bits BinOp.or IntKind.u8 ((k : Int) % 256) 128)] 5))
      go_wp2_with (first
        | (at_builtin
           refine Kd.R_append (Kd.int .u8) (w0 := wr) w.heap.size rfl (.tmp 11) (.tmp 15) 25 5 (.int .u8 0) 1 rfl Try.underlying25 infoB rfl (by decide) (by decide) _ l (bits BinOp.or IntKind.u8 ((k : Int) % 256) 128) [.int .u8 (bits BinOp.or IntKind.u8 ((k : Int) % 256) 128)] (fun _ => True) (fun _ => False) (by rfl) (by rfl) rfl (fun _ h => h.elim) (fun _ _ => trivial) HR.out (Below.refl _ _) (by have := HU.out.size; omega) HL1.out ?_
           intro v4 w4 hR4 _ hg4 _
           have hR4 := Lib.hid hR4
           have hU4 := Lib.hid (HU.out.then_ (Upd.of_grown hg4) (fun q hq e => by have := Kd.R_base HR.out q e.symm; omega))
           clear hg4)
        | fail)
      refine ⟨⟨k / 128, l ++ [bits BinOp.or IntKind.u8 ((k : Int) % 256) 128], ?_, by omega, ?_, hR4.out, hU4.out⟩, ?_⟩
      · rw [Int.natCast_ediv]
        rfl
      · rw [← HLK.out, leb_big (n := k) (by omega), bits_or128, List.append_assoc]
        rfl
      · simp only [intOf]
        omega
    · go_wp2_with (first
        | (at_builtin
           refine Kd.R_append (Kd.int .u8) (w0 := wr) w.heap.size rfl (.tmp 19) (.tmp 22) 25 5 (.int .u8 0) 1 rfl Try.underlying25 infoB rfl (by decide) (by decide) _ l (k : Int) [.int .u8 (k : Int)] (fun _ => True) (fun _ => False) (by rfl) (by rfl) rfl (fun _ h => h.elim) (fun _ _ => trivial) HR.out (Below.refl _ _) (by have := HU.out.size; omega) HL1.out ?_
           intro v4 w4 hR4 _ hg4 _
           have hR4 := Lib.hid hR4
           have hU4 := Lib.hid (HU.out.then_ (Upd.of_grown hg4) (fun q hq e => by have := Kd.R_base HR.out q e.symm; omega))
           clear hg4)
        | fail)
      go_ret
      refine ⟨_, rfl, ?_, hU4.out⟩
      have e : l ++ [(k : Int)] = bs ++ leb n := by rw [← HLK.out, leb_small (by omega)]
      rw [← e]
      exact hR4.out

theorem wrap_u64 (x : Int) : IntKind.u64.wrap x = x % 18446744073709551616 := by
  simp [IntKind.wrap, IntKind.bits, IntKind.signed]
theorem zig_bits (n : Int) (hn : -9223372036854775808 ≤ n ∧ n ≤ 9223372036854775807) :
    bits BinOp.xor IntKind.u64 (IntKind.u64.wrap (IntKind.u64.wrap n * 2)) (IntKind.u64.wrap (n / 9223372036854775808)) = ((zigN n : Nat) : Int) := by
  unfold zigN
  rw [wrap_u64 n, wrap_u64, wrap_u64]
  by_cases h : 0 ≤ n
  · have e1 : n / 9223372036854775808 = 0 := by omega
    obtain ⟨a, ha, hlt⟩ : ∃ a : Nat, 2 * n = (a : Int) ∧ a < 18446744073709551616 := ⟨(2 * n).toNat, by omega, by omega⟩
    have e2 : n % 18446744073709551616 * 2 % 18446744073709551616 = (a : Int) := by omega
    rw [if_pos h, e1, e2, ha]
    have hz : BitVec.ofInt 64 (0 % 18446744073709551616) = 0#64 := by decide
    have hx : (BitVec.ofInt 64 (a : Int)).toNat = a := by rw [BitVec.ofInt_natCast, BitVec.toNat_ofNat]; omega
    show IntKind.u64.wrap ((BitVec.ofInt 64 (a : Int) ^^^ BitVec.ofInt 64 (0 % 18446744073709551616)).toNat : Int) = _
    rw [hz, BitVec.xor_zero, hx, wrap_u64]
    simp
    omega
  · have e1 : n / 9223372036854775808 = -1 := by omega
    obtain ⟨a, ha, hlt⟩ : ∃ a : Nat, 2 * n + 18446744073709551616 = (a : Int) ∧ a < 18446744073709551616 := ⟨(2 * n + 18446744073709551616).toNat, by omega, by omega⟩
    have e2 : n % 18446744073709551616 * 2 % 18446744073709551616 = (a : Int) := by omega
    rw [if_neg h, e1, e2]
    have hz : BitVec.ofInt 64 (-1 % 18446744073709551616) = BitVec.allOnes 64 := by decide
    have hx : (BitVec.ofInt 64 (a : Int)).toNat = a := by rw [BitVec.ofInt_natCast, BitVec.toNat_ofNat]; omega
    show IntKind.u64.wrap ((BitVec.ofInt 64 (a : Int) ^^^ BitVec.ofInt 64 (-1 % 18446744073709551616)).toNat : Int) = _
    rw [hz, BitVec.xor_allOnes, BitVec.toNat_not, hx, wrap_u64]
    omega
theorem putInt_calls (bs : List Int) (A : Option Addr) (c : Nat) (n : Int) (w : World) (hc : bs.length ≤ c) (hC : (Kd.int .u8).C w A bs.length bs) (hl : (bs ++ leb (zigN n)).length ≤ 140737488355328) (hn : -9223372036854775808 ≤ n ∧ n ≤ 9223372036854775807) :
    Calls Try.prog 88 #[.slice A bs.length c, .int .i64 n] w fun e w' => ∃ v, e = .returned v ∧ (Kd.int .u8).R 5 w' w.heap.size (fun _ => True) v (bs ++ leb (zigN n)) ∧ Upd (fun _ => False) w w' := by
  go_enter Try.func88, Try.ntmps88
  go_wp2_with fail
  rw [zig_bits n hn]
  refine (put_calls bs A c (zigN n) w hc hC hl (by unfold zigN; split <;> omega)).mono ?_
  rintro e w1 ⟨v, rfl, hR, hU⟩
  have HR := Lib.hid hR
  have HU := Lib.hid hU
  clear hR hU
  go_wp2
  go_ret
  exact ⟨_, rfl, HR.out, HU.out⟩
end Go.Proofs.Ytdmplkegjjbodaa
