/- Layer 8: Awake: its walk. -/
import Derived.Test.YtdmplkegjjbodaaWf
namespace Go.Proofs.Ytdmplkegjjbodaa
set_option linter.unusedSimpArgs false
set_option linter.unusedVariables false
open Go.RowKit Go.Proofs.YtdmplkegjjbodaaW.PrintWords Go.Proofs.YtdmplkegjjbodaaW.PrintLast

def aw8 : List Block := [⟨[], ⟨3, 0, 0, 0⟩⟩]
theorem leb0 (n : Nat) (h : n < 128) (m : Int) (hm : m = (n : Int)) : nm m = [(n : Int)] := by
  subst hm
  rw [nm]
  have e : ((n : Int) % 18446744073709551616).toNat = n := by omega
  rw [e, leb_small h]
theorem aw8_bytes : funcB 0 1 aw8 = [0, 1, 1, 0, 3, 0] := by
  simp [funcB, blksB, aw8, blockB, endB, nms, insC]
  rw [leb0 0 (by omega) 0 rfl, leb0 1 (by omega) 1 rfl, leb0 3 (by omega) 3 rfl]
  rfl
theorem aw8_check : checkF 0 1 aw8 = (0, 0, 0) := by decide
theorem one_C {α : Type} {d : Kd α} {W : World} {g : Nat} {x : α} {cs : List Value} {e : TypeId} (hb : W.heap[g]? = some (.cells cs.toArray e (0, 0))) (hcl : cs.length = d.sz) (hK : d.K W x cs) : d.C W (some ⟨g, 0, none⟩) 1 [x] := by
  refine ⟨rfl, by omega, fun _ => ⟨_, rfl, fun j p hj => ?_⟩⟩
  obtain ⟨hlt, rfl⟩ := List.getElem?_eq_some_iff.1 hj
  obtain rfl : j = 0 := by simp at hlt; omega
  refine ⟨cs, hcl, hK, fun i u hu => ?_⟩
  rw [add_plain, Nat.zero_mul, Nat.zero_add, cell_of_row W g i _ _ _ hb]
  simpa using hu
set_option maxRecDepth 100000 in
theorem R_str {w : World} {e' base : Nat} {ok : Nat → Prop} {v : Value} {xs : List Int} (h : (Kd.int .u8).R e' w base ok v xs) :
    (convert 25 9 v).run Try.prog w = .ok (.string (strOfNums xs)) w := by
  rcases Nat.eq_zero_or_pos xs.length with h0 | h0
  · obtain ⟨A, c, rfl⟩ := Kd.R_slice h
    obtain rfl := List.eq_nil_of_length_eq_zero h0
    obtain ⟨_, inner, ho, _⟩ := h
    rcases ho.2 with ⟨hv, _⟩ | ⟨g, cap, cur, hv, _⟩
    · injection hv with h1 h2 h3
      subst h1
      subst h3
      exact run_convert_bytes_nil w 25 5 Try.underlying25 Try.underlying5 0 0 9 Try.underlying9
    · injection hv with h1 h2 h3
      subst h1
      exact run_convert_bytes_arg w 25 5 Try.underlying25 Try.underlying5 g 0 _ c [] rfl (fun i hi => by simp at hi) 9 Try.underlying9
  · obtain ⟨g, cap, rfl, _⟩ := Kd.R_form h h0
    obtain ⟨_, _, hC⟩ := Kd.R_reads' h
    refine run_convert_bytes_arg w 25 5 Try.underlying25 Try.underlying5 g 0 _ cap xs rfl (fun i hi => ?_) 9 Try.underlying9
    obtain ⟨ad, e, hc⟩ := Kd.at_int hC i (by omega) (by omega)
    injection e with e
    subst e
    rw [add_plain, Int.toNat_natCast] at hc
    rw [Nat.zero_add, hc]
    simp [rd]
set_option maxRecDepth 100000 in
set_option maxHeartbeats 4000000 in
theorem awake8 (w : World) : Calls Try.prog 16 #[] w fun e w' => e = .returned (.bool true) ∧ Upd (fun _ => False) w w' := by
  have hC := Lib.hid (one_C (d := kBlock) (x := (⟨[], ⟨3, 0, 0, 0⟩⟩ : Block)) (heap_alloc_new w (.cells #[.slice none 0 0, .int .u8 3, .int .i64 0, .int .i64 0, .int .i64 0] 77)) rfl (kBlock_K.2 ⟨none, 0, rfl, by simp, Kd.C_nil _ _⟩))
  go_enter Try.func16, Try.ntmps16
  go_wp2_with fail
  refine (wfunc_calls 0 1 aw8 _ 1 _ (by decide) hC.out (by rw [aw8_bytes]; decide) (by decide) (by intro x hx; simp [aw8] at hx; subst hx; simp [typedB]) (by intro x hx; simp [aw8] at hx; subst hx; simp)).mono ?_
  rintro e w1 ⟨r, rfl, hR, hU⟩
  have e1 : wfB 0 1 aw8 = [0, 1, 1, 0, 3, 0] := by rw [wfB, aw8_check, ← aw8_bytes]; rfl
  have e2 : wfE 0 1 aw8 = 0 := by rw [wfE, aw8_check]; rfl
  rw [e1] at hR
  rw [e2]
  have HU := Lib.hid (((Upd.refl (fun _ => False) w).alloc _).trans hU)
  have hs := R_str hR
  clear hU e1 e2
  go_wp2
  go_ret
  have e3 : ((strOfNums [0, 1, 1, 0, 3, 0]).toList == [0, 1, 1, 0, 3, 0]) = true := by decide +kernel
  exact ⟨by show Ending.returned (.bool ((strOfNums [0, 1, 1, 0, 3, 0]).toList == [0, 1, 1, 0, 3, 0])) = _; rw [e3], HU.out⟩
end Go.Proofs.Ytdmplkegjjbodaa
