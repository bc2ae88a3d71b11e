/- Package outworkerref04: SameFuncs: its walk. -/
import Derived.Test.YtdmplkegjjbodaaSm2
namespace Go.Proofs.Ytdmplkegjjbodaa
set_option linter.unusedSimpArgs false
set_option linter.unusedVariables false
open Go.RowKit Go.Proofs.YtdmplkegjjbodaaW.PrintWords Go.Proofs.YtdmplkegjjbodaaW.PrintLast

attribute [local go_sem] World.cell?_alloc_some
set_option maxRecDepth 100000 in
set_option maxHeartbeats 4000000 in
theorem samefuncs_calls (p1 v1 p2 v2 : Int) (xs ys : List Block) (A1 A2 : Option Addr) (c1 c2 : Nat) (w : World) (h1 : kBlock.C w A1 xs.length xs) (h2 : kBlock.C w A2 ys.length ys) (hm : xs.length ≤ 140737488355328)
    (hm1 : ∀ x ∈ xs, x.ins.length ≤ 140737488355328 ∧ ∀ i ∈ x.ins, i.args.length ≤ 140737488355328) :
    Calls Try.prog 23 #[.agg #[.int .i64 p1, .int .i64 v1, .slice A1 xs.length c1], .agg #[.int .i64 p2, .int .i64 v2, .slice A2 ys.length c2]] w fun e w' => e = .returned (.bool (decide (p1 = p2 ∧ v1 = v2 ∧ xs = ys))) ∧ Upd (fun _ => False) w w' := by
  obtain ⟨R, hR⟩ : ∃ R, decide (p1 = p2 ∧ v1 = v2 ∧ xs = ys) = R := ⟨_, rfl⟩
  rw [hR]
  have HR := Lib.hid hR
  have S := Lib.hid (fun W hb => sameblocks_calls xs ys A1 A2 c1 c2 W (Kd.C_below h1 hb) (Kd.C_below h2 hb) hm hm1)
  clear hR h1 h2 hm1
  go_enter Try.func23, Try.ntmps23
  go_wp2_with fail
  all_goals first
    | (refine (S.out _ (Upd.below (S := fun _ => False) (by repeat (first | exact Upd.refl _ _ | apply Upd.drew | apply Upd.drewN | apply Upd.alloc)) (fun _ h => h.elim) (Nat.le_refl _))).mono ?_
       rintro e w5 ⟨rfl, h5⟩
       have HU5 := Lib.hid (show Upd (fun _ => False) w w5 from Upd.trans (by repeat (first | exact Upd.refl _ _ | apply Upd.drew | apply Upd.drewN | apply Upd.alloc)) h5)
       clear h5
       have HE := Lib.hid (show p1 = p2 ∧ v1 = v2 by omega)
       go_wp2
       go_ret
       refine ⟨ret_bool ?_, HU5.out⟩
       rw [← HR.out]
       simp [HE.out])
    | (go_ret
       refine ⟨ret_bool ?_, by repeat (first | exact Upd.refl _ _ | apply Upd.drew | apply Upd.drewN | apply Upd.alloc)⟩
       rw [← HR.out]
       simp [*])
end Go.Proofs.Ytdmplkegjjbodaa
