/- Package wire: Func: what it answers, and its walk. -/
import Derived.Test.YtdmplkegjjbodaaWb
namespace Go.Proofs.Ytdmplkegjjbodaa
set_option linter.unusedSimpArgs false
set_option linter.unusedVariables false
open Go.RowKit Go.Proofs.YtdmplkegjjbodaaW.PrintWords Go.Proofs.YtdmplkegjjbodaaW.PrintLast

def funcB (p v : Int) (bs : List Block) : List Int := nms [p, v] ++ blksB bs
def wfB (p v : Int) (bs : List Block) : List Int := if (checkF p v bs).1 = 0 then funcB p v bs else []
def wfE (p v : Int) (bs : List Block) : Int := if (checkF p v bs).1 = 0 then 0 else 30

theorem fault_code (a b c : Int) (w : World) : (Instr.field 37 (.agg #[.int .i64 a, .int .i64 b, .int .i64 c]) 0).run Try.prog w = .ok (.int .i64 a) w := by kernel_rfl
attribute [local go_sem] fault_code
def WFuncPost (w : World) (bytes : List Int) (code : Int) (e : Ending) (w' : World) : Prop :=
  ∃ r, e = .returned (.tuple #[r, .int .i64 code]) ∧ (Kd.int .u8).R 5 w' w.heap.size (fun _ => True) r bytes ∧ Upd (fun _ => False) w w'

set_option maxRecDepth 100000 in
set_option maxHeartbeats 4000000 in
theorem wfunc_calls (p v : Int) (bs : List Block) (A : Option Addr) (c : Nat) (w : World) (hc : bs.length ≤ c) (hC : kBlock.C w A bs.length bs) (hl : (funcB p v bs).length ≤ 140737488355328) (hx : bs.length ≤ 140737488355328) (hty : ∀ x ∈ bs, typedB x) (hfit : fits bs) :
    Calls Try.prog 20 #[.agg #[.int .i64 p, .int .i64 v, .slice A bs.length c]] w (WFuncPost w (wfB p v bs) (wfE p v bs)) := by
  have HC := Lib.hid hC
  have HTY := Lib.hid hty
  have HFIT := Lib.hid hfit
  obtain ⟨F, hF⟩ : ∃ F, checkF p v bs = F := ⟨_, rfl⟩
  obtain ⟨f1, f2, f3⟩ := F
  have HF := Lib.hid hF
  clear hC hty hfit hF
  have hB0 : (f1 == 0) = true → wfB p v bs = funcB p v bs ∧ wfE p v bs = 0 := fun h => by
    rw [wfB, wfE, HF.out]
    simp [eq_of_beq h]
  have hB1 : (f1 == 0) = false → wfB p v bs = [] ∧ wfE p v bs = 30 := fun h => by
    have e1 : f1 ≠ 0 := by simpa using h
    rw [wfB, wfE, HF.out]
    simp [e1]
  obtain ⟨bytes, hby⟩ : ∃ bytes, wfB p v bs = bytes := ⟨_, rfl⟩
  obtain ⟨code, hco⟩ : ∃ code, wfE p v bs = code := ⟨_, rfl⟩
  rw [hby, hco] at hB0 hB1 ⊢
  clear hby hco
  cases hz : (f1 == 0) with
  | false =>
    obtain ⟨rfl, rfl⟩ := hB1 hz
    clear hB0 hB1
    go_enter Try.func20, Try.ntmps20
    go_wp2_with fail
    refine (check_calls p v bs c A _ hc (Kd.C_alloc HC.out _) HFIT.out).mono ?_
    rintro e w1 ⟨rfl, h1⟩
    rw [HF.out]
    have HU1 := Lib.hid (((Upd.refl (fun _ => False) w).alloc _).trans h1)
    clear h1
    simp only [faultV]
    go_wp2
    go_ret2
    exact ⟨_, rfl, Kd.R_nil _ _ _ _ _, HU1.out⟩
  | true =>
    obtain ⟨rfl, rfl⟩ := hB0 hz
    clear hB0 hB1
    go_enter Try.func20, Try.ntmps20
    go_wp2_with fail
    refine (check_calls p v bs c A _ hc (Kd.C_alloc HC.out _) HFIT.out).mono ?_
    rintro e w1 ⟨rfl, h1⟩
    rw [HF.out]
    have hb1 := h1.blk (heap_alloc_new w _) (by simp)
    have HU1 := Lib.hid (((Upd.refl (fun _ => False) w).alloc _).trans h1)
    have c0 := (World.cell?_alloc_some w1 ⟨w.heap.size, 0, none⟩ (.cells #[.slice none 0 0] 107) (by rw [cellAt hb1 0 _ rfl]; rfl)).trans (cellAt hb1 0 _ rfl)
    have c1 := (World.cell?_alloc_some w1 ⟨w.heap.size, 1, none⟩ (.cells #[.slice none 0 0] 107) (by rw [cellAt hb1 1 _ rfl]; rfl)).trans (cellAt hb1 1 _ rfl)
    have HB1 := Lib.hid hb1
    clear h1 hb1
    simp only [faultV]
    obtain rfl := eq_of_beq hz
    have hs1 : w.heap.size < w1.heap.size := blk_lt' HB1.out
    have hlp := Lib.hid (show (([] : List Int) ++ nms [p, v]).length ≤ 140737488355328 by rw [funcB, List.length_append] at hl; rw [List.nil_append]; omega)
    go_wp2_with fail
    have W1 : Wr (w1.alloc (.cells #[.slice none 0 0] 107)) w1.heap.size w.heap.size [] := ⟨_, heap_alloc_new w1 _, Kd.R_nil _ _ _ _ _, by rw [World.size_alloc]; omega⟩
    refine (nums_lit [p, v] w1.heap.size w.heap.size (w1.heap.size + 1) [] _ W1 (by simp) hlp.out (by simp)).mono ?_
    rintro e w2 ⟨rfl, h1, h2⟩
    have hb2 := h2.blk ((Below.heap_alloc w1 _ _ (blk_lt' HB1.out)).trans HB1.out) (by omega)
    have HU2 := Lib.hid (((Upd.refl (· = w1.heap.size) w1).alloc _).trans h2)
    have HW2 := Lib.hid h1
    clear h1 h2 c0 c1 W1
    have c2 := cellAt hb2 2 _ rfl
    clear hb2
    have hbel := Lib.hid (below_upd (show Below w.heap.size w w1 from HU1.out.below (fun _ h => h.elim) (Nat.le_refl _)) HU1.out.size HU2.out (fun k e => by omega))
    go_wp2_with fail
    refine (wblocks_calls bs A c w1.heap.size w.heap.size _ w w2 HW2.out hc HC.out hbel.out (by omega) hl hx HTY.out).mono ?_
    rintro e w3 ⟨rfl, h1, h2⟩
    obtain ⟨vw, g1, g2, g3⟩ := h1
    have q0 := cellAt g1 0 _ rfl
    have G2 := Lib.hid g2
    have HU3 := Lib.hid (HU1.out.then_ (HU2.out.trans h2) (fun k hk e => by omega))
    clear g1 g2 h2
    go_wp2
    go_ret2
    exact ⟨_, rfl, G2.out, HU3.out⟩
end Go.Proofs.Ytdmplkegjjbodaa
