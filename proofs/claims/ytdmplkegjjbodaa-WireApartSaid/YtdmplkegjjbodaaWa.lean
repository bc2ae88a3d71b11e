/- Layer 8: WireApart: its walk. -/
import Derived.Test.YtdmplkegjjbodaaLm
import Derived.Test.YtdmplkegjjbodaaSm3
import Derived.Test.YtdmplkegjjbodaaMd2
import Derived.Deep.DeepCutAuto
import Derived.Deep.CutBlock
namespace Go.Proofs.Ytdmplkegjjbodaa
set_option linter.unusedSimpArgs false
set_option linter.unusedVariables false
open Go.RowKit Go.Proofs.YtdmplkegjjbodaaW.PrintWords Go.Proofs.YtdmplkegjjbodaaW.PrintLast

/-- the cells of a spec -/
def Sp (W w : World) (g : Nat) (p v b : Int) (xs : List Int) : Prop :=
  (0 ≤ p ∧ p ≤ 255) ∧ (0 ≤ v ∧ v ≤ 255) ∧ (0 ≤ b ∧ b ≤ 255) ∧ bytesOk xs ∧ ∃ A c, w.heap[g]? = some (.cells #[.int .u8 p, .int .u8 v, .int .u8 b, .slice A xs.length c] 27 (0, 0)) ∧ xs.length ≤ c ∧ (Kd.int .u8).C W A xs.length xs
theorem set4 {w : World} {g : Nat} {t : TypeId} {a0 a1 a2 a3 : Value} (h : w.heap[g]? = some (.cells #[a0, a1, a2, a3] t (0, 0))) (b0 b1 b2 b3 : Value) :
    ((((w.setCell ⟨g, 0, none⟩ b0).setCell ⟨g, 1, none⟩ b1).setCell ⟨g, 2, none⟩ b2).setCell ⟨g, 3, none⟩ b3).heap[g]? = some (.cells #[b0, b1, b2, b3] t (0, 0)) := by
  have := heap_set (heap_set (heap_set (heap_set h 0 b0) 1 b1) 2 b2) 3 b3
  simpa using this

theorem R_set3 {α : Type} {d : Kd α} {e base : Nat} {w : World} {ok : Nat → Prop} {v : Value} {xs : List α} (h : d.R e w base ok v xs) {g t : Nat} {a0 a1 a2 : Value} (hb : w.heap[g]? = some (.cells #[a0, a1, a2] t (0, 0))) (ht : ∀ q, q ∈ e :: d.E → q ≠ t) (b0 b1 b2 : Value) :
    d.R e (((w.setCell ⟨g, 0, none⟩ b0).setCell ⟨g, 1, none⟩ b1).setCell ⟨g, 2, none⟩ b2) base ok v xs :=
  Kd.R_set (Kd.R_set (Kd.R_set h hb ht 0 b0) (heap_set hb 0 b0) ht 1 b1) (heap_set (heap_set hb 0 b0) 1 b1) ht 2 b2
/-- what is there of two functions that are being made, each with a variable of its own -/
def Nd (w w' : World) (F1 F2 : Fn) (o1 o2 : Option Value) (o7 o8 : Option Nat) : Prop :=
  Below w.heap.size w w' ∧ (∀ v, o1 = some v → kBlock.R 77 w' w.heap.size (fun _ => True) v F1.blocks) ∧ (∀ v, o2 = some v → kBlock.R 77 w' w.heap.size (fun _ => True) v F2.blocks) ∧
  (∀ g, o7 = some g → w.heap.size ≤ g ∧ w'.heap[g]? = some (.cells #[.int .i64 0, .int .i64 0, .slice none 0 0] 24 (0, 0))) ∧
  (∀ g, o8 = some g → w.heap.size ≤ g ∧ w'.heap[g]? = some (.cells #[.int .i64 0, .int .i64 0, .slice none 0 0] 24 (0, 0))) ∧ (∀ g h, o7 = some g → o8 = some h → g ≠ h)
section
variable {w w' w5 : World} {F1 F2 : Fn} {o1 o2 : Option Value} {o7 o8 : Option Nat} {v : Value}
theorem Nd.below (h : Nd w w' F1 F2 o1 o2 o7 o8) (hb : Below w'.heap.size w' w5) : Nd w w5 F1 F2 o1 o2 o7 o8 := by
  obtain ⟨a, b, c, d, e, f⟩ := h
  refine ⟨below_then a a.size hb, fun v hv => Kd.R_below (b v hv) hb, fun v hv => Kd.R_below (c v hv) hb, fun g hg => ⟨(d g hg).1, blk_below (d g hg).2 hb⟩, fun g hg => ⟨(e g hg).1, blk_below (e g hg).2 hb⟩, f⟩
theorem Nd.call1 (h : Nd w w' F1 F2 none o2 o7 o8) (hS : Kd.S kBlock 77 w5 w'.heap.size (fun _ => True) v F1.blocks) (hb : Below w'.heap.size w' w5) : Nd w w5 F1 F2 (some v) o2 o7 o8 := by
  obtain ⟨a, b, c, d, e, f⟩ := h.below hb
  exact ⟨a, fun u hu => by (injection hu with hu; subst hu; exact Kd.R_lower (Kd.S_R hS) h.1.size), c, d, e, f⟩
theorem Nd.call2 (h : Nd w w' F1 F2 o1 none o7 o8) (hS : Kd.S kBlock 77 w5 w'.heap.size (fun _ => True) v F2.blocks) (hb : Below w'.heap.size w' w5) : Nd w w5 F1 F2 o1 (some v) o7 o8 := by
  obtain ⟨a, b, c, d, e, f⟩ := h.below hb
  exact ⟨a, b, fun u hu => by (injection hu with hu; subst hu; exact Kd.R_lower (Kd.S_R hS) h.1.size), d, e, f⟩
theorem Nd.alloc7 (h : Nd w w' F1 F2 o1 o2 none o8) : Nd w (w'.alloc (.cells #[.int .i64 0, .int .i64 0, .slice none 0 0] 24)) F1 F2 o1 o2 (some w'.heap.size) o8 := by
  have hs := h.1.size
  have h8 := h.2.2.2.2.1
  obtain ⟨a, b, c, d, e, f⟩ := h.below (below_alloc (Below.refl _ _) (.cells #[.int .i64 0, .int .i64 0, .slice none 0 0] 24))
  refine ⟨a, b, c, fun g hg => by (injection hg with hg; subst hg; exact ⟨hs, heap_alloc_new w' _⟩), e, fun g k hg hk => ?_⟩
  injection hg with hg
  have := blk_lt' (h8 k hk).2
  omega
theorem Nd.alloc8 (h : Nd w w' F1 F2 o1 o2 o7 none) : Nd w (w'.alloc (.cells #[.int .i64 0, .int .i64 0, .slice none 0 0] 24)) F1 F2 o1 o2 o7 (some w'.heap.size) := by
  have hs := h.1.size
  have h7 := h.2.2.2.1
  obtain ⟨a, b, c, d, e, f⟩ := h.below (below_alloc (Below.refl _ _) (.cells #[.int .i64 0, .int .i64 0, .slice none 0 0] 24))
  refine ⟨a, b, c, d, fun g hg => by (injection hg with hg; subst hg; exact ⟨hs, heap_alloc_new w' _⟩), fun g k hg hk => ?_⟩
  injection hk with hk
  have := blk_lt' (h7 g hg).2
  omega
end

set_option maxRecDepth 100000 in
set_option maxHeartbeats 4000000 in
theorem wireapart_calls (p1 v1 b1 p2 v2 b2 : Int) (xs1 xs2 : List Int) (A1 A2 : Option Addr) (c1 c2 : Nat) (same : Bool) (w : World)
    (hp1 : 0 ≤ p1 ∧ p1 ≤ 255) (hv1 : 0 ≤ v1 ∧ v1 ≤ 255) (hb1 : 0 ≤ b1 ∧ b1 ≤ 255) (hok1 : bytesOk xs1) (hc1 : xs1.length ≤ c1) (hC1 : (Kd.int .u8).C w A1 xs1.length xs1)
    (hp2 : 0 ≤ p2 ∧ p2 ≤ 255) (hv2 : 0 ≤ v2 ∧ v2 ≤ 255) (hb2 : 0 ≤ b2 ∧ b2 ≤ 255) (hok2 : bytesOk xs2) (hc2 : xs2.length ≤ c2) (hC2 : (Kd.int .u8).C w A2 xs2.length xs2) :
    Calls Try.prog 4 #[.agg #[.int .u8 p1, .int .u8 v1, .int .u8 b1, .slice A1 xs1.length c1], .agg #[.int .u8 p2, .int .u8 v2, .int .u8 b2, .slice A2 xs2.length c2], .bool same] w fun e w' => e = .returned (.bool true) ∧ Below w.heap.size w w' := by
  have P1 := Lib.hid (show _ ∧ _ ∧ _ ∧ _ ∧ _ ∧ _ from ⟨hp1, hv1, hb1, hok1, hc1, hC1⟩)
  have P2 := Lib.hid (show _ ∧ _ ∧ _ ∧ _ ∧ _ ∧ _ from ⟨hp2, hv2, hb2, hok2, hc2, hC2⟩)
  clear hp1 hv1 hb1 hok1 hc1 hC1 hp2 hv2 hb2 hok2 hc2 hC2
  go_enter Try.func4, Try.ntmps4
  go_wp2_with fail
  refine (awake8 _).mono ?_
  rintro e w1 ⟨rfl, h1⟩
  have gn : ∀ (W : World) (o : Obj) (g : Nat), W.heap.size = g → (W.alloc o).heap[g]? = some o := fun W o g e => by subst e; exact heap_alloc_new W o
  have B1 := h1.blk ((Below.heap_alloc _ _ _ (by simp)).trans (heap_alloc_new w _)) (by simp)
  have B2 := h1.blk (gn _ _ (w.heap.size + 1) (by simp)) (by simp)
  have HU1 := Lib.hid ((((Upd.refl (fun _ => False) w).alloc _).alloc _).trans h1)
  clear h1 gn
  have c10 := cellAt B1 0 _ rfl
  have c11 := cellAt B1 1 _ rfl
  have c12 := cellAt B1 2 _ rfl
  have c13 := cellAt B1 3 _ rfl
  have c20 := cellAt B2 0 _ rfl
  have c21 := cellAt B2 1 _ rfl
  have c22 := cellAt B2 2 _ rfl
  have c23 := cellAt B2 3 _ rfl
  have z20 := froz B2 0
  have z21 := froz B2 1
  have z22 := froz B2 2
  have z23 := froz B2 3
  have HB1 := Lib.hid B1
  have HB2 := Lib.hid B2
  clear B1 B2
  go_upto_if 15 with fail
  go_cut [] (fun wx => Below w.heap.size w wx ∧ Sp w wx w.heap.size p1 v1 b1 xs1 ∧ ∃ p v b xs, Sp w wx (w.heap.size + 1) p v b xs)
  case first =>
    cases same with
    | false =>
      go_wp2
      go_meet
      obtain ⟨q1, q2, q3, q4, q5, q6⟩ := P1.out
      obtain ⟨t1, t2, t3, t4, t5, t6⟩ := P2.out
      exact ⟨HU1.out.below (fun _ h => h.elim) (Nat.le_refl _), ⟨q1, q2, q3, q4, _, _, HB1.out, q5, q6⟩, _, _, _, _, ⟨t1, t2, t3, t4, _, _, HB2.out, t5, t6⟩⟩
    | true =>
      go_wp2
      go_meet
      obtain ⟨q1, q2, q3, q4, q5, q6⟩ := P1.out
      have hU := (((HU1.out.set_ (p := ⟨w.heap.size + 1, 0, none⟩) (.inr (by simp)) (.int .u8 p1)).set_ (p := ⟨w.heap.size + 1, 1, none⟩) (.inr (by simp)) (.int .u8 v1)).set_ (p := ⟨w.heap.size + 1, 2, none⟩) (.inr (by simp)) (.int .u8 b1)).set_ (p := ⟨w.heap.size + 1, 3, none⟩) (.inr (by simp)) (.slice A1 xs1.length c1)
      have hb1 := blk_far (blk_far (blk_far (blk_far HB1.out (p := ⟨w.heap.size + 1, 0, none⟩) (by simp) (.int .u8 p1)) (p := ⟨w.heap.size + 1, 1, none⟩) (by simp) (.int .u8 v1)) (p := ⟨w.heap.size + 1, 2, none⟩) (by simp) (.int .u8 b1)) (p := ⟨w.heap.size + 1, 3, none⟩) (by simp) (.slice A1 xs1.length c1)
      have hb2 := set4 HB2.out (.int .u8 p1) (.int .u8 v1) (.int .u8 b1) (.slice A1 xs1.length c1)
      exact ⟨hU.below (fun _ h => h.elim) (Nat.le_refl _), ⟨q1, q2, q3, q4, _, _, hb1, q5, q6⟩, _, _, _, _, ⟨q1, q2, q3, q4, _, _, hb2, q5, q6⟩⟩
  case rest =>
    obtain ⟨hBc, hs1, p, v, b, xs, hs2⟩ := hcut
    clear c10 c11 c12 c13 c20 c21 c22 c23 z20 z21 z22 z23 HB1 HB2 P1 P2 HU1
    obtain ⟨q1, q2, q3, q4, D1, d1, q5, q6, q7⟩ := hs1
    obtain ⟨t1, t2, t3, t4, D2, d2, t5, t6, t7⟩ := hs2
    have M1 := Lib.hid (fun W (hb : Below w.heap.size w W) => made_calls W p1 v1 b1 D1 d1 xs1 q1 q2 q3 q4 q6 (Kd.C_below q7 hb))
    have M2 := Lib.hid (fun W (hb : Below w.heap.size w W) => made_calls W p v b D2 d2 xs t1 t2 t3 t4 t6 (Kd.C_below t7 hb))
    have HBC := Lib.hid hBc
    have c10 := cellAt q5 0 _ rfl
    have c11 := cellAt q5 1 _ rfl
    have c12 := cellAt q5 2 _ rfl
    have c13 := cellAt q5 3 _ rfl
    have c20 := cellAt t5 0 _ rfl
    have c21 := cellAt t5 1 _ rfl
    have c22 := cellAt t5 2 _ rfl
    have c23 := cellAt t5 3 _ rfl
    have g1 := made_good p1 v1 b1 xs1
    have g2 := made_good p v b xs
    obtain ⟨F1, hF1⟩ : ∃ F1, made p1 v1 b1 xs1 = F1 := ⟨_, rfl⟩
    obtain ⟨F2, hF2⟩ : ∃ F2, made p v b xs = F2 := ⟨_, rfl⟩
    rw [hF1] at M1 g1
    rw [hF2] at M2 g2
    have hsz := blk_lt' t5
    have HG1 := Lib.hid g1
    have HG2 := Lib.hid g2
    clear hF1 hF2 q1 q2 q3 q4 q5 q6 q7 t1 t2 t3 t4 t5 t6 t7 hBc g1 g2
    go_wp2_with fail
    go_cut [7, 8] (fun p7 p8 wx => ∃ g7 g8 vb1 vb2, p7 = .pointer (some ⟨g7, 0, none⟩) ∧ p8 = .pointer (some ⟨g8, 0, none⟩) ∧ w.heap.size ≤ g7 ∧ w.heap.size ≤ g8 ∧
      wx.heap[g7]? = some (.cells #[.int .i64 F1.params, .int .i64 F1.vregs, vb1] 24 (0, 0)) ∧ wx.heap[g8]? = some (.cells #[.int .i64 F2.params, .int .i64 F2.vregs, vb2] 24 (0, 0)) ∧
      kBlock.R 77 wx w.heap.size (fun _ => True) vb1 F1.blocks ∧ kBlock.R 77 wx w.heap.size (fun _ => True) vb2 F2.blocks ∧ Below w.heap.size w wx)
    case first =>
      have hN : Nd w wc.drew F1 F2 none none none none := ⟨below_drew HBC.out, fun _ h => by (cases h), fun _ h => by (cases h), fun _ h => by (cases h), fun _ h => by (cases h), fun _ _ h => by (cases h)⟩
      refine start_ (n := 8) (S := fun w' => w'.cell? ⟨w.heap.size, 0, none⟩ = some (.int .u8 p1) ∧ w'.cell? ⟨w.heap.size, 1, none⟩ = some (.int .u8 v1) ∧ w'.cell? ⟨w.heap.size, 2, none⟩ = some (.int .u8 b1) ∧ w'.cell? ⟨w.heap.size, 3, none⟩ = some (.slice D1 xs1.length d1) ∧ w'.cell? ⟨w.heap.size + 1, 0, none⟩ = some (.int .u8 p) ∧ w'.cell? ⟨w.heap.size + 1, 1, none⟩ = some (.int .u8 v) ∧ w'.cell? ⟨w.heap.size + 1, 2, none⟩ = some (.int .u8 b) ∧ w'.cell? ⟨w.heap.size + 1, 3, none⟩ = some (.slice D2 xs.length d2)) (ds := [6, 7]) #[false, false, false, false, false, false, false, false] (by kernel_rfl) rfl rfl ⟨c10, c11, c12, c13, c20, c21, c22, c23⟩ (fun hHeld => ?_)
      refine take_ (i := 0) (N := some 17) (v := ?_) (a' := ?_) #[true, false, false, false, false, false, false, false] rfl rfl (by kernel_rfl) (fun _ _ _ h => h) (Or.inl ⟨by rfl, ?_⟩) hHeld ?_ ?_
      rotate_left
      · rintro w' ⟨s0, s1, s2, s3, s4, s5, s6, s7⟩
        go_simp
        with_reducible rfl
      rotate_left
      · simp only [Act.put, List.setIfInBounds_toArray, List.set_cons_zero, List.set_cons_succ, i64_w, i32_w]
        rfl
      refine take_ (i := 2) (N := some 19) (v := ?_) (a' := ?_) #[true, false, true, false, false, false, false, false] rfl rfl (by kernel_rfl) (fun _ _ _ h => h) (Or.inl ⟨by rfl, ?_⟩) hHeld ?_ ?_
      rotate_left
      · rintro w' ⟨s0, s1, s2, s3, s4, s5, s6, s7⟩
        go_simp
        with_reducible rfl
      rotate_left
      · simp only [Act.put, List.setIfInBounds_toArray, List.set_cons_zero, List.set_cons_succ, i64_w, i32_w]
        rfl
      refine join_ (σ := Value × Value × Nat × Nat) 2 #[true, true, true, true, true, true, false, false] (fun s => [(18, .agg #[.int .i64 F1.params, .int .i64 F1.vregs, s.1]), (20, .agg #[.int .i64 F2.params, .int .i64 F2.vregs, s.2.1]), (7, .pointer (some ⟨s.2.2.1, 0, none⟩)), (8, .pointer (some ⟨s.2.2.2, 0, none⟩))]) (fun s w' => (w'.cell? ⟨w.heap.size, 0, none⟩ = some (.int .u8 p1) ∧ w'.cell? ⟨w.heap.size, 1, none⟩ = some (.int .u8 v1) ∧ w'.cell? ⟨w.heap.size, 2, none⟩ = some (.int .u8 b1) ∧ w'.cell? ⟨w.heap.size, 3, none⟩ = some (.slice D1 xs1.length d1) ∧ w'.cell? ⟨w.heap.size + 1, 0, none⟩ = some (.int .u8 p) ∧ w'.cell? ⟨w.heap.size + 1, 1, none⟩ = some (.int .u8 v) ∧ w'.cell? ⟨w.heap.size + 1, 2, none⟩ = some (.int .u8 b) ∧ w'.cell? ⟨w.heap.size + 1, 3, none⟩ = some (.slice D2 xs.length d2)) ∧ Nd w w' F1 F2 (some s.1) (some s.2.1) (some s.2.2.1) (some s.2.2.2)) ?_ ?_
      rotate_left
      · intro hJ1_3_4_5
        refine join_ (σ := Value × Value × Nat) 3 #[true, true, true, true, true, false, false, false] (fun s => [(18, .agg #[.int .i64 F1.params, .int .i64 F1.vregs, s.1]), (20, .agg #[.int .i64 F2.params, .int .i64 F2.vregs, s.2.1]), (7, .pointer (some ⟨s.2.2, 0, none⟩))]) (fun s w' => (w'.cell? ⟨w.heap.size, 0, none⟩ = some (.int .u8 p1) ∧ w'.cell? ⟨w.heap.size, 1, none⟩ = some (.int .u8 v1) ∧ w'.cell? ⟨w.heap.size, 2, none⟩ = some (.int .u8 b1) ∧ w'.cell? ⟨w.heap.size, 3, none⟩ = some (.slice D1 xs1.length d1) ∧ w'.cell? ⟨w.heap.size + 1, 0, none⟩ = some (.int .u8 p) ∧ w'.cell? ⟨w.heap.size + 1, 1, none⟩ = some (.int .u8 v) ∧ w'.cell? ⟨w.heap.size + 1, 2, none⟩ = some (.int .u8 b) ∧ w'.cell? ⟨w.heap.size + 1, 3, none⟩ = some (.slice D2 xs.length d2)) ∧ Nd w w' F1 F2 (some s.1) (some s.2.1) (some s.2.2) none) ?_ ?_
        rotate_left
        · intro hJ1_3_4
          refine join_ (σ := Value × Value × Nat) 3 #[true, true, true, true, false, true, false, false] (fun s => [(18, .agg #[.int .i64 F1.params, .int .i64 F1.vregs, s.1]), (20, .agg #[.int .i64 F2.params, .int .i64 F2.vregs, s.2.1]), (8, .pointer (some ⟨s.2.2, 0, none⟩))]) (fun s w' => (w'.cell? ⟨w.heap.size, 0, none⟩ = some (.int .u8 p1) ∧ w'.cell? ⟨w.heap.size, 1, none⟩ = some (.int .u8 v1) ∧ w'.cell? ⟨w.heap.size, 2, none⟩ = some (.int .u8 b1) ∧ w'.cell? ⟨w.heap.size, 3, none⟩ = some (.slice D1 xs1.length d1) ∧ w'.cell? ⟨w.heap.size + 1, 0, none⟩ = some (.int .u8 p) ∧ w'.cell? ⟨w.heap.size + 1, 1, none⟩ = some (.int .u8 v) ∧ w'.cell? ⟨w.heap.size + 1, 2, none⟩ = some (.int .u8 b) ∧ w'.cell? ⟨w.heap.size + 1, 3, none⟩ = some (.slice D2 xs.length d2)) ∧ Nd w w' F1 F2 (some s.1) (some s.2.1) none (some s.2.2)) ?_ ?_
          rotate_left
          · intro hJ1_3_5
            refine join_ (σ := Value × Nat × Nat) 3 #[true, true, true, false, true, true, false, false] (fun s => [(18, .agg #[.int .i64 F1.params, .int .i64 F1.vregs, s.1]), (7, .pointer (some ⟨s.2.1, 0, none⟩)), (8, .pointer (some ⟨s.2.2, 0, none⟩))]) (fun s w' => (w'.cell? ⟨w.heap.size, 0, none⟩ = some (.int .u8 p1) ∧ w'.cell? ⟨w.heap.size, 1, none⟩ = some (.int .u8 v1) ∧ w'.cell? ⟨w.heap.size, 2, none⟩ = some (.int .u8 b1) ∧ w'.cell? ⟨w.heap.size, 3, none⟩ = some (.slice D1 xs1.length d1) ∧ w'.cell? ⟨w.heap.size + 1, 0, none⟩ = some (.int .u8 p) ∧ w'.cell? ⟨w.heap.size + 1, 1, none⟩ = some (.int .u8 v) ∧ w'.cell? ⟨w.heap.size + 1, 2, none⟩ = some (.int .u8 b) ∧ w'.cell? ⟨w.heap.size + 1, 3, none⟩ = some (.slice D2 xs.length d2)) ∧ Nd w w' F1 F2 (some s.1) none (some s.2.1) (some s.2.2)) ?_ ?_
            rotate_left
            · intro hJ1_4_5
              refine join_ (σ := Value × Value) 4 #[true, true, true, true, false, false, false, false] (fun s => [(18, .agg #[.int .i64 F1.params, .int .i64 F1.vregs, s.1]), (20, .agg #[.int .i64 F2.params, .int .i64 F2.vregs, s.2])]) (fun s w' => (w'.cell? ⟨w.heap.size, 0, none⟩ = some (.int .u8 p1) ∧ w'.cell? ⟨w.heap.size, 1, none⟩ = some (.int .u8 v1) ∧ w'.cell? ⟨w.heap.size, 2, none⟩ = some (.int .u8 b1) ∧ w'.cell? ⟨w.heap.size, 3, none⟩ = some (.slice D1 xs1.length d1) ∧ w'.cell? ⟨w.heap.size + 1, 0, none⟩ = some (.int .u8 p) ∧ w'.cell? ⟨w.heap.size + 1, 1, none⟩ = some (.int .u8 v) ∧ w'.cell? ⟨w.heap.size + 1, 2, none⟩ = some (.int .u8 b) ∧ w'.cell? ⟨w.heap.size + 1, 3, none⟩ = some (.slice D2 xs.length d2)) ∧ Nd w w' F1 F2 (some s.1) (some s.2) none none) ?_ ?_
              rotate_left
              · intro hJ1_3
                refine join_ (σ := Value × Nat) 4 #[true, true, true, false, true, false, false, false] (fun s => [(18, .agg #[.int .i64 F1.params, .int .i64 F1.vregs, s.1]), (7, .pointer (some ⟨s.2, 0, none⟩))]) (fun s w' => (w'.cell? ⟨w.heap.size, 0, none⟩ = some (.int .u8 p1) ∧ w'.cell? ⟨w.heap.size, 1, none⟩ = some (.int .u8 v1) ∧ w'.cell? ⟨w.heap.size, 2, none⟩ = some (.int .u8 b1) ∧ w'.cell? ⟨w.heap.size, 3, none⟩ = some (.slice D1 xs1.length d1) ∧ w'.cell? ⟨w.heap.size + 1, 0, none⟩ = some (.int .u8 p) ∧ w'.cell? ⟨w.heap.size + 1, 1, none⟩ = some (.int .u8 v) ∧ w'.cell? ⟨w.heap.size + 1, 2, none⟩ = some (.int .u8 b) ∧ w'.cell? ⟨w.heap.size + 1, 3, none⟩ = some (.slice D2 xs.length d2)) ∧ Nd w w' F1 F2 (some s.1) none (some s.2) none) ?_ ?_
                rotate_left
                · intro hJ1_4
                  refine join_ (σ := Value × Nat) 4 #[true, true, true, false, false, true, false, false] (fun s => [(18, .agg #[.int .i64 F1.params, .int .i64 F1.vregs, s.1]), (8, .pointer (some ⟨s.2, 0, none⟩))]) (fun s w' => (w'.cell? ⟨w.heap.size, 0, none⟩ = some (.int .u8 p1) ∧ w'.cell? ⟨w.heap.size, 1, none⟩ = some (.int .u8 v1) ∧ w'.cell? ⟨w.heap.size, 2, none⟩ = some (.int .u8 b1) ∧ w'.cell? ⟨w.heap.size, 3, none⟩ = some (.slice D1 xs1.length d1) ∧ w'.cell? ⟨w.heap.size + 1, 0, none⟩ = some (.int .u8 p) ∧ w'.cell? ⟨w.heap.size + 1, 1, none⟩ = some (.int .u8 v) ∧ w'.cell? ⟨w.heap.size + 1, 2, none⟩ = some (.int .u8 b) ∧ w'.cell? ⟨w.heap.size + 1, 3, none⟩ = some (.slice D2 xs.length d2)) ∧ Nd w w' F1 F2 (some s.1) none none (some s.2)) ?_ ?_
                  rotate_left
                  · intro hJ1_5
                    refine join_ (σ := Nat × Nat) 4 #[true, false, true, false, true, true, false, false] (fun s => [(7, .pointer (some ⟨s.1, 0, none⟩)), (8, .pointer (some ⟨s.2, 0, none⟩))]) (fun s w' => (w'.cell? ⟨w.heap.size, 0, none⟩ = some (.int .u8 p1) ∧ w'.cell? ⟨w.heap.size, 1, none⟩ = some (.int .u8 v1) ∧ w'.cell? ⟨w.heap.size, 2, none⟩ = some (.int .u8 b1) ∧ w'.cell? ⟨w.heap.size, 3, none⟩ = some (.slice D1 xs1.length d1) ∧ w'.cell? ⟨w.heap.size + 1, 0, none⟩ = some (.int .u8 p) ∧ w'.cell? ⟨w.heap.size + 1, 1, none⟩ = some (.int .u8 v) ∧ w'.cell? ⟨w.heap.size + 1, 2, none⟩ = some (.int .u8 b) ∧ w'.cell? ⟨w.heap.size + 1, 3, none⟩ = some (.slice D2 xs.length d2)) ∧ Nd w w' F1 F2 none none (some s.1) (some s.2)) ?_ ?_
                    rotate_left
                    · intro hJ4_5
                      refine join_ (σ := Value) 5 #[true, true, true, false, false, false, false, false] (fun s => [(18, .agg #[.int .i64 F1.params, .int .i64 F1.vregs, s])]) (fun s w' => (w'.cell? ⟨w.heap.size, 0, none⟩ = some (.int .u8 p1) ∧ w'.cell? ⟨w.heap.size, 1, none⟩ = some (.int .u8 v1) ∧ w'.cell? ⟨w.heap.size, 2, none⟩ = some (.int .u8 b1) ∧ w'.cell? ⟨w.heap.size, 3, none⟩ = some (.slice D1 xs1.length d1) ∧ w'.cell? ⟨w.heap.size + 1, 0, none⟩ = some (.int .u8 p) ∧ w'.cell? ⟨w.heap.size + 1, 1, none⟩ = some (.int .u8 v) ∧ w'.cell? ⟨w.heap.size + 1, 2, none⟩ = some (.int .u8 b) ∧ w'.cell? ⟨w.heap.size + 1, 3, none⟩ = some (.slice D2 xs.length d2)) ∧ Nd w w' F1 F2 (some s) none none none) ?_ ?_
                      rotate_left
                      · intro hJ1
                        refine join_ (σ := Nat) 5 #[true, false, true, false, true, false, false, false] (fun s => [(7, .pointer (some ⟨s, 0, none⟩))]) (fun s w' => (w'.cell? ⟨w.heap.size, 0, none⟩ = some (.int .u8 p1) ∧ w'.cell? ⟨w.heap.size, 1, none⟩ = some (.int .u8 v1) ∧ w'.cell? ⟨w.heap.size, 2, none⟩ = some (.int .u8 b1) ∧ w'.cell? ⟨w.heap.size, 3, none⟩ = some (.slice D1 xs1.length d1) ∧ w'.cell? ⟨w.heap.size + 1, 0, none⟩ = some (.int .u8 p) ∧ w'.cell? ⟨w.heap.size + 1, 1, none⟩ = some (.int .u8 v) ∧ w'.cell? ⟨w.heap.size + 1, 2, none⟩ = some (.int .u8 b) ∧ w'.cell? ⟨w.heap.size + 1, 3, none⟩ = some (.slice D2 xs.length d2)) ∧ Nd w w' F1 F2 none none (some s) none) ?_ ?_
                        rotate_left
                        · intro hJ4
                          refine join_ (σ := Nat) 5 #[true, false, true, false, false, true, false, false] (fun s => [(8, .pointer (some ⟨s, 0, none⟩))]) (fun s w' => (w'.cell? ⟨w.heap.size, 0, none⟩ = some (.int .u8 p1) ∧ w'.cell? ⟨w.heap.size, 1, none⟩ = some (.int .u8 v1) ∧ w'.cell? ⟨w.heap.size, 2, none⟩ = some (.int .u8 b1) ∧ w'.cell? ⟨w.heap.size, 3, none⟩ = some (.slice D1 xs1.length d1) ∧ w'.cell? ⟨w.heap.size + 1, 0, none⟩ = some (.int .u8 p) ∧ w'.cell? ⟨w.heap.size + 1, 1, none⟩ = some (.int .u8 v) ∧ w'.cell? ⟨w.heap.size + 1, 2, none⟩ = some (.int .u8 b) ∧ w'.cell? ⟨w.heap.size + 1, 3, none⟩ = some (.slice D2 xs.length d2)) ∧ Nd w w' F1 F2 none none none (some s)) ?_ ?_
                          rotate_left
                          · intro hJ5
                            refine three_ (i := 1) (j := 4) (k := 5) (Ni := some 18) (Nj := some 7) (Nk := some 8) #[true, true, true, false, false, false, false, false] #[true, false, true, false, true, false, false, false] #[true, false, true, false, false, true, false, false] rfl rfl rfl rfl rfl rfl (by kernel_rfl) (by decide) (by decide) (by decide) (fun K hK => ?_) (fun K hK => ?_) (fun K hK => ?_)
                            · skip
                              refine goes_ Try.func18 (by kernel_rfl) rfl #[.agg #[.int .u8 p1, .int .u8 v1, .int .u8 b1, .slice D1 xs1.length d1]] (by rfl) rfl rfl (by simp only [List.map_toArray, List.map_cons, List.map_nil]; rfl) ?_
                              refine (M1.out _ hN.1).mono ?_
                              rintro e w5 ⟨vb1, rfl, hS, hB⟩
                              refine ⟨_, rfl, ?_⟩
                              have hN' := hN.call1 hS hB
                              refine hK.out _ _ ⟨pw_cell_below hB hHeld.1, pw_cell_below hB hHeld.2.1, pw_cell_below hB hHeld.2.2.1, pw_cell_below hB hHeld.2.2.2.1, pw_cell_below hB hHeld.2.2.2.2.1, pw_cell_below hB hHeld.2.2.2.2.2.1, pw_cell_below hB hHeld.2.2.2.2.2.2.1, pw_cell_below hB hHeld.2.2.2.2.2.2.2⟩ (fun hHeld => ?_)
                              clear hK K
                              refine norm_ (a' := ?_) ?_ ?_
                              rotate_left
                              · show Act.put _ (some 18) _ = _
                                simp only [Act.put, List.setIfInBounds_toArray, List.set_cons_zero, List.set_cons_succ, i64_w, i32_w]
                                rfl
                              exact norm_ (by first | (simp only [putAll, Act.put, List.setIfInBounds_toArray, List.set_cons_zero, List.set_cons_succ]; done) | (simp only [putAll, Act.put, List.setIfInBounds_toArray, List.set_cons_zero, List.set_cons_succ]; rfl)) (hJ1 (vb1) _ ⟨hHeld, hN'⟩)
                            · skip
                              refine value_ (w1 := ?_) (v := ?_) (by rfl) rfl ?_ ?_
                              rotate_left 2
                              · go_simp
                                constructor
                                · rfl
                                · rfl
                              have hN' := hN.alloc7
                              refine hK.out _ _ ⟨pw_cell_below (below_alloc (Below.refl _ _) _) hHeld.1, pw_cell_below (below_alloc (Below.refl _ _) _) hHeld.2.1, pw_cell_below (below_alloc (Below.refl _ _) _) hHeld.2.2.1, pw_cell_below (below_alloc (Below.refl _ _) _) hHeld.2.2.2.1, pw_cell_below (below_alloc (Below.refl _ _) _) hHeld.2.2.2.2.1, pw_cell_below (below_alloc (Below.refl _ _) _) hHeld.2.2.2.2.2.1, pw_cell_below (below_alloc (Below.refl _ _) _) hHeld.2.2.2.2.2.2.1, pw_cell_below (below_alloc (Below.refl _ _) _) hHeld.2.2.2.2.2.2.2⟩ (fun hHeld => ?_)
                              clear hK K
                              refine norm_ (a' := ?_) ?_ ?_
                              rotate_left
                              · show Act.put _ (some 7) _ = _
                                simp only [Act.put, List.setIfInBounds_toArray, List.set_cons_zero, List.set_cons_succ, i64_w, i32_w]
                                rfl
                              exact norm_ (by first | (simp only [putAll, Act.put, List.setIfInBounds_toArray, List.set_cons_zero, List.set_cons_succ]; done) | (simp only [putAll, Act.put, List.setIfInBounds_toArray, List.set_cons_zero, List.set_cons_succ]; rfl)) (hJ4 (wc.heap.size) _ ⟨hHeld, hN'⟩)
                            · skip
                              refine value_ (w1 := ?_) (v := ?_) (by rfl) rfl ?_ ?_
                              rotate_left 2
                              · go_simp
                                constructor
                                · rfl
                                · rfl
                              have hN' := hN.alloc8
                              refine hK.out _ _ ⟨pw_cell_below (below_alloc (Below.refl _ _) _) hHeld.1, pw_cell_below (below_alloc (Below.refl _ _) _) hHeld.2.1, pw_cell_below (below_alloc (Below.refl _ _) _) hHeld.2.2.1, pw_cell_below (below_alloc (Below.refl _ _) _) hHeld.2.2.2.1, pw_cell_below (below_alloc (Below.refl _ _) _) hHeld.2.2.2.2.1, pw_cell_below (below_alloc (Below.refl _ _) _) hHeld.2.2.2.2.2.1, pw_cell_below (below_alloc (Below.refl _ _) _) hHeld.2.2.2.2.2.2.1, pw_cell_below (below_alloc (Below.refl _ _) _) hHeld.2.2.2.2.2.2.2⟩ (fun hHeld => ?_)
                              clear hK K
                              refine norm_ (a' := ?_) ?_ ?_
                              rotate_left
                              · show Act.put _ (some 8) _ = _
                                simp only [Act.put, List.setIfInBounds_toArray, List.set_cons_zero, List.set_cons_succ, i64_w, i32_w]
                                rfl
                              exact norm_ (by first | (simp only [putAll, Act.put, List.setIfInBounds_toArray, List.set_cons_zero, List.set_cons_succ]; done) | (simp only [putAll, Act.put, List.setIfInBounds_toArray, List.set_cons_zero, List.set_cons_succ]; rfl)) (hJ5 (wc.heap.size) _ ⟨hHeld, hN'⟩)
                          · skip
                            rintro g8 w' ⟨hHeld, hN⟩
                            refine norm_ (a' := ?_) ?_ ?_
                            rotate_left
                            · simp only [putAll, Act.put, List.setIfInBounds_toArray, List.set_cons_zero, List.set_cons_succ]
                              rfl
                            refine two_ (i := 1) (j := 4) (Ni := some 18) (Nj := some 7) #[true, true, true, false, false, true, false, false] #[true, false, true, false, true, true, false, false] rfl rfl rfl rfl (by kernel_rfl) (by decide) (by decide) (fun K hK => ?_) (fun K hK => ?_)
                            · skip
                              refine goes_ Try.func18 (by kernel_rfl) rfl #[.agg #[.int .u8 p1, .int .u8 v1, .int .u8 b1, .slice D1 xs1.length d1]] (by rfl) rfl rfl (by simp only [List.map_toArray, List.map_cons, List.map_nil]; rfl) ?_
                              refine (M1.out _ hN.1).mono ?_
                              rintro e w5 ⟨vb1, rfl, hS, hB⟩
                              refine ⟨_, rfl, ?_⟩
                              have hN' := hN.call1 hS hB
                              refine hK.out _ _ ⟨pw_cell_below hB hHeld.1, pw_cell_below hB hHeld.2.1, pw_cell_below hB hHeld.2.2.1, pw_cell_below hB hHeld.2.2.2.1, pw_cell_below hB hHeld.2.2.2.2.1, pw_cell_below hB hHeld.2.2.2.2.2.1, pw_cell_below hB hHeld.2.2.2.2.2.2.1, pw_cell_below hB hHeld.2.2.2.2.2.2.2⟩ (fun hHeld => ?_)
                              clear hK K
                              refine norm_ (a' := ?_) ?_ ?_
                              rotate_left
                              · show Act.put _ (some 18) _ = _
                                simp only [Act.put, List.setIfInBounds_toArray, List.set_cons_zero, List.set_cons_succ, i64_w, i32_w]
                                rfl
                              exact norm_ (by first | (simp only [putAll, Act.put, List.setIfInBounds_toArray, List.set_cons_zero, List.set_cons_succ]; done) | (simp only [putAll, Act.put, List.setIfInBounds_toArray, List.set_cons_zero, List.set_cons_succ]; rfl)) (hJ1_5 (vb1, g8) _ ⟨hHeld, hN'⟩)
                            · skip
                              refine value_ (w1 := ?_) (v := ?_) (by rfl) rfl ?_ ?_
                              rotate_left 2
                              · go_simp
                                constructor
                                · rfl
                                · rfl
                              have hN' := hN.alloc7
                              refine hK.out _ _ ⟨pw_cell_below (below_alloc (Below.refl _ _) _) hHeld.1, pw_cell_below (below_alloc (Below.refl _ _) _) hHeld.2.1, pw_cell_below (below_alloc (Below.refl _ _) _) hHeld.2.2.1, pw_cell_below (below_alloc (Below.refl _ _) _) hHeld.2.2.2.1, pw_cell_below (below_alloc (Below.refl _ _) _) hHeld.2.2.2.2.1, pw_cell_below (below_alloc (Below.refl _ _) _) hHeld.2.2.2.2.2.1, pw_cell_below (below_alloc (Below.refl _ _) _) hHeld.2.2.2.2.2.2.1, pw_cell_below (below_alloc (Below.refl _ _) _) hHeld.2.2.2.2.2.2.2⟩ (fun hHeld => ?_)
                              clear hK K
                              refine norm_ (a' := ?_) ?_ ?_
                              rotate_left
                              · show Act.put _ (some 7) _ = _
                                simp only [Act.put, List.setIfInBounds_toArray, List.set_cons_zero, List.set_cons_succ, i64_w, i32_w]
                                rfl
                              exact norm_ (by first | (simp only [putAll, Act.put, List.setIfInBounds_toArray, List.set_cons_zero, List.set_cons_succ]; done) | (simp only [putAll, Act.put, List.setIfInBounds_toArray, List.set_cons_zero, List.set_cons_succ]; rfl)) (hJ4_5 (w'.heap.size, g8) _ ⟨hHeld, hN'⟩)
                        · skip
                          rintro g7 w' ⟨hHeld, hN⟩
                          refine norm_ (a' := ?_) ?_ ?_
                          rotate_left
                          · simp only [putAll, Act.put, List.setIfInBounds_toArray, List.set_cons_zero, List.set_cons_succ]
                            rfl
                          refine two_ (i := 1) (j := 5) (Ni := some 18) (Nj := some 8) #[true, true, true, false, true, false, false, false] #[true, false, true, false, true, true, false, false] rfl rfl rfl rfl (by kernel_rfl) (by decide) (by decide) (fun K hK => ?_) (fun K hK => ?_)
                          · skip
                            refine goes_ Try.func18 (by kernel_rfl) rfl #[.agg #[.int .u8 p1, .int .u8 v1, .int .u8 b1, .slice D1 xs1.length d1]] (by rfl) rfl rfl (by simp only [List.map_toArray, List.map_cons, List.map_nil]; rfl) ?_
                            refine (M1.out _ hN.1).mono ?_
                            rintro e w5 ⟨vb1, rfl, hS, hB⟩
                            refine ⟨_, rfl, ?_⟩
                            have hN' := hN.call1 hS hB
                            refine hK.out _ _ ⟨pw_cell_below hB hHeld.1, pw_cell_below hB hHeld.2.1, pw_cell_below hB hHeld.2.2.1, pw_cell_below hB hHeld.2.2.2.1, pw_cell_below hB hHeld.2.2.2.2.1, pw_cell_below hB hHeld.2.2.2.2.2.1, pw_cell_below hB hHeld.2.2.2.2.2.2.1, pw_cell_below hB hHeld.2.2.2.2.2.2.2⟩ (fun hHeld => ?_)
                            clear hK K
                            refine norm_ (a' := ?_) ?_ ?_
                            rotate_left
                            · show Act.put _ (some 18) _ = _
                              simp only [Act.put, List.setIfInBounds_toArray, List.set_cons_zero, List.set_cons_succ, i64_w, i32_w]
                              rfl
                            exact norm_ (by first | (simp only [putAll, Act.put, List.setIfInBounds_toArray, List.set_cons_zero, List.set_cons_succ]; done) | (simp only [putAll, Act.put, List.setIfInBounds_toArray, List.set_cons_zero, List.set_cons_succ]; rfl)) (hJ1_4 (vb1, g7) _ ⟨hHeld, hN'⟩)
                          · skip
                            refine value_ (w1 := ?_) (v := ?_) (by rfl) rfl ?_ ?_
                            rotate_left 2
                            · go_simp
                              constructor
                              · rfl
                              · rfl
                            have hN' := hN.alloc8
                            refine hK.out _ _ ⟨pw_cell_below (below_alloc (Below.refl _ _) _) hHeld.1, pw_cell_below (below_alloc (Below.refl _ _) _) hHeld.2.1, pw_cell_below (below_alloc (Below.refl _ _) _) hHeld.2.2.1, pw_cell_below (below_alloc (Below.refl _ _) _) hHeld.2.2.2.1, pw_cell_below (below_alloc (Below.refl _ _) _) hHeld.2.2.2.2.1, pw_cell_below (below_alloc (Below.refl _ _) _) hHeld.2.2.2.2.2.1, pw_cell_below (below_alloc (Below.refl _ _) _) hHeld.2.2.2.2.2.2.1, pw_cell_below (below_alloc (Below.refl _ _) _) hHeld.2.2.2.2.2.2.2⟩ (fun hHeld => ?_)
                            clear hK K
                            refine norm_ (a' := ?_) ?_ ?_
                            rotate_left
                            · show Act.put _ (some 8) _ = _
                              simp only [Act.put, List.setIfInBounds_toArray, List.set_cons_zero, List.set_cons_succ, i64_w, i32_w]
                              rfl
                            exact norm_ (by first | (simp only [putAll, Act.put, List.setIfInBounds_toArray, List.set_cons_zero, List.set_cons_succ]; done) | (simp only [putAll, Act.put, List.setIfInBounds_toArray, List.set_cons_zero, List.set_cons_succ]; rfl)) (hJ4_5 (g7, w'.heap.size) _ ⟨hHeld, hN'⟩)
                      · skip
                        rintro vb1 w' ⟨hHeld, hN⟩
                        refine norm_ (a' := ?_) ?_ ?_
                        rotate_left
                        · simp only [putAll, Act.put, List.setIfInBounds_toArray, List.set_cons_zero, List.set_cons_succ]
                          rfl
                        refine three_ (i := 3) (j := 4) (k := 5) (Ni := some 20) (Nj := some 7) (Nk := some 8) #[true, true, true, true, false, false, false, false] #[true, true, true, false, true, false, false, false] #[true, true, true, false, false, true, false, false] rfl rfl rfl rfl rfl rfl (by kernel_rfl) (by decide) (by decide) (by decide) (fun K hK => ?_) (fun K hK => ?_) (fun K hK => ?_)
                        · skip
                          refine goes_ Try.func18 (by kernel_rfl) rfl #[.agg #[.int .u8 p, .int .u8 v, .int .u8 b, .slice D2 xs.length d2]] (by rfl) rfl rfl (by simp only [List.map_toArray, List.map_cons, List.map_nil]; rfl) ?_
                          refine (M2.out _ hN.1).mono ?_
                          rintro e w5 ⟨vb2, rfl, hS, hB⟩
                          refine ⟨_, rfl, ?_⟩
                          have hN' := hN.call2 hS hB
                          refine hK.out _ _ ⟨pw_cell_below hB hHeld.1, pw_cell_below hB hHeld.2.1, pw_cell_below hB hHeld.2.2.1, pw_cell_below hB hHeld.2.2.2.1, pw_cell_below hB hHeld.2.2.2.2.1, pw_cell_below hB hHeld.2.2.2.2.2.1, pw_cell_below hB hHeld.2.2.2.2.2.2.1, pw_cell_below hB hHeld.2.2.2.2.2.2.2⟩ (fun hHeld => ?_)
                          clear hK K
                          refine norm_ (a' := ?_) ?_ ?_
                          rotate_left
                          · show Act.put _ (some 20) _ = _
                            simp only [Act.put, List.setIfInBounds_toArray, List.set_cons_zero, List.set_cons_succ, i64_w, i32_w]
                            rfl
                          exact norm_ (by first | (simp only [putAll, Act.put, List.setIfInBounds_toArray, List.set_cons_zero, List.set_cons_succ]; done) | (simp only [putAll, Act.put, List.setIfInBounds_toArray, List.set_cons_zero, List.set_cons_succ]; rfl)) (hJ1_3 (vb1, vb2) _ ⟨hHeld, hN'⟩)
                        · skip
                          refine value_ (w1 := ?_) (v := ?_) (by rfl) rfl ?_ ?_
                          rotate_left 2
                          · go_simp
                            constructor
                            · rfl
                            · rfl
                          have hN' := hN.alloc7
                          refine hK.out _ _ ⟨pw_cell_below (below_alloc (Below.refl _ _) _) hHeld.1, pw_cell_below (below_alloc (Below.refl _ _) _) hHeld.2.1, pw_cell_below (below_alloc (Below.refl _ _) _) hHeld.2.2.1, pw_cell_below (below_alloc (Below.refl _ _) _) hHeld.2.2.2.1, pw_cell_below (below_alloc (Below.refl _ _) _) hHeld.2.2.2.2.1, pw_cell_below (below_alloc (Below.refl _ _) _) hHeld.2.2.2.2.2.1, pw_cell_below (below_alloc (Below.refl _ _) _) hHeld.2.2.2.2.2.2.1, pw_cell_below (below_alloc (Below.refl _ _) _) hHeld.2.2.2.2.2.2.2⟩ (fun hHeld => ?_)
                          clear hK K
                          refine norm_ (a' := ?_) ?_ ?_
                          rotate_left
                          · show Act.put _ (some 7) _ = _
                            simp only [Act.put, List.setIfInBounds_toArray, List.set_cons_zero, List.set_cons_succ, i64_w, i32_w]
                            rfl
                          exact norm_ (by first | (simp only [putAll, Act.put, List.setIfInBounds_toArray, List.set_cons_zero, List.set_cons_succ]; done) | (simp only [putAll, Act.put, List.setIfInBounds_toArray, List.set_cons_zero, List.set_cons_succ]; rfl)) (hJ1_4 (vb1, w'.heap.size) _ ⟨hHeld, hN'⟩)
                        · skip
                          refine value_ (w1 := ?_) (v := ?_) (by rfl) rfl ?_ ?_
                          rotate_left 2
                          · go_simp
                            constructor
                            · rfl
                            · rfl
                          have hN' := hN.alloc8
                          refine hK.out _ _ ⟨pw_cell_below (below_alloc (Below.refl _ _) _) hHeld.1, pw_cell_below (below_alloc (Below.refl _ _) _) hHeld.2.1, pw_cell_below (below_alloc (Below.refl _ _) _) hHeld.2.2.1, pw_cell_below (below_alloc (Below.refl _ _) _) hHeld.2.2.2.1, pw_cell_below (below_alloc (Below.refl _ _) _) hHeld.2.2.2.2.1, pw_cell_below (below_alloc (Below.refl _ _) _) hHeld.2.2.2.2.2.1, pw_cell_below (below_alloc (Below.refl _ _) _) hHeld.2.2.2.2.2.2.1, pw_cell_below (below_alloc (Below.refl _ _) _) hHeld.2.2.2.2.2.2.2⟩ (fun hHeld => ?_)
                          clear hK K
                          refine norm_ (a' := ?_) ?_ ?_
                          rotate_left
                          · show Act.put _ (some 8) _ = _
                            simp only [Act.put, List.setIfInBounds_toArray, List.set_cons_zero, List.set_cons_succ, i64_w, i32_w]
                            rfl
                          exact norm_ (by first | (simp only [putAll, Act.put, List.setIfInBounds_toArray, List.set_cons_zero, List.set_cons_succ]; done) | (simp only [putAll, Act.put, List.setIfInBounds_toArray, List.set_cons_zero, List.set_cons_succ]; rfl)) (hJ1_5 (vb1, w'.heap.size) _ ⟨hHeld, hN'⟩)
                    · skip
                      rintro ⟨g7, g8⟩ w' ⟨hHeld, hN⟩
                      refine norm_ (a' := ?_) ?_ ?_
                      rotate_left
                      · simp only [putAll, Act.put, List.setIfInBounds_toArray, List.set_cons_zero, List.set_cons_succ]
                        rfl
                      refine one_ (i := 1) (N := some 18) #[true, true, true, false, true, true, false, false] rfl rfl (by kernel_rfl) (by decide) (fun K hK => ?_)
                      refine goes_ Try.func18 (by kernel_rfl) rfl #[.agg #[.int .u8 p1, .int .u8 v1, .int .u8 b1, .slice D1 xs1.length d1]] (by rfl) rfl rfl (by simp only [List.map_toArray, List.map_cons, List.map_nil]; rfl) ?_
                      refine (M1.out _ hN.1).mono ?_
                      rintro e w5 ⟨vb1, rfl, hS, hB⟩
                      refine ⟨_, rfl, ?_⟩
                      have hN' := hN.call1 hS hB
                      refine hK.out _ _ ⟨pw_cell_below hB hHeld.1, pw_cell_below hB hHeld.2.1, pw_cell_below hB hHeld.2.2.1, pw_cell_below hB hHeld.2.2.2.1, pw_cell_below hB hHeld.2.2.2.2.1, pw_cell_below hB hHeld.2.2.2.2.2.1, pw_cell_below hB hHeld.2.2.2.2.2.2.1, pw_cell_below hB hHeld.2.2.2.2.2.2.2⟩ (fun hHeld => ?_)
                      clear hK K
                      refine norm_ (a' := ?_) ?_ ?_
                      rotate_left
                      · show Act.put _ (some 18) _ = _
                        simp only [Act.put, List.setIfInBounds_toArray, List.set_cons_zero, List.set_cons_succ, i64_w, i32_w]
                        rfl
                      exact norm_ (by first | (simp only [putAll, Act.put, List.setIfInBounds_toArray, List.set_cons_zero, List.set_cons_succ]; done) | (simp only [putAll, Act.put, List.setIfInBounds_toArray, List.set_cons_zero, List.set_cons_succ]; rfl)) (hJ1_4_5 (vb1, g7, g8) _ ⟨hHeld, hN'⟩)
                  · skip
                    rintro ⟨vb1, g8⟩ w' ⟨hHeld, hN⟩
                    refine norm_ (a' := ?_) ?_ ?_
                    rotate_left
                    · simp only [putAll, Act.put, List.setIfInBounds_toArray, List.set_cons_zero, List.set_cons_succ]
                      rfl
                    refine two_ (i := 3) (j := 4) (Ni := some 20) (Nj := some 7) #[true, true, true, true, false, true, false, false] #[true, true, true, false, true, true, false, false] rfl rfl rfl rfl (by kernel_rfl) (by decide) (by decide) (fun K hK => ?_) (fun K hK => ?_)
                    · skip
                      refine goes_ Try.func18 (by kernel_rfl) rfl #[.agg #[.int .u8 p, .int .u8 v, .int .u8 b, .slice D2 xs.length d2]] (by rfl) rfl rfl (by simp only [List.map_toArray, List.map_cons, List.map_nil]; rfl) ?_
                      refine (M2.out _ hN.1).mono ?_
                      rintro e w5 ⟨vb2, rfl, hS, hB⟩
                      refine ⟨_, rfl, ?_⟩
                      have hN' := hN.call2 hS hB
                      refine hK.out _ _ ⟨pw_cell_below hB hHeld.1, pw_cell_below hB hHeld.2.1, pw_cell_below hB hHeld.2.2.1, pw_cell_below hB hHeld.2.2.2.1, pw_cell_below hB hHeld.2.2.2.2.1, pw_cell_below hB hHeld.2.2.2.2.2.1, pw_cell_below hB hHeld.2.2.2.2.2.2.1, pw_cell_below hB hHeld.2.2.2.2.2.2.2⟩ (fun hHeld => ?_)
                      clear hK K
                      refine norm_ (a' := ?_) ?_ ?_
                      rotate_left
                      · show Act.put _ (some 20) _ = _
                        simp only [Act.put, List.setIfInBounds_toArray, List.set_cons_zero, List.set_cons_succ, i64_w, i32_w]
                        rfl
                      exact norm_ (by first | (simp only [putAll, Act.put, List.setIfInBounds_toArray, List.set_cons_zero, List.set_cons_succ]; done) | (simp only [putAll, Act.put, List.setIfInBounds_toArray, List.set_cons_zero, List.set_cons_succ]; rfl)) (hJ1_3_5 (vb1, vb2, g8) _ ⟨hHeld, hN'⟩)
                    · skip
                      refine value_ (w1 := ?_) (v := ?_) (by rfl) rfl ?_ ?_
                      rotate_left 2
                      · go_simp
                        constructor
                        · rfl
                        · rfl
                      have hN' := hN.alloc7
                      refine hK.out _ _ ⟨pw_cell_below (below_alloc (Below.refl _ _) _) hHeld.1, pw_cell_below (below_alloc (Below.refl _ _) _) hHeld.2.1, pw_cell_below (below_alloc (Below.refl _ _) _) hHeld.2.2.1, pw_cell_below (below_alloc (Below.refl _ _) _) hHeld.2.2.2.1, pw_cell_below (below_alloc (Below.refl _ _) _) hHeld.2.2.2.2.1, pw_cell_below (below_alloc (Below.refl _ _) _) hHeld.2.2.2.2.2.1, pw_cell_below (below_alloc (Below.refl _ _) _) hHeld.2.2.2.2.2.2.1, pw_cell_below (below_alloc (Below.refl _ _) _) hHeld.2.2.2.2.2.2.2⟩ (fun hHeld => ?_)
                      clear hK K
                      refine norm_ (a' := ?_) ?_ ?_
                      rotate_left
                      · show Act.put _ (some 7) _ = _
                        simp only [Act.put, List.setIfInBounds_toArray, List.set_cons_zero, List.set_cons_succ, i64_w, i32_w]
                        rfl
                      exact norm_ (by first | (simp only [putAll, Act.put, List.setIfInBounds_toArray, List.set_cons_zero, List.set_cons_succ]; done) | (simp only [putAll, Act.put, List.setIfInBounds_toArray, List.set_cons_zero, List.set_cons_succ]; rfl)) (hJ1_4_5 (vb1, w'.heap.size, g8) _ ⟨hHeld, hN'⟩)
                · skip
                  rintro ⟨vb1, g7⟩ w' ⟨hHeld, hN⟩
                  refine norm_ (a' := ?_) ?_ ?_
                  rotate_left
                  · simp only [putAll, Act.put, List.setIfInBounds_toArray, List.set_cons_zero, List.set_cons_succ]
                    rfl
                  refine two_ (i := 3) (j := 5) (Ni := some 20) (Nj := some 8) #[true, true, true, true, true, false, false, false] #[true, true, true, false, true, true, false, false] rfl rfl rfl rfl (by kernel_rfl) (by decide) (by decide) (fun K hK => ?_) (fun K hK => ?_)
                  · skip
                    refine goes_ Try.func18 (by kernel_rfl) rfl #[.agg #[.int .u8 p, .int .u8 v, .int .u8 b, .slice D2 xs.length d2]] (by rfl) rfl rfl (by simp only [List.map_toArray, List.map_cons, List.map_nil]; rfl) ?_
                    refine (M2.out _ hN.1).mono ?_
                    rintro e w5 ⟨vb2, rfl, hS, hB⟩
                    refine ⟨_, rfl, ?_⟩
                    have hN' := hN.call2 hS hB
                    refine hK.out _ _ ⟨pw_cell_below hB hHeld.1, pw_cell_below hB hHeld.2.1, pw_cell_below hB hHeld.2.2.1, pw_cell_below hB hHeld.2.2.2.1, pw_cell_below hB hHeld.2.2.2.2.1, pw_cell_below hB hHeld.2.2.2.2.2.1, pw_cell_below hB hHeld.2.2.2.2.2.2.1, pw_cell_below hB hHeld.2.2.2.2.2.2.2⟩ (fun hHeld => ?_)
                    clear hK K
                    refine norm_ (a' := ?_) ?_ ?_
                    rotate_left
                    · show Act.put _ (some 20) _ = _
                      simp only [Act.put, List.setIfInBounds_toArray, List.set_cons_zero, List.set_cons_succ, i64_w, i32_w]
                      rfl
                    exact norm_ (by first | (simp only [putAll, Act.put, List.setIfInBounds_toArray, List.set_cons_zero, List.set_cons_succ]; done) | (simp only [putAll, Act.put, List.setIfInBounds_toArray, List.set_cons_zero, List.set_cons_succ]; rfl)) (hJ1_3_4 (vb1, vb2, g7) _ ⟨hHeld, hN'⟩)
                  · skip
                    refine value_ (w1 := ?_) (v := ?_) (by rfl) rfl ?_ ?_
                    rotate_left 2
                    · go_simp
                      constructor
                      · rfl
                      · rfl
                    have hN' := hN.alloc8
                    refine hK.out _ _ ⟨pw_cell_below (below_alloc (Below.refl _ _) _) hHeld.1, pw_cell_below (below_alloc (Below.refl _ _) _) hHeld.2.1, pw_cell_below (below_alloc (Below.refl _ _) _) hHeld.2.2.1, pw_cell_below (below_alloc (Below.refl _ _) _) hHeld.2.2.2.1, pw_cell_below (below_alloc (Below.refl _ _) _) hHeld.2.2.2.2.1, pw_cell_below (below_alloc (Below.refl _ _) _) hHeld.2.2.2.2.2.1, pw_cell_below (below_alloc (Below.refl _ _) _) hHeld.2.2.2.2.2.2.1, pw_cell_below (below_alloc (Below.refl _ _) _) hHeld.2.2.2.2.2.2.2⟩ (fun hHeld => ?_)
                    clear hK K
                    refine norm_ (a' := ?_) ?_ ?_
                    rotate_left
                    · show Act.put _ (some 8) _ = _
                      simp only [Act.put, List.setIfInBounds_toArray, List.set_cons_zero, List.set_cons_succ, i64_w, i32_w]
                      rfl
                    exact norm_ (by first | (simp only [putAll, Act.put, List.setIfInBounds_toArray, List.set_cons_zero, List.set_cons_succ]; done) | (simp only [putAll, Act.put, List.setIfInBounds_toArray, List.set_cons_zero, List.set_cons_succ]; rfl)) (hJ1_4_5 (vb1, g7, w'.heap.size) _ ⟨hHeld, hN'⟩)
              · skip
                rintro ⟨vb1, vb2⟩ w' ⟨hHeld, hN⟩
                refine norm_ (a' := ?_) ?_ ?_
                rotate_left
                · simp only [putAll, Act.put, List.setIfInBounds_toArray, List.set_cons_zero, List.set_cons_succ]
                  rfl
                refine two_ (i := 4) (j := 5) (Ni := some 7) (Nj := some 8) #[true, true, true, true, true, false, false, false] #[true, true, true, true, false, true, false, false] rfl rfl rfl rfl (by kernel_rfl) (by decide) (by decide) (fun K hK => ?_) (fun K hK => ?_)
                · skip
                  refine value_ (w1 := ?_) (v := ?_) (by rfl) rfl ?_ ?_
                  rotate_left 2
                  · go_simp
                    constructor
                    · rfl
                    · rfl
                  have hN' := hN.alloc7
                  refine hK.out _ _ ⟨pw_cell_below (below_alloc (Below.refl _ _) _) hHeld.1, pw_cell_below (below_alloc (Below.refl _ _) _) hHeld.2.1, pw_cell_below (below_alloc (Below.refl _ _) _) hHeld.2.2.1, pw_cell_below (below_alloc (Below.refl _ _) _) hHeld.2.2.2.1, pw_cell_below (below_alloc (Below.refl _ _) _) hHeld.2.2.2.2.1, pw_cell_below (below_alloc (Below.refl _ _) _) hHeld.2.2.2.2.2.1, pw_cell_below (below_alloc (Below.refl _ _) _) hHeld.2.2.2.2.2.2.1, pw_cell_below (below_alloc (Below.refl _ _) _) hHeld.2.2.2.2.2.2.2⟩ (fun hHeld => ?_)
                  clear hK K
                  refine norm_ (a' := ?_) ?_ ?_
                  rotate_left
                  · show Act.put _ (some 7) _ = _
                    simp only [Act.put, List.setIfInBounds_toArray, List.set_cons_zero, List.set_cons_succ, i64_w, i32_w]
                    rfl
                  exact norm_ (by first | (simp only [putAll, Act.put, List.setIfInBounds_toArray, List.set_cons_zero, List.set_cons_succ]; done) | (simp only [putAll, Act.put, List.setIfInBounds_toArray, List.set_cons_zero, List.set_cons_succ]; rfl)) (hJ1_3_4 (vb1, vb2, w'.heap.size) _ ⟨hHeld, hN'⟩)
                · skip
                  refine value_ (w1 := ?_) (v := ?_) (by rfl) rfl ?_ ?_
                  rotate_left 2
                  · go_simp
                    constructor
                    · rfl
                    · rfl
                  have hN' := hN.alloc8
                  refine hK.out _ _ ⟨pw_cell_below (below_alloc (Below.refl _ _) _) hHeld.1, pw_cell_below (below_alloc (Below.refl _ _) _) hHeld.2.1, pw_cell_below (below_alloc (Below.refl _ _) _) hHeld.2.2.1, pw_cell_below (below_alloc (Below.refl _ _) _) hHeld.2.2.2.1, pw_cell_below (below_alloc (Below.refl _ _) _) hHeld.2.2.2.2.1, pw_cell_below (below_alloc (Below.refl _ _) _) hHeld.2.2.2.2.2.1, pw_cell_below (below_alloc (Below.refl _ _) _) hHeld.2.2.2.2.2.2.1, pw_cell_below (below_alloc (Below.refl _ _) _) hHeld.2.2.2.2.2.2.2⟩ (fun hHeld => ?_)
                  clear hK K
                  refine norm_ (a' := ?_) ?_ ?_
                  rotate_left
                  · show Act.put _ (some 8) _ = _
                    simp only [Act.put, List.setIfInBounds_toArray, List.set_cons_zero, List.set_cons_succ, i64_w, i32_w]
                    rfl
                  exact norm_ (by first | (simp only [putAll, Act.put, List.setIfInBounds_toArray, List.set_cons_zero, List.set_cons_succ]; done) | (simp only [putAll, Act.put, List.setIfInBounds_toArray, List.set_cons_zero, List.set_cons_succ]; rfl)) (hJ1_3_5 (vb1, vb2, w'.heap.size) _ ⟨hHeld, hN'⟩)
            · skip
              rintro ⟨vb1, g7, g8⟩ w' ⟨hHeld, hN⟩
              refine norm_ (a' := ?_) ?_ ?_
              rotate_left
              · simp only [putAll, Act.put, List.setIfInBounds_toArray, List.set_cons_zero, List.set_cons_succ]
                rfl
              refine one_ (i := 3) (N := some 20) #[true, true, true, true, true, true, false, false] rfl rfl (by kernel_rfl) (by decide) (fun K hK => ?_)
              refine goes_ Try.func18 (by kernel_rfl) rfl #[.agg #[.int .u8 p, .int .u8 v, .int .u8 b, .slice D2 xs.length d2]] (by rfl) rfl rfl (by simp only [List.map_toArray, List.map_cons, List.map_nil]; rfl) ?_
              refine (M2.out _ hN.1).mono ?_
              rintro e w5 ⟨vb2, rfl, hS, hB⟩
              refine ⟨_, rfl, ?_⟩
              have hN' := hN.call2 hS hB
              refine hK.out _ _ ⟨pw_cell_below hB hHeld.1, pw_cell_below hB hHeld.2.1, pw_cell_below hB hHeld.2.2.1, pw_cell_below hB hHeld.2.2.2.1, pw_cell_below hB hHeld.2.2.2.2.1, pw_cell_below hB hHeld.2.2.2.2.2.1, pw_cell_below hB hHeld.2.2.2.2.2.2.1, pw_cell_below hB hHeld.2.2.2.2.2.2.2⟩ (fun hHeld => ?_)
              clear hK K
              refine norm_ (a' := ?_) ?_ ?_
              rotate_left
              · show Act.put _ (some 20) _ = _
                simp only [Act.put, List.setIfInBounds_toArray, List.set_cons_zero, List.set_cons_succ, i64_w, i32_w]
                rfl
              exact norm_ (by first | (simp only [putAll, Act.put, List.setIfInBounds_toArray, List.set_cons_zero, List.set_cons_succ]; done) | (simp only [putAll, Act.put, List.setIfInBounds_toArray, List.set_cons_zero, List.set_cons_succ]; rfl)) (hJ1_3_4_5 (vb1, vb2, g7, g8) _ ⟨hHeld, hN'⟩)
          · skip
            rintro ⟨vb1, vb2, g8⟩ w' ⟨hHeld, hN⟩
            refine norm_ (a' := ?_) ?_ ?_
            rotate_left
            · simp only [putAll, Act.put, List.setIfInBounds_toArray, List.set_cons_zero, List.set_cons_succ]
              rfl
            refine one_ (i := 4) (N := some 7) #[true, true, true, true, true, true, false, false] rfl rfl (by kernel_rfl) (by decide) (fun K hK => ?_)
            refine value_ (w1 := ?_) (v := ?_) (by rfl) rfl ?_ ?_
            rotate_left 2
            · go_simp
              constructor
              · rfl
              · rfl
            have hN' := hN.alloc7
            refine hK.out _ _ ⟨pw_cell_below (below_alloc (Below.refl _ _) _) hHeld.1, pw_cell_below (below_alloc (Below.refl _ _) _) hHeld.2.1, pw_cell_below (below_alloc (Below.refl _ _) _) hHeld.2.2.1, pw_cell_below (below_alloc (Below.refl _ _) _) hHeld.2.2.2.1, pw_cell_below (below_alloc (Below.refl _ _) _) hHeld.2.2.2.2.1, pw_cell_below (below_alloc (Below.refl _ _) _) hHeld.2.2.2.2.2.1, pw_cell_below (below_alloc (Below.refl _ _) _) hHeld.2.2.2.2.2.2.1, pw_cell_below (below_alloc (Below.refl _ _) _) hHeld.2.2.2.2.2.2.2⟩ (fun hHeld => ?_)
            clear hK K
            refine norm_ (a' := ?_) ?_ ?_
            rotate_left
            · show Act.put _ (some 7) _ = _
              simp only [Act.put, List.setIfInBounds_toArray, List.set_cons_zero, List.set_cons_succ, i64_w, i32_w]
              rfl
            exact norm_ (by first | (simp only [putAll, Act.put, List.setIfInBounds_toArray, List.set_cons_zero, List.set_cons_succ]; done) | (simp only [putAll, Act.put, List.setIfInBounds_toArray, List.set_cons_zero, List.set_cons_succ]; rfl)) (hJ1_3_4_5 (vb1, vb2, w'.heap.size, g8) _ ⟨hHeld, hN'⟩)
        · skip
          rintro ⟨vb1, vb2, g7⟩ w' ⟨hHeld, hN⟩
          refine norm_ (a' := ?_) ?_ ?_
          rotate_left
          · simp only [putAll, Act.put, List.setIfInBounds_toArray, List.set_cons_zero, List.set_cons_succ]
            rfl
          refine one_ (i := 5) (N := some 8) #[true, true, true, true, true, true, false, false] rfl rfl (by kernel_rfl) (by decide) (fun K hK => ?_)
          refine value_ (w1 := ?_) (v := ?_) (by rfl) rfl ?_ ?_
          rotate_left 2
          · go_simp
            constructor
            · rfl
            · rfl
          have hN' := hN.alloc8
          refine hK.out _ _ ⟨pw_cell_below (below_alloc (Below.refl _ _) _) hHeld.1, pw_cell_below (below_alloc (Below.refl _ _) _) hHeld.2.1, pw_cell_below (below_alloc (Below.refl _ _) _) hHeld.2.2.1, pw_cell_below (below_alloc (Below.refl _ _) _) hHeld.2.2.2.1, pw_cell_below (below_alloc (Below.refl _ _) _) hHeld.2.2.2.2.1, pw_cell_below (below_alloc (Below.refl _ _) _) hHeld.2.2.2.2.2.1, pw_cell_below (below_alloc (Below.refl _ _) _) hHeld.2.2.2.2.2.2.1, pw_cell_below (below_alloc (Below.refl _ _) _) hHeld.2.2.2.2.2.2.2⟩ (fun hHeld => ?_)
          clear hK K
          refine norm_ (a' := ?_) ?_ ?_
          rotate_left
          · show Act.put _ (some 8) _ = _
            simp only [Act.put, List.setIfInBounds_toArray, List.set_cons_zero, List.set_cons_succ, i64_w, i32_w]
            rfl
          exact norm_ (by first | (simp only [putAll, Act.put, List.setIfInBounds_toArray, List.set_cons_zero, List.set_cons_succ]; done) | (simp only [putAll, Act.put, List.setIfInBounds_toArray, List.set_cons_zero, List.set_cons_succ]; rfl)) (hJ1_3_4_5 (vb1, vb2, g7, w'.heap.size) _ ⟨hHeld, hN'⟩)
      rintro ⟨vb1, vb2, g7, g8⟩ w' ⟨hHeld, hN⟩
      refine norm_ (a' := ?_) ?_ ?_
      rotate_left
      · simp only [putAll, Act.put, List.setIfInBounds_toArray, List.set_cons_zero, List.set_cons_succ]
        rfl
      refine last_ (i := 6) (N := none) #[true, true, true, true, true, true, true, false] rfl rfl (by kernel_rfl) (by decide) (fun K hK => ?_)
      obtain ⟨hg7, hb7⟩ := hN.2.2.2.1 _ rfl
      obtain ⟨hg8, hb8⟩ := hN.2.2.2.2.1 _ rfl
      have hne := hN.2.2.2.2.2 _ _ rfl rfl
      obtain ⟨X1, x1, rfl⟩ := Kd.R_slice (hN.2.1 _ rfl)
      obtain ⟨X2, x2, rfl⟩ := Kd.R_slice (hN.2.2.1 _ rfl)
      have a0 := cellAt hb7 0 _ rfl
      have a1 := cellAt hb7 1 _ rfl
      have a2 := cellAt hb7 2 _ rfl
      have y0 := froz hb7 0
      have y1 := froz hb7 1
      have y2 := froz hb7 2
      refine skip_ (w1 := ?_) (by rfl) rfl ?_ ?_
      rotate_left
      · go_simp
        rfl
      refine hK.out _ _ ?_
      clear hK K
      refine last_ (i := 7) (N := none) #[true, true, true, true, true, true, true, true] rfl rfl (by kernel_rfl) (by decide) (fun K hK => ?_)
      have hb8' := blk_far (blk_far (blk_far hb8 (p := ⟨g7, 0, none⟩) (Ne.symm hne) (.int .i64 F1.params)) (p := ⟨g7, 1, none⟩) (Ne.symm hne) (.int .i64 F1.vregs)) (p := ⟨g7, 2, none⟩) (Ne.symm hne) (.slice X1 F1.blocks.length x1)
      have a0 := cellAt hb8' 0 _ rfl
      have a1 := cellAt hb8' 1 _ rfl
      have a2 := cellAt hb8' 2 _ rfl
      have y0 := froz hb8' 0
      have y1 := froz hb8' 1
      have y2 := froz hb8' 2
      refine skip_ (w1 := ?_) (by rfl) rfl ?_ ?_
      rotate_left
      · go_simp
        rfl
      refine hK.out _ _ ?_
      clear hK K
      refine done_ (by kernel_rfl) ?_
      go_wp2_with fail
      go_meet
      have hr1 := hN.2.1 _ rfl
      have hr2 := hN.2.2.1 _ rfl
      have f7 := blk_far (blk_far (blk_far (set3 hb7 (.int .i64 F1.params) (.int .i64 F1.vregs) (.slice X1 F1.blocks.length x1)) (p := ⟨g8, 0, none⟩) hne (.int .i64 F2.params)) (p := ⟨g8, 1, none⟩) hne (.int .i64 F2.vregs)) (p := ⟨g8, 2, none⟩) hne (.slice X2 F2.blocks.length x2)
      have f8 := set3 hb8' (.int .i64 F2.params) (.int .i64 F2.vregs) (.slice X2 F2.blocks.length x2)
      have hs := hN.1.size
      exact ⟨g7, g8, _, _, rfl, rfl, hg7, hg8, f7, f8, R_set3 (R_set3 hr1 hb7 (by decide) _ _ _) hb8' (by decide) _ _ _, R_set3 (R_set3 hr2 hb7 (by decide) _ _ _) hb8' (by decide) _ _ _,
        ((((((hN.1.setCell (p := ⟨g7, 0, none⟩) hg7 _).setCell (p := ⟨g7, 1, none⟩) hg7 _).setCell (p := ⟨g7, 2, none⟩) hg7 _).setCell (p := ⟨g8, 0, none⟩) hg8 _).setCell (p := ⟨g8, 1, none⟩) hg8 _).setCell (p := ⟨g8, 2, none⟩) hg8 _)⟩
    case rest =>
      obtain ⟨g7, g8, vb1, vb2, rfl, rfl, hg7, hg8, hb7, hb8, hR1, hR2, hB⟩ := hcut
      obtain ⟨X1, x1, rfl⟩ := Kd.R_slice hR1
      obtain ⟨X2, x2, rfl⟩ := Kd.R_slice hR2
      obtain ⟨_, hl1, hC1⟩ := Kd.R_reads' hR1
      obtain ⟨_, hl2, hC2⟩ := Kd.R_reads' hR2
      have n1 := HG1.out.n
      have n2 := HG2.out.n
      have hE1 : wfB F1.params F1.vregs F1.blocks = funcB F1.params F1.vregs F1.blocks ∧ wfE F1.params F1.vregs F1.blocks = 0 := by rw [wfB, wfE, check_good' HG1.out]; exact ⟨rfl, rfl⟩
      have hE2 : wfB F2.params F2.vregs F2.blocks = funcB F2.params F2.vregs F2.blocks ∧ wfE F2.params F2.vregs F2.blocks = 0 := by rw [wfB, wfE, check_good' HG2.out]; exact ⟨rfl, rfl⟩
      have T1 := Lib.hid (fun W hb => wfunc_calls F1.params F1.vregs F1.blocks X1 x1 W hl1 (Kd.C_below hC1 hb) (by have := funcB_len HG1.out; omega) (by omega) (good_typed HG1.out) (good_fits HG1.out))
      have T2 := Lib.hid (fun W hb => wfunc_calls F2.params F2.vregs F2.blocks X2 x2 W hl2 (Kd.C_below hC2 hb) (by have := funcB_len HG2.out; omega) (by omega) (good_typed HG2.out) (good_fits HG2.out))
      have SF := Lib.hid (fun W hb => samefuncs_calls F1.params F1.vregs F2.params F2.vregs F1.blocks F2.blocks X1 X2 x1 x2 W (Kd.C_below hC1 hb) (Kd.C_below hC2 hb) (by omega) (fun x hx => ⟨by have := (HG1.out.b x hx).1; omega, fun i hi => by have := ((HG1.out.b x hx).2.1 i hi).2.2.2.1; omega⟩))
      rw [hE1.1, hE1.2] at T1
      rw [hE2.1, hE2.2] at T2
      have e0 := cellAt hb7 0 _ rfl
      have e1 := cellAt hb7 1 _ rfl
      have e2 := cellAt hb7 2 _ rfl
      have H7 := Lib.hid hb7
      have H8 := Lib.hid hb8
      have HBB := Lib.hid hB
      clear hR1 hR2 hC1 hC2 hE1 hE2 hb7 hb8 hB
      go_wp2_with fail
      refine (T1.out _ (Below.refl _ _)).mono ?_
      rintro e w2 ⟨r1, rfl, hr1, hu1⟩
      have h72 := hu1.blk H7.out (by simp)
      have h82 := hu1.blk H8.out (by simp)
      have HU2 := Lib.hid (show Below _ _ _ from hu1.below (fun _ h => h.elim) (Nat.le_refl _))
      have HR1 := Lib.hid hr1
      clear e0 e1 e2 hr1 hu1
      have e0 := cellAt h82 0 _ rfl
      have e1 := cellAt h82 1 _ rfl
      have e2 := cellAt h82 2 _ rfl
      have H72 := Lib.hid h72
      have H82 := Lib.hid h82
      clear h72 h82
      go_wp2_with fail
      refine (T2.out _ HU2.out).mono ?_
      rintro e w3 ⟨r2, rfl, hr2, hu2⟩
      have h73 := hu2.blk H72.out (by simp)
      have h83 := hu2.blk H82.out (by simp)
      have hr1 := R_upd HR1.out hu2 (fun _ _ _ _ h => h)
      have HU3 := Lib.hid (show Below _ _ _ from below_then HU2.out HU2.out.size (hu2.below (fun _ h => h.elim) (Nat.le_refl _)))
      obtain ⟨s1, hs1⟩ : ∃ s1, strOfNums (funcB F1.params F1.vregs F1.blocks) = s1 := ⟨_, rfl⟩
      obtain ⟨s2, hs2⟩ : ∃ s2, strOfNums (funcB F2.params F2.vregs F2.blocks) = s2 := ⟨_, rfl⟩
      have hr1d := Kd.R_drew hr1
      have hr2d := Kd.R_drew hr2
      have K0 := fun W (hu : Upd (fun _ => False) w3.drew W) => R_str (R_upd hr1d hu (fun _ _ _ _ h => h))
      have K1 := fun W (hu : Upd (fun _ => False) w3.drew W) => R_str (R_upd hr2d hu (fun _ _ _ _ h => h))
      rw [hs1] at K0
      rw [hs2] at K1
      have K2 := fun W (hu : Upd (fun _ => False) w3.drew W) => cellAt (hu.blk (show w3.drew.heap[g7]? = _ from h73) (by simp)) 0 _ rfl
      have K3 := fun W (hu : Upd (fun _ => False) w3.drew W) => cellAt (hu.blk (show w3.drew.heap[g7]? = _ from h73) (by simp)) 1 _ rfl
      have K4 := fun W (hu : Upd (fun _ => False) w3.drew W) => cellAt (hu.blk (show w3.drew.heap[g7]? = _ from h73) (by simp)) 2 _ rfl
      have K5 := fun W (hu : Upd (fun _ => False) w3.drew W) => cellAt (hu.blk (show w3.drew.heap[g8]? = _ from h83) (by simp)) 0 _ rfl
      have K6 := fun W (hu : Upd (fun _ => False) w3.drew W) => cellAt (hu.blk (show w3.drew.heap[g8]? = _ from h83) (by simp)) 1 _ rfl
      have K7 := fun W (hu : Upd (fun _ => False) w3.drew W) => cellAt (hu.blk (show w3.drew.heap[g8]? = _ from h83) (by simp)) 2 _ rfl
      have k0 := K0 _ (Upd.refl _ _)
      have k1 := K1 _ (Upd.refl _ _)
      have k2 := K2 _ (Upd.refl _ _)
      have k3 := K3 _ (Upd.refl _ _)
      have k4 := K4 _ (Upd.refl _ _)
      have k5 := K5 _ (Upd.refl _ _)
      have k6 := K6 _ (Upd.refl _ _)
      have k7 := K7 _ (Upd.refl _ _)
      have HBF := Lib.hid (below_then HBB.out HBB.out.size HU3.out)
      have hSame := SF.out w3.drew (below_drew HU3.out)
      obtain ⟨sm, hsm⟩ : ∃ sm, decide (F1.params = F2.params ∧ F1.vregs = F2.vregs ∧ F1.blocks = F2.blocks) = sm := ⟨_, rfl⟩
      rw [hsm] at hSame
      have HS1 := Lib.hid hs1
      have HS2 := Lib.hid hs2
      have HSM := Lib.hid hsm
      clear hr1 hr2 hr1d hr2d hu2 h73 h83 hs1 hs2 hsm e0 e1 e2
      go_wp2_with fail
      refine start_ (n := 18) (S := fun w' => (convert 25 9 r1).run Try.prog w' = .ok (.string s1) w' ∧ (convert 25 9 r2).run Try.prog w' = .ok (.string s2) w' ∧ w'.cell? ⟨g7, 0, none⟩ = some (.int .i64 F1.params) ∧ w'.cell? ⟨g7, 1, none⟩ = some (.int .i64 F1.vregs) ∧ w'.cell? ⟨g7, 2, none⟩ = some (.slice X1 F1.blocks.length x1) ∧ w'.cell? ⟨g8, 0, none⟩ = some (.int .i64 F2.params) ∧ w'.cell? ⟨g8, 1, none⟩ = some (.int .i64 F2.vregs) ∧ w'.cell? ⟨g8, 2, none⟩ = some (.slice X2 F2.blocks.length x2)) (ds := []) #[false, false, false, false, false, false, false, false, false, false, false, false, false, false, false, false, false, false] (by kernel_rfl) rfl rfl ⟨k0, k1, k2, k3, k4, k5, k6, k7⟩ (fun hHeld => ?_)
      refine pure_ (i := 0) (N := some 31) (v := ?_) (a' := ?_) #[true, false, false, false, false, false, false, false, false, false, false, false, false, false, false, false, false, false] rfl rfl (by kernel_rfl) (fun _ _ _ h => h) (Or.inl ⟨by rfl, ?_⟩) ?_ ?_
      rotate_left
      · intro w'
        go_simp
        with_reducible rfl
      rotate_left
      · simp only [Act.put, List.setIfInBounds_toArray, List.set_cons_zero, List.set_cons_succ, i64_w, i32_w]
        rfl
      refine pure_ (i := 1) (N := some 32) (v := ?_) (a' := ?_) #[true, true, false, false, false, false, false, false, false, false, false, false, false, false, false, false, false, false] rfl rfl (by kernel_rfl) (fun _ _ _ h => h) (Or.inl ⟨by rfl, ?_⟩) ?_ ?_
      rotate_left
      · intro w'
        go_simp
        with_reducible rfl
      rotate_left
      · simp only [Act.put, List.setIfInBounds_toArray, List.set_cons_zero, List.set_cons_succ, i64_w, i32_w]
        rfl
      refine pure_ (i := 2) (N := some 33) (v := ?_) (a' := ?_) #[true, true, true, false, false, false, false, false, false, false, false, false, false, false, false, false, false, false] rfl rfl (by kernel_rfl) (fun _ _ _ h => h) (Or.inl ⟨by rfl, ?_⟩) ?_ ?_
      rotate_left
      · intro w'
        go_simp
        with_reducible rfl
      rotate_left
      · simp only [Act.put, List.setIfInBounds_toArray, List.set_cons_zero, List.set_cons_succ, i64_w, i32_w]
        rfl
      refine pure_ (i := 3) (N := some 34) (v := ?_) (a' := ?_) #[true, true, true, true, false, false, false, false, false, false, false, false, false, false, false, false, false, false] rfl rfl (by kernel_rfl) (fun _ _ _ h => h) (Or.inl ⟨by rfl, ?_⟩) ?_ ?_
      rotate_left
      · intro w'
        go_simp
        with_reducible rfl
      rotate_left
      · simp only [Act.put, List.setIfInBounds_toArray, List.set_cons_zero, List.set_cons_succ, i64_w, i32_w]
        rfl
      refine pure_ (i := 4) (N := some 35) (v := ?_) (a' := ?_) #[true, true, true, true, true, false, false, false, false, false, false, false, false, false, false, false, false, false] rfl rfl (by kernel_rfl) (fun _ _ _ h => h) (Or.inl ⟨by rfl, ?_⟩) ?_ ?_
      rotate_left
      · intro w'
        go_simp
        with_reducible rfl
      rotate_left
      · simp only [Act.put, List.setIfInBounds_toArray, List.set_cons_zero, List.set_cons_succ, i64_w, i32_w]
        rfl
      refine pure_ (i := 5) (N := some 36) (v := ?_) (a' := ?_) #[true, true, true, true, true, true, false, false, false, false, false, false, false, false, false, false, false, false] rfl rfl (by kernel_rfl) (fun _ _ _ h => h) (Or.inl ⟨by rfl, ?_⟩) ?_ ?_
      rotate_left
      · intro w'
        go_simp
        with_reducible rfl
      rotate_left
      · simp only [Act.put, List.setIfInBounds_toArray, List.set_cons_zero, List.set_cons_succ, i64_w, i32_w]
        rfl
      refine pure_ (i := 6) (N := some 37) (v := ?_) (a' := ?_) #[true, true, true, true, true, true, true, false, false, false, false, false, false, false, false, false, false, false] rfl rfl (by kernel_rfl) (fun _ _ _ h => h) (Or.inl ⟨by rfl, ?_⟩) ?_ ?_
      rotate_left
      · intro w'
        go_simp
        with_reducible rfl
      rotate_left
      · simp only [Act.put, List.setIfInBounds_toArray, List.set_cons_zero, List.set_cons_succ, i64_w, i32_w]
        rfl
      refine pure_ (i := 7) (N := some 38) (v := ?_) (a' := ?_) #[true, true, true, true, true, true, true, true, false, false, false, false, false, false, false, false, false, false] rfl rfl (by kernel_rfl) (fun _ _ _ h => h) (Or.inl ⟨by rfl, ?_⟩) ?_ ?_
      rotate_left
      · intro w'
        go_simp
        with_reducible rfl
      rotate_left
      · simp only [Act.put, List.setIfInBounds_toArray, List.set_cons_zero, List.set_cons_succ, i64_w, i32_w]
        rfl
      refine pure_ (i := 9) (N := some 40) (v := ?_) (a' := ?_) #[true, true, true, true, true, true, true, true, false, true, false, false, false, false, false, false, false, false] rfl rfl (by kernel_rfl) (fun _ _ _ h => h) (Or.inl ⟨by rfl, ?_⟩) ?_ ?_
      rotate_left
      · intro w'
        go_simp
        with_reducible rfl
      rotate_left
      · simp only [Act.put, List.setIfInBounds_toArray, List.set_cons_zero, List.set_cons_succ, i64_w, i32_w]
        rfl
      refine take_ (i := 8) (N := some 39) (v := ?_) (a' := ?_) #[true, true, true, true, true, true, true, true, true, true, false, false, false, false, false, false, false, false] rfl rfl (by kernel_rfl) (fun _ _ _ h => h) (Or.inl ⟨by rfl, ?_⟩) hHeld ?_ ?_
      rotate_left
      · rintro w' ⟨s0, s1, s2, s3, s4, s5, s6, s7⟩
        go_simp
        with_reducible rfl
      rotate_left
      · simp only [Act.put, List.setIfInBounds_toArray, List.set_cons_zero, List.set_cons_succ, i64_w, i32_w]
        rfl
      refine take_ (i := 10) (N := some 41) (v := ?_) (a' := ?_) #[true, true, true, true, true, true, true, true, true, true, true, false, false, false, false, false, false, false] rfl rfl (by kernel_rfl) (fun _ _ _ h => h) (Or.inl ⟨by rfl, ?_⟩) hHeld ?_ ?_
      rotate_left
      · rintro w' ⟨s0, s1, s2, s3, s4, s5, s6, s7⟩
        go_simp
        with_reducible rfl
      rotate_left
      · simp only [Act.put, List.setIfInBounds_toArray, List.set_cons_zero, List.set_cons_succ, i64_w, i32_w]
        rfl
      refine pure_ (i := 11) (N := some 42) (v := ?_) (a' := ?_) #[true, true, true, true, true, true, true, true, true, true, true, true, false, false, false, false, false, false] rfl rfl (by kernel_rfl) (fun _ _ _ h => h) (Or.inl ⟨by rfl, ?_⟩) ?_ ?_
      rotate_left
      · intro w'
        go_simp
        with_reducible rfl
      rotate_left
      · simp only [Act.put, List.setIfInBounds_toArray, List.set_cons_zero, List.set_cons_succ, i64_w, i32_w]
        rfl
      refine take_ (i := 12) (N := some 43) (v := ?_) (a' := ?_) #[true, true, true, true, true, true, true, true, true, true, true, true, true, false, false, false, false, false] rfl rfl (by kernel_rfl) (fun _ _ _ h => h) (Or.inl ⟨by rfl, ?_⟩) hHeld ?_ ?_
      rotate_left
      · rintro w' ⟨s0, s1, s2, s3, s4, s5, s6, s7⟩
        go_simp
        with_reducible rfl
      rotate_left
      · simp only [Act.put, List.setIfInBounds_toArray, List.set_cons_zero, List.set_cons_succ, i64_w, i32_w]
        rfl
      refine take_ (i := 13) (N := some 44) (v := ?_) (a' := ?_) #[true, true, true, true, true, true, true, true, true, true, true, true, true, true, false, false, false, false] rfl rfl (by kernel_rfl) (fun _ _ _ h => h) (Or.inl ⟨by rfl, ?_⟩) hHeld ?_ ?_
      rotate_left
      · rintro w' ⟨s0, s1, s2, s3, s4, s5, s6, s7⟩
        go_simp
        with_reducible rfl
      rotate_left
      · simp only [Act.put, List.setIfInBounds_toArray, List.set_cons_zero, List.set_cons_succ, i64_w, i32_w]
        rfl
      refine one_ (i := 14) (N := some 45) #[true, true, true, true, true, true, true, true, true, true, true, true, true, true, true, false, false, false] rfl rfl (by kernel_rfl) (by decide) (fun K hK => ?_)
      refine goes_ Try.func23 (by kernel_rfl) rfl #[.agg #[.int .i64 F1.params, .int .i64 F1.vregs, .slice X1 F1.blocks.length x1], .agg #[.int .i64 F2.params, .int .i64 F2.vregs, .slice X2 F2.blocks.length x2]] (by rfl) rfl rfl (by simp only [List.map_toArray, List.map_cons, List.map_nil]; rfl) ?_
      refine hSame.mono ?_
      rintro e w5 ⟨rfl, hU5⟩
      refine ⟨_, rfl, ?_⟩
      refine hK.out _ _ ⟨K0 _ hU5, K1 _ hU5, K2 _ hU5, K3 _ hU5, K4 _ hU5, K5 _ hU5, K6 _ hU5, K7 _ hU5⟩ (fun hHeld => ?_)
      clear hK K
      refine norm_ (a' := ?_) ?_ ?_
      rotate_left
      · show Act.put _ (some 45) _ = _
        simp only [Act.put, List.setIfInBounds_toArray, List.set_cons_zero, List.set_cons_succ, i64_w, i32_w]
        rfl
      refine pure_ (i := 15) (N := some 46) (v := ?_) (a' := ?_) #[true, true, true, true, true, true, true, true, true, true, true, true, true, true, true, true, false, false] rfl rfl (by kernel_rfl) (fun _ _ _ h => h) (Or.inl ⟨by rfl, ?_⟩) ?_ ?_
      rotate_left
      · intro w'
        go_simp
        with_reducible rfl
      rotate_left
      · simp only [Act.put, List.setIfInBounds_toArray, List.set_cons_zero, List.set_cons_succ, i64_w, i32_w]
        rfl
      refine pure_ (i := 16) (N := some 47) (v := ?_) (a' := ?_) #[true, true, true, true, true, true, true, true, true, true, true, true, true, true, true, true, true, false] rfl rfl (by kernel_rfl) (fun _ _ _ h => h) (Or.inl ⟨by rfl, ?_⟩) ?_ ?_
      rotate_left
      · intro w'
        go_simp
        with_reducible rfl
      rotate_left
      · simp only [Act.put, List.setIfInBounds_toArray, List.set_cons_zero, List.set_cons_succ, i64_w, i32_w]
        rfl
      refine pure_ (i := 17) (N := some 6) (v := ?_) (a' := ?_) #[true, true, true, true, true, true, true, true, true, true, true, true, true, true, true, true, true, true] rfl rfl (by kernel_rfl) (fun _ _ _ h => h) (Or.inl ⟨by rfl, ?_⟩) ?_ ?_
      rotate_left
      · intro w'
        go_simp
        with_reducible rfl
      rotate_left
      · simp only [Act.put, List.setIfInBounds_toArray, List.set_cons_zero, List.set_cons_succ, i64_w, i32_w]
        rfl
      refine done_ (by kernel_rfl) ?_
      go_wp2
      go_ret
      refine ⟨ret_bool ?_, below_then HBF.out HBF.out.size (below_then (below_drew (Below.refl _ _)) (Nat.le_refl _) (hU5.below (fun _ h => h.elim) (Nat.le_refl _)))⟩
      rw [← HS1.out, ← HS2.out, ← HSM.out, apart_law HG1.out HG2.out]
      simp
end Go.Proofs.Ytdmplkegjjbodaa
