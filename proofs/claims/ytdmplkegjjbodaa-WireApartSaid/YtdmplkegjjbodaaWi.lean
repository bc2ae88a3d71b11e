/- Package wire: ins: what it answers, and its walk. -/
import Derived.Test.YtdmplkegjjbodaaWn
namespace Go.Proofs.Ytdmplkegjjbodaa
set_option linter.unusedSimpArgs false
set_option linter.unusedVariables false
open Go.RowKit Go.Proofs.YtdmplkegjjbodaaW.PrintWords Go.Proofs.YtdmplkegjjbodaaW.PrintLast

def insB (i : Ins) : List Int :=
  if i.kind = 1 then nms [i.d] ++ leb (zigN i.n)
  else if i.kind = 2 ∨ i.kind = 4 ∨ i.kind = 7 ∨ i.kind = 8 then nms [i.d, i.a]
  else if i.kind = 3 then nms [i.op, i.d, i.a, i.b]
  else if i.kind = 5 then nms [i.a, i.b]
  else if i.kind = 6 then nms [i.d] ++ leb (zigN i.n) ++ nms [(i.args.length : Int)] ++ nms i.args
  else []
def insC (i : Ins) : List Int := nms [i.kind] ++ insB i

theorem lit_C {W : World} {g : Nat} (xs : List Int) (hg : g < W.heap.size) (hm : xs.length ≤ 9223372036854775807) :
    ∀ W', Upd (· = g) (W.alloc (.cells (xs.map (Value.int .i64)).toArray 3)) W' → (Kd.int .i64).C W' (some ⟨W.heap.size, 0, none⟩) xs.length xs := by
  intro W' hU
  have h := R_upd (R_ints_lit (W := W) (e := 3) (base := W.heap.size) (g := W.heap.size) xs rfl (Nat.le_refl _) hm) hU (fun k _ hk _ e => by omega)
  exact (Kd.R_reads' h).2.2
theorem Wr.alloc {w : World} {g B : Nat} {bs : List Int} (h : Wr w g B bs) (o : Obj) : Wr (w.alloc o) g B bs :=
  h.upd ((Upd.refl (fun _ => False) w).alloc o) (by simp) (by simp)
theorem Wr.drew {w : World} {g B : Nat} {bs : List Int} (h : Wr w g B bs) : Wr w.drew g B bs :=
  h.upd ((Upd.refl (fun _ => False) w).drew) (by simp) (by simp)
theorem Wr.lt {w : World} {g B : Nat} {bs : List Int} (h : Wr w g B bs) : g < w.heap.size := by
  obtain ⟨v, h1, _⟩ := h
  exact blk_lt' h1

theorem nums_lit (xs : List Int) (g B h : Nat) (bs : List Int) (w : World) (hW : Wr w g B bs) (hh : w.heap.size = h) (hl : (bs ++ nms xs).length ≤ 140737488355328) (hm : xs.length ≤ 140737488355328) :
    Calls Try.prog 47 #[.pointer (some ⟨g, 0, none⟩), .slice (some ⟨h, 0, none⟩) xs.length xs.length] (w.alloc (.cells (xs.map (Value.int .i64)).toArray 3)) (NumsPost w g B (bs ++ nms xs)) := by
  subst hh
  refine (nums_calls xs _ _ g B bs _ (hW.alloc _) (lit_C xs hW.lt (by omega)) hl hm).mono ?_
  rintro e w1 ⟨rfl, h1, h2⟩
  exact ⟨rfl, h1, ((Upd.refl _ w).alloc _).trans h2⟩

theorem Wr_put {w w0 w3 : World} {g B m c : Nat} {v0 : Value} {A : Option Addr} {l : List Int} (hF : w.heap[g]? = some (.cells #[v0] 107 (0, 0))) (hR : (Kd.int .u8).R 5 w3 w.heap.size (fun _ => True) (.slice A m c) l) (hU : Upd (fun _ => False) w w3) (hB : B ≤ w.heap.size) (h0 : Upd (· = g) w0 w) :
    Wr (w3.setCell ⟨g, 0, none⟩ (.slice A m c)) g B l ∧ Upd (· = g) w0 (w3.setCell ⟨g, 0, none⟩ (.slice A m c)) := by
  have hb := hU.blk hF (by simp)
  refine ⟨⟨.slice A m c, ?_, Kd.R_set (Kd.R_lower hR hB) hb (ints_ne (by decide)) 0 _, ?_⟩, h0.trans ((hU.mono (fun _ _ h => h.elim)).trans (Upd.set1 _ _ _ _))⟩
  · have := heap_set hb 0 (.slice A m c)
    simpa using this
  · rw [size_set]
    have := hU.size
    omega

set_option maxRecDepth 100000 in
set_option maxHeartbeats 4000000 in
theorem wins_calls (i : Ins) (A : Option Addr) (c g B : Nat) (bs : List Int) (w : World) (hW : Wr w g B bs) (hc : i.args.length ≤ c) (hC : ∀ W', Upd (· = g) w W' → (Kd.int .i64).C W' A i.args.length i.args) (hl : (bs ++ insC i).length ≤ 140737488355328) (hx : i.args.length ≤ 140737488355328)
    (hk : 0 ≤ i.kind ∧ i.kind ≤ 255) (ho : 0 ≤ i.op ∧ i.op ≤ 255) (hn : -9223372036854775808 ≤ i.n ∧ i.n ≤ 9223372036854775807) :
    Calls Try.prog 69 #[.pointer (some ⟨g, 0, none⟩), .agg (i.cells (.slice A i.args.length c)).toArray] w (NumsPost w g B (bs ++ insC i)) := by
  obtain ⟨rest, hrest⟩ : ∃ rest, insB i = rest := ⟨_, rfl⟩
  obtain ⟨l1, hl1⟩ : ∃ l1, bs ++ nms [i.kind] = l1 := ⟨_, rfl⟩
  have hfin : bs ++ insC i = l1 ++ rest := by rw [insC, hrest, ← hl1, List.append_assoc]
  rw [hfin] at hl ⊢
  clear hfin
  obtain ⟨k, op, d, a, b, n, args⟩ := i
  simp only [Ins.cells] at *
  have hgl := hW.lt
  have HW := Lib.hid hW
  have HC := Lib.hid hC
  have HR := Lib.hid hrest
  have HL1 := Lib.hid hl1
  have HL := Lib.hid hl
  clear hW hC hrest hl hl1
  go_enter Try.func69, Try.ntmps69
  go_wp2_with fail
  refine (nums_lit [k] g B (w.heap.size + 1) bs _ (HW.out.alloc _) (by simp) (by rw [HL1.out]; have := HL.out; simp at this; omega) (by simp)).mono ?_
  rintro e w1 ⟨rfl, h1, h2⟩
  rw [HL1.out] at h1
  have hU1 := Lib.hid (((Upd.refl (· = g) w).alloc _).trans h2)
  have hb1 := Lib.hid (h2.blk (heap_alloc_new w _) (by omega))
  have HW1 := Lib.hid h1
  clear h1 h2
  have c0 := cellAt hb1.out 0 _ rfl
  have c1 := cellAt hb1.out 1 _ rfl
  have c2 := cellAt hb1.out 2 _ rfl
  have c3 := cellAt hb1.out 3 _ rfl
  have c4 := cellAt hb1.out 4 _ rfl
  have c5 := cellAt hb1.out 5 _ rfl
  have c6 := cellAt hb1.out 6 _ rfl
  by_cases e2 : k = 2 ∨ k = 4 ∨ k = 7 ∨ k = 8
  · have hr : rest = nms [d, a] := by rw [← HR.out]; simp [insB, e2]; omega
    have hr := Lib.hid hr
    rcases e2 with rfl | rfl | rfl | rfl
    all_goals
      go_wp2_with fail
      refine (nums_lit [d, a] g B w1.heap.size l1 w1 HW1.out rfl (by have := HL.out; rw [hr.out] at this; exact this) (by simp)).mono ?_
      rintro e w2 ⟨rfl, h1, h2⟩
      have HW2 := Lib.hid h1
      have HU2 := Lib.hid h2
      clear h1 h2
      go_wp2
      refine bodyPost_end (results_none rfl _ _ _) rfl ⟨rfl, ?_, hU1.out.trans HU2.out⟩
      rw [hr.out]
      exact HW2.out
  by_cases e3 : k = 3
  · have hr : rest = nms [op, d, a, b] := by rw [← HR.out]; simp [insB, e3]
    have hr := Lib.hid hr
    subst e3
    all_goals
      go_wp2_with fail
      refine (nums_lit [op, d, a, b] g B w1.heap.size l1 w1 HW1.out rfl (by have := HL.out; rw [hr.out] at this; exact this) (by simp)).mono ?_
      rintro e w2 ⟨rfl, h1, h2⟩
      have HW2 := Lib.hid h1
      have HU2 := Lib.hid h2
      clear h1 h2
      go_wp2
      refine bodyPost_end (results_none rfl _ _ _) rfl ⟨rfl, ?_, hU1.out.trans HU2.out⟩
      rw [hr.out]
      exact HW2.out
  by_cases e5 : k = 5
  · have hr : rest = nms [a, b] := by rw [← HR.out]; simp [insB, e5]
    have hr := Lib.hid hr
    subst e5
    all_goals
      go_wp2_with fail
      refine (nums_lit [a, b] g B w1.heap.size l1 w1 HW1.out rfl (by have := HL.out; rw [hr.out] at this; exact this) (by simp)).mono ?_
      rintro e w2 ⟨rfl, h1, h2⟩
      have HW2 := Lib.hid h1
      have HU2 := Lib.hid h2
      clear h1 h2
      go_wp2
      refine bodyPost_end (results_none rfl _ _ _) rfl ⟨rfl, ?_, hU1.out.trans HU2.out⟩
      rw [hr.out]
      exact HW2.out
  by_cases e1 : k = 1
  · have hr : rest = nms [d] ++ leb (zigN n) := by rw [← HR.out]; simp [insB, e1]
    have hr := Lib.hid hr
    subst e1
    have HLP := Lib.hid (show ((l1 ++ nms [d]) ++ leb (zigN n)).length ≤ 140737488355328 by have := HL.out; rw [hr.out] at this; rw [List.append_assoc]; exact this)
    have hl2 : (l1 ++ nms [d]).length ≤ 140737488355328 := by have := HLP.out; rw [List.length_append] at this; omega
    have HL2 := Lib.hid hl2
    clear hl2
    all_goals
      go_wp2_with fail
      refine (nums_lit [d] g B w1.heap.size l1 w1 HW1.out rfl HL2.out (by simp)).mono ?_
      rintro e w2 ⟨rfl, h1, h2⟩
      obtain ⟨l2, hl2⟩ : ∃ l2, l1 ++ nms [d] = l2 := ⟨_, rfl⟩
      rw [hl2] at h1 HLP
      have HE2 := Lib.hid hl2
      have HW2 := Lib.hid h1
      have HU2 := Lib.hid h2
      have hb2 := Lib.hid (h2.blk hb1.out (by omega))
      clear h1 h2 c0 c1 c2 c3 c4 c5 c6 hl2
      have c5 := cellAt hb2.out 5 _ rfl
      go_wp2_with fail
      have hWd := HW2.out.drew
      obtain ⟨vw, f1, f2, f3⟩ := HW2.out
      obtain ⟨Aw, cw, rfl, hcw, hCw⟩ := Kd.R_reads f2
      have q0 := cellAt f1 0 _ rfl
      have F1 := Lib.hid f1
      have F2 := Lib.hid f2
      have HCw := Lib.hid hCw
      clear f1 f2 hCw
      refine start_ (n := 11) (S := fun w' => w'.cell? ⟨g, 0, none⟩ = some (.slice Aw l2.length cw) ∧ w'.cell? ⟨w.heap.size, 5, none⟩ = some (.int .i64 n)) (ds := [7, 10]) #[false, false, false, false, false, false, false, false, false, false, false] (by kernel_rfl) rfl rfl ⟨q0, c5⟩ (fun hHeld => ?_)
      refine pure_ (i := 0) (N := some 19) (v := ?_) (a' := ?_) #[true, false, false, false, false, false, false, false, false, false, false] rfl rfl (by kernel_rfl) (fun _ _ _ h => h) (Or.inl ⟨by rfl, ?_⟩) ?_ ?_
      rotate_left
      · intro w'
        go_simp
        with_reducible rfl
      rotate_left
      · simp only [Act.put, List.setIfInBounds_toArray, List.set_cons_zero, List.set_cons_succ, i64_w, i32_w]
        rfl
      refine pure_ (i := 1) (N := some 20) (v := ?_) (a' := ?_) #[true, true, false, false, false, false, false, false, false, false, false] rfl rfl (by kernel_rfl) (fun _ _ _ h => h) (Or.inl ⟨by rfl, ?_⟩) ?_ ?_
      rotate_left
      · intro w'
        go_simp
        with_reducible rfl
      rotate_left
      · simp only [Act.put, List.setIfInBounds_toArray, List.set_cons_zero, List.set_cons_succ, i64_w, i32_w]
        rfl
      refine pure_ (i := 2) (N := some 21) (v := ?_) (a' := ?_) #[true, true, true, false, false, false, false, false, false, false, false] rfl rfl (by kernel_rfl) (fun _ _ _ h => h) (Or.inl ⟨by rfl, ?_⟩) ?_ ?_
      rotate_left
      · intro w'
        go_simp
        with_reducible rfl
      rotate_left
      · simp only [Act.put, List.setIfInBounds_toArray, List.set_cons_zero, List.set_cons_succ, i64_w, i32_w]
        rfl
      refine pure_ (i := 3) (N := some 22) (v := ?_) (a' := ?_) #[true, true, true, true, false, false, false, false, false, false, false] rfl rfl (by kernel_rfl) (fun _ _ _ h => h) (Or.inl ⟨by rfl, ?_⟩) ?_ ?_
      rotate_left
      · intro w'
        go_simp
        with_reducible rfl
      rotate_left
      · simp only [Act.put, List.setIfInBounds_toArray, List.set_cons_zero, List.set_cons_succ, i64_w, i32_w]
        rfl
      refine take_ (i := 4) (N := some 23) (v := ?_) (a' := ?_) #[true, true, true, true, true, false, false, false, false, false, false] rfl rfl (by kernel_rfl) (fun _ _ _ h => h) (Or.inl ⟨by rfl, ?_⟩) hHeld ?_ ?_
      rotate_left
      · rintro w' ⟨s0, s1⟩
        go_simp
        with_reducible rfl
      rotate_left
      · simp only [Act.put, List.setIfInBounds_toArray, List.set_cons_zero, List.set_cons_succ, i64_w, i32_w]
        rfl
      refine pure_ (i := 5) (N := some 24) (v := ?_) (a' := ?_) #[true, true, true, true, true, true, false, false, false, false, false] rfl rfl (by kernel_rfl) (fun _ _ _ h => h) (Or.inl ⟨by rfl, ?_⟩) ?_ ?_
      rotate_left
      · intro w'
        go_simp
        with_reducible rfl
      rotate_left
      · simp only [Act.put, List.setIfInBounds_toArray, List.set_cons_zero, List.set_cons_succ, i64_w, i32_w]
        rfl
      refine take_ (i := 6) (N := some 25) (v := ?_) (a' := ?_) #[true, true, true, true, true, true, true, false, false, false, false] rfl rfl (by kernel_rfl) (fun _ _ _ h => h) (Or.inl ⟨by rfl, ?_⟩) hHeld ?_ ?_
      rotate_left
      · rintro w' ⟨s0, s1⟩
        go_simp
        with_reducible rfl
      rotate_left
      · simp only [Act.put, List.setIfInBounds_toArray, List.set_cons_zero, List.set_cons_succ, i64_w, i32_w]
        rfl
      refine last_ (i := 7) (N := some 26) #[true, true, true, true, true, true, true, true, false, false, false] rfl rfl (by kernel_rfl) (by decide) (fun K hK => ?_)
      refine goes_ Try.func88 (by kernel_rfl) rfl #[.slice Aw l2.length cw, .int .i64 n] (by rfl) rfl rfl (by (try simp only [List.map_toArray, List.map_cons, List.map_nil]); first | done | rfl) ?_
      refine (putInt_calls l2 Aw cw n _ hcw (Kd.C_drew HCw.out) HLP.out hn).mono ?_
      rintro e w3 ⟨v3, rfl, hR3, hU3⟩
      refine ⟨_, rfl, ?_⟩
      obtain ⟨A3, c3', rfl⟩ := Kd.R_slice hR3
      rw [List.length_append] at hR3
      have hb3 := hU3.blk (show w2.drew.heap[g]? = _ from F1.out) (by simp)
      refine hK.out _ _ ?_
      clear hK K
      refine norm_ (a' := ?_) ?_ ?_
      rotate_left
      · show Act.put _ (some 26) _ = _
        simp only [Act.put, List.setIfInBounds_toArray, List.set_cons_zero, List.set_cons_succ, i64_w, i32_w]
        rfl
      refine pure_ (i := 8) (N := some 27) (v := ?_) (a' := ?_) #[true, true, true, true, true, true, true, true, true, false, false] rfl rfl (by kernel_rfl) (fun _ _ _ h => h) (Or.inl ⟨by rfl, ?_⟩) ?_ ?_
      rotate_left
      · intro w'
        go_simp
        with_reducible rfl
      rotate_left
      · simp only [Act.put, List.setIfInBounds_toArray, List.set_cons_zero, List.set_cons_succ, i64_w, i32_w]
        rfl
      refine pure_ (i := 9) (N := some 28) (v := ?_) (a' := ?_) #[true, true, true, true, true, true, true, true, true, true, false] rfl rfl (by kernel_rfl) (fun _ _ _ h => h) (Or.inl ⟨by rfl, ?_⟩) ?_ ?_
      rotate_left
      · intro w'
        go_simp
        with_reducible rfl
      rotate_left
      · simp only [Act.put, List.setIfInBounds_toArray, List.set_cons_zero, List.set_cons_succ, i64_w, i32_w]
        rfl
      refine last_ (i := 10) (N := none) #[true, true, true, true, true, true, true, true, true, true, true] rfl rfl (by kernel_rfl) (by decide) (fun K hK => ?_)
      refine skip_ (w1 := ?_) (by rfl) rfl ?_ ?_
      rotate_left
      · have q0 := cellAt hb3 0 _ rfl
        have z0 := froz hb3 0
        go_simp
        rfl
      refine hK.out _ _ ?_
      clear hK K
      refine done_ (by kernel_rfl) ?_
      obtain ⟨g1, g2⟩ := Wr_put (w := w2.drew) (B := B) (w0 := w) F1.out hR3 hU3 f3 ((hU1.out.trans HU2.out).drew)
      refine bodyPost_end (results_none rfl _ _ _) rfl ⟨rfl, ?_, g2⟩
      rw [hr.out, ← List.append_assoc, HE2.out]
      exact g1
  by_cases e6 : k = 6
  · have hr : rest = nms [d] ++ leb (zigN n) ++ nms [(args.length : Int)] ++ nms args := by rw [← HR.out]; simp [insB, e6]
    have hr := Lib.hid hr
    subst e6
    have HLP := Lib.hid (show ((l1 ++ nms [d]) ++ leb (zigN n)).length ≤ 140737488355328 by have := HL.out; rw [hr.out] at this; simp only [List.length_append] at this ⊢; omega)
    have hl2 : (l1 ++ nms [d]).length ≤ 140737488355328 := by have := HLP.out; rw [List.length_append] at this; omega
    have HL2 := Lib.hid hl2
    clear hl2
    all_goals
      go_wp2_with fail
      refine (nums_lit [d] g B w1.heap.size l1 w1 HW1.out rfl HL2.out (by simp)).mono ?_
      rintro e w2 ⟨rfl, h1, h2⟩
      obtain ⟨l2, hl2⟩ : ∃ l2, l1 ++ nms [d] = l2 := ⟨_, rfl⟩
      rw [hl2] at h1 HLP
      have HE2 := Lib.hid hl2
      have HW2 := Lib.hid h1
      have HU2 := Lib.hid h2
      have hb2 := Lib.hid (h2.blk hb1.out (by omega))
      clear h1 h2 c0 c1 c2 c3 c4 c5 c6 hl2
      have c5 := cellAt hb2.out 5 _ rfl
      go_wp2_with fail
      have hWd := HW2.out.drew
      obtain ⟨vw, f1, f2, f3⟩ := HW2.out
      obtain ⟨Aw, cw, rfl, hcw, hCw⟩ := Kd.R_reads f2
      have q0 := cellAt f1 0 _ rfl
      have F1 := Lib.hid f1
      have F2 := Lib.hid f2
      have HCw := Lib.hid hCw
      clear f1 f2 hCw
      refine start_ (n := 11) (S := fun w' => w'.cell? ⟨g, 0, none⟩ = some (.slice Aw l2.length cw) ∧ w'.cell? ⟨w.heap.size, 5, none⟩ = some (.int .i64 n)) (ds := [7, 10]) #[false, false, false, false, false, false, false, false, false, false, false] (by kernel_rfl) rfl rfl ⟨q0, c5⟩ (fun hHeld => ?_)
      refine pure_ (i := 0) (N := some 71) (v := ?_) (a' := ?_) #[true, false, false, false, false, false, false, false, false, false, false] rfl rfl (by kernel_rfl) (fun _ _ _ h => h) (Or.inl ⟨by rfl, ?_⟩) ?_ ?_
      rotate_left
      · intro w'
        go_simp
        with_reducible rfl
      rotate_left
      · simp only [Act.put, List.setIfInBounds_toArray, List.set_cons_zero, List.set_cons_succ, i64_w, i32_w]
        rfl
      refine pure_ (i := 1) (N := some 72) (v := ?_) (a' := ?_) #[true, true, false, false, false, false, false, false, false, false, false] rfl rfl (by kernel_rfl) (fun _ _ _ h => h) (Or.inl ⟨by rfl, ?_⟩) ?_ ?_
      rotate_left
      · intro w'
        go_simp
        with_reducible rfl
      rotate_left
      · simp only [Act.put, List.setIfInBounds_toArray, List.set_cons_zero, List.set_cons_succ, i64_w, i32_w]
        rfl
      refine pure_ (i := 2) (N := some 73) (v := ?_) (a' := ?_) #[true, true, true, false, false, false, false, false, false, false, false] rfl rfl (by kernel_rfl) (fun _ _ _ h => h) (Or.inl ⟨by rfl, ?_⟩) ?_ ?_
      rotate_left
      · intro w'
        go_simp
        with_reducible rfl
      rotate_left
      · simp only [Act.put, List.setIfInBounds_toArray, List.set_cons_zero, List.set_cons_succ, i64_w, i32_w]
        rfl
      refine pure_ (i := 3) (N := some 74) (v := ?_) (a' := ?_) #[true, true, true, true, false, false, false, false, false, false, false] rfl rfl (by kernel_rfl) (fun _ _ _ h => h) (Or.inl ⟨by rfl, ?_⟩) ?_ ?_
      rotate_left
      · intro w'
        go_simp
        with_reducible rfl
      rotate_left
      · simp only [Act.put, List.setIfInBounds_toArray, List.set_cons_zero, List.set_cons_succ, i64_w, i32_w]
        rfl
      refine take_ (i := 4) (N := some 75) (v := ?_) (a' := ?_) #[true, true, true, true, true, false, false, false, false, false, false] rfl rfl (by kernel_rfl) (fun _ _ _ h => h) (Or.inl ⟨by rfl, ?_⟩) hHeld ?_ ?_
      rotate_left
      · rintro w' ⟨s0, s1⟩
        go_simp
        with_reducible rfl
      rotate_left
      · simp only [Act.put, List.setIfInBounds_toArray, List.set_cons_zero, List.set_cons_succ, i64_w, i32_w]
        rfl
      refine pure_ (i := 5) (N := some 76) (v := ?_) (a' := ?_) #[true, true, true, true, true, true, false, false, false, false, false] rfl rfl (by kernel_rfl) (fun _ _ _ h => h) (Or.inl ⟨by rfl, ?_⟩) ?_ ?_
      rotate_left
      · intro w'
        go_simp
        with_reducible rfl
      rotate_left
      · simp only [Act.put, List.setIfInBounds_toArray, List.set_cons_zero, List.set_cons_succ, i64_w, i32_w]
        rfl
      refine take_ (i := 6) (N := some 77) (v := ?_) (a' := ?_) #[true, true, true, true, true, true, true, false, false, false, false] rfl rfl (by kernel_rfl) (fun _ _ _ h => h) (Or.inl ⟨by rfl, ?_⟩) hHeld ?_ ?_
      rotate_left
      · rintro w' ⟨s0, s1⟩
        go_simp
        with_reducible rfl
      rotate_left
      · simp only [Act.put, List.setIfInBounds_toArray, List.set_cons_zero, List.set_cons_succ, i64_w, i32_w]
        rfl
      refine last_ (i := 7) (N := some 78) #[true, true, true, true, true, true, true, true, false, false, false] rfl rfl (by kernel_rfl) (by decide) (fun K hK => ?_)
      refine goes_ Try.func88 (by kernel_rfl) rfl #[.slice Aw l2.length cw, .int .i64 n] (by rfl) rfl rfl (by (try simp only [List.map_toArray, List.map_cons, List.map_nil]); first | done | rfl) ?_
      refine (putInt_calls l2 Aw cw n _ hcw (Kd.C_drew HCw.out) HLP.out hn).mono ?_
      rintro e w3 ⟨v3, rfl, hR3, hU3⟩
      refine ⟨_, rfl, ?_⟩
      obtain ⟨A3, c3', rfl⟩ := Kd.R_slice hR3
      rw [List.length_append] at hR3
      have hb3 := hU3.blk (show w2.drew.heap[g]? = _ from F1.out) (by simp)
      refine hK.out _ _ ?_
      clear hK K
      refine norm_ (a' := ?_) ?_ ?_
      rotate_left
      · show Act.put _ (some 78) _ = _
        simp only [Act.put, List.setIfInBounds_toArray, List.set_cons_zero, List.set_cons_succ, i64_w, i32_w]
        rfl
      refine pure_ (i := 8) (N := some 79) (v := ?_) (a' := ?_) #[true, true, true, true, true, true, true, true, true, false, false] rfl rfl (by kernel_rfl) (fun _ _ _ h => h) (Or.inl ⟨by rfl, ?_⟩) ?_ ?_
      rotate_left
      · intro w'
        go_simp
        with_reducible rfl
      rotate_left
      · simp only [Act.put, List.setIfInBounds_toArray, List.set_cons_zero, List.set_cons_succ, i64_w, i32_w]
        rfl
      refine pure_ (i := 9) (N := some 80) (v := ?_) (a' := ?_) #[true, true, true, true, true, true, true, true, true, true, false] rfl rfl (by kernel_rfl) (fun _ _ _ h => h) (Or.inl ⟨by rfl, ?_⟩) ?_ ?_
      rotate_left
      · intro w'
        go_simp
        with_reducible rfl
      rotate_left
      · simp only [Act.put, List.setIfInBounds_toArray, List.set_cons_zero, List.set_cons_succ, i64_w, i32_w]
        rfl
      refine last_ (i := 10) (N := none) #[true, true, true, true, true, true, true, true, true, true, true] rfl rfl (by kernel_rfl) (by decide) (fun K hK => ?_)
      refine skip_ (w1 := ?_) (by rfl) rfl ?_ ?_
      rotate_left
      · have q0 := cellAt hb3 0 _ rfl
        have z0 := froz hb3 0
        go_simp
        rfl
      refine hK.out _ _ ?_
      clear hK K
      refine done_ (by kernel_rfl) ?_
      obtain ⟨g1, g2⟩ := Wr_put (w := w2.drew) (B := B) (w0 := w) F1.out hR3 hU3 f3 ((hU1.out.trans HU2.out).drew)
      have hb4 := blk_far ((hU3.trans (Upd.refl _ _)).blk (show w2.drew.heap[w.heap.size]? = _ from hb2.out) (by simp)) (p := ⟨g, 0, none⟩) (by show w.heap.size ≠ g; omega) (.slice A3 (l2.length + (leb (zigN n)).length) c3')
      obtain ⟨w4, hw4⟩ : ∃ w4, w4 = w3.setCell ⟨g, 0, none⟩ (.slice A3 (l2.length + (leb (zigN n)).length) c3') := ⟨_, rfl⟩
      rw [← hw4] at g1 g2 hb4 ⊢
      obtain ⟨l3, hl3⟩ : ∃ l3, l2 ++ leb (zigN n) = l3 := ⟨_, rfl⟩
      rw [hl3] at g1
      have HE3 := Lib.hid hl3
      have HG1 := Lib.hid g1
      have HG2 := Lib.hid g2
      have c6 := cellAt hb4 6 _ rfl
      have HB4 := Lib.hid hb4
      have HLR := Lib.hid (show ((l3 ++ nms [(args.length : Int)]) ++ nms args).length ≤ 140737488355328 by have := HL.out; rw [hr.out] at this; rw [← HE3.out, ← HE2.out]; simp only [List.length_append] at this ⊢; omega)
      have hle : (l3 ++ nms [(args.length : Int)]).length ≤ 140737488355328 := by have := HLR.out; rw [List.length_append] at this; omega
      have HLE := Lib.hid hle
      clear hw4 hl3 g1 g2 hb4 hle hWd hR3 hU3 hb3
      go_wp2_with fail
      refine (nums_lit [(args.length : Int)] g B w4.heap.size l3 w4 HG1.out rfl HLE.out (by simp)).mono ?_
      rintro e w5 ⟨rfl, h1, h2⟩
      have HW5 := Lib.hid h1
      have HU5 := Lib.hid (HG2.out.trans h2)
      have hb5 := h2.blk HB4.out (by omega)
      clear h1 h2 c6 c5
      have c6 := cellAt hb5 6 _ rfl
      clear hb5
      go_wp2_with fail
      refine (nums_calls args A c g B _ w5 HW5.out (fun W' hu => HC.out W' (HU5.out.trans hu)) HLR.out hx).mono ?_
      rintro e w6 ⟨rfl, h1, h2⟩
      have HW6 := Lib.hid h1
      have HU6 := Lib.hid (HU5.out.trans h2)
      clear h1 h2
      go_wp2
      refine bodyPost_end (results_none rfl _ _ _) rfl ⟨rfl, ?_, HU6.out⟩
      have e : l1 ++ rest = l3 ++ nms [(args.length : Int)] ++ nms args := by
        rw [hr.out, ← HE3.out, ← HE2.out]
        simp only [List.append_assoc]
      rw [e]
      exact HW6.out
  · have hr : rest = [] := by rw [← HR.out]; simp [insB, e1, e2, e3, e5, e6]
    have hr := Lib.hid hr
    have z1 : (k == 1) = false := by simpa using e1
    have z2 : (k == 2) = false := by simp; omega
    have z3 : (k == 3) = false := by simp; omega
    have z4 : (k == 4) = false := by simp; omega
    have z5 : (k == 5) = false := by simp; omega
    have z6 : (k == 6) = false := by simp; omega
    have z7 : (k == 7) = false := by simp; omega
    have z8 : (k == 8) = false := by simp; omega
    clear e1 e2 e3 e5 e6
    go_wp2
    refine bodyPost_end (results_none rfl _ _ _) rfl ⟨rfl, ?_, hU1.out⟩
    rw [hr.out, List.append_nil]
    exact HW1.out
end Go.Proofs.Ytdmplkegjjbodaa
