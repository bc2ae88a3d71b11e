/- maker.ins at calls, and for every kind. -/
import Derived.Test.YtdmplkegjjbodaaMk
import Derived.Deep.RegionHeld3
import Derived.Deep.AppendLies
import Derived.Deep.LoopGhost
import Derived.Deep.DeepMust
import Derived.Test.YtdmplkegjjbodaaWTab
namespace Go.Proofs.Ytdmplkegjjbodaa
set_option linter.unusedSimpArgs false
set_option linter.unusedVariables false
open Go.RowKit Go.Proofs.YtdmplkegjjbodaaW.PrintWords Go.Proofs.YtdmplkegjjbodaaW.PrintLast

set_option maxRecDepth 100000 in
set_option maxHeartbeats 1000000 in
theorem ins_call (w0 w : World) (g : Nat) (xs ys : List Int) (v : Int) (hv0 : 0 < v) (hv : v ≤ 1000) (h : Mk w0 w g xs) (hk : nx xs 9 = 5) (hys : Hid (ys = xs.tail.tail.tail.tail)) :
    Calls Try.prog 45 #[.pointer (some ⟨g, 0, none⟩), .int .i64 v] w (InsPost w0 w g ⟨6, 0, nx xs.tail v, 0, 0, nx xs.tail.tail 5, (List.range (nx xs.tail.tail.tail 4).toNat).map fun i => nx (ys.drop i) v⟩ (ys.drop (nx xs.tail.tail.tail 4).toNat)) := by
  have hz := Lib.hid (h.lt)
  obtain ⟨m, hm, hm4⟩ : ∃ m : Nat, nx xs.tail.tail.tail 4 = m ∧ m < 4 := by
    have := nx_range xs.tail.tail.tail 4 (by omega)
    exact ⟨(nx xs.tail.tail.tail 4).toNat, by omega, by omega⟩
  go_enter Try.func45, Try.ntmps45
  go_wp2_with fail
  refine (next_calls w0 _ g xs 9 (by omega) (by omega) (h.alloc _)).mono ?_
  rintro e w1 ⟨rfl, h1, k1⟩
  have k1 := Lib.hid k1
  go_wp2_with fail
  refine (next_calls w0 _ g _ v (by omega) (by omega) h1).mono ?_
  rintro e w2 ⟨rfl, h2, k2⟩
  have k2 := Lib.hid k2
  go_wp2_with fail
  refine (next_calls w0 _ g _ 5 (by omega) (by omega) h2).mono ?_
  rintro e w3 ⟨rfl, h3, k3⟩
  have k3 := Lib.hid k3
  have hr2 := nx_range xs.tail v (by omega)
  have hr3 := nx_range xs.tail.tail 5 (by omega)
  go_wp2_with fail
  refine (next_calls w0 _ g _ 4 (by omega) (by omega) (h3.alloc _)).mono ?_
  rintro e w4 ⟨rfl, h4, k4⟩
  have k4 := Lib.hid k4
  rw [← hys.out] at h4
  rw [hm]
  have kA := Lib.hid (k1.out.trans (k2.out.trans k3.out))
  have hb4 := Lib.hid (k4.out.blk ((Below.heap_alloc _ _ _ (by have := kA.out.size; simp at this; omega)).trans (kA.out.blk (heap_alloc_new w _) (by have := hz.out; omega))) (by have := hz.out; omega))
  have hs3 : w.heap.size < w3.heap.size := by have := kA.out.size; simp at this; omega
  have hb6 := Lib.hid (k4.out.blk (heap_alloc_new w3 _) (by have := hz.out; omega))
  have kk := Lib.hid (((Upd.refl (· = g) w).alloc _).trans (kA.out.trans (((Upd.refl (· = g) w3).alloc _).trans k4.out)))
  go_wp2_with fail
  go_loopw [53] (fun i wr => ∃ (j : Nat) (va : Value), j ≤ m ∧ i = .int .i64 j ∧ Mk w0 wr g (ys.drop j) ∧
      (Kd.int .i64).R 3 wr (w.heap.size + 1) (fun _ => True) va ((List.range j).map fun i => nx (ys.drop i) v) ∧
      wr.heap[w.heap.size]? = some (.cells #[.int .u8 0, .int .u8 0, .int .i64 0, .int .i64 0, .int .i64 0, .int .i64 0, .slice none 0 0] 82 (0, 0)) ∧
      wr.heap[w3.heap.size]? = some (.cells #[.int .u8 6, .int .u8 0, .int .i64 (nx xs.tail v), .int .i64 0, .int .i64 0, .int .i64 (nx xs.tail.tail 5), va] 82 (0, 0)) ∧
      Upd (· = g) w wr) (fun i _ => m - (intOf i).toNat)
  case atStart => exact ⟨0, _, by omega, rfl, h4, Kd.R_nil _ _ _ _ _, hb4.out, hb6.out, kk.out⟩
  case round =>
    obtain ⟨j, va, hj, rfl, hM, hR, hB4, hB6, hU⟩ := hrel
    have hgz : g < w.heap.size := hz.out
    have hcv : wr.cell? ⟨w3.heap.size, 6, none⟩ = some va := cellAt hB6 6 _ rfl
    have hsz : w3.heap.size < wr.heap.size := blk_lt' hB6
    have hB4 := Lib.hid hB4
    have hB6 := Lib.hid hB6
    have hU := Lib.hid hU
    have hR := Lib.hid hR
    by_cases hlt : j < m
    · have hl : ((List.map (fun i => nx (List.drop i ys) v) (List.range j)).length + 1) * 8 ≤ 140737488355328 := by
        rw [List.length_map, List.length_range]
        omega
      have hl := Lib.hid hl
      go_wp2_with fail
      refine start_ (n := 9) (S := fun w' => w'.cell? ⟨w3.heap.size, 6, none⟩ = some va) (ds := [6, 8]) #[false, false, false, false, false, false, false, false, false] (by kernel_rfl) rfl rfl hcv (fun hHeld => ?_)
      refine pure_ (i := 0) (N := some 55) (v := ?_) (a' := ?_) #[true, false, false, false, false, false, false, false, false] rfl rfl (by kernel_rfl) (fun _ _ _ h => h) (Or.inl ⟨by rfl, ?_⟩) ?_ ?_
      rotate_left
      · intro w'
        go_simp
        with_reducible rfl
      rotate_left
      · simp only [Act.put, List.setIfInBounds_toArray, List.set_cons_zero, List.set_cons_succ, i64_w, i32_w]
        rfl
      refine take_ (i := 1) (N := some 56) (v := ?_) (a' := ?_) #[true, true, false, false, false, false, false, false, false] rfl rfl (by kernel_rfl) (fun _ _ _ h => h) (Or.inl ⟨by rfl, ?_⟩) hHeld ?_ ?_
      rotate_left
      · rintro w' s0
        go_simp
        with_reducible rfl
      rotate_left
      · simp only [Act.put, List.setIfInBounds_toArray, List.set_cons_zero, List.set_cons_succ, i64_w, i32_w]
        rfl
      refine pure_ (i := 2) (N := some 57) (v := ?_) (a' := ?_) #[true, true, true, false, false, false, false, false, false] rfl rfl (by kernel_rfl) (fun _ _ _ h => h) (Or.inl ⟨by rfl, ?_⟩) ?_ ?_
      rotate_left
      · intro w'
        go_simp
        with_reducible rfl
      rotate_left
      · simp only [Act.put, List.setIfInBounds_toArray, List.set_cons_zero, List.set_cons_succ, i64_w, i32_w]
        rfl
      refine pure_ (i := 3) (N := some 58) (v := ?_) (a' := ?_) #[true, true, true, true, false, false, false, false, false] rfl rfl (by kernel_rfl) (fun _ _ _ h => h) (Or.inl ⟨by rfl, ?_⟩) ?_ ?_
      rotate_left
      · intro w'
        go_simp
        with_reducible rfl
      rotate_left
      · simp only [Act.put, List.setIfInBounds_toArray, List.set_cons_zero, List.set_cons_succ, i64_w, i32_w]
        rfl
      refine one_ (i := 4) (N := some 59) #[true, true, true, true, true, false, false, false, false] rfl rfl (by kernel_rfl) (by decide) (fun K hK => ?_)
      refine goes_ Try.func44 (by kernel_rfl) rfl #[.pointer (some ⟨g, 0, none⟩), .int .i64 v] (by rfl) rfl rfl (by (try simp only [List.map_toArray, List.map_cons, List.map_nil]); first | done | rfl) ?_
      refine (next_calls w0 _ g _ v (by omega) (by omega) hM.drew).mono ?_
      rintro e w5 ⟨rfl, h5, k5⟩
      refine ⟨_, rfl, ?_⟩
      have hB6' := k5.blk (show wr.drew.heap[w3.heap.size]? = _ from hB6.out) (by omega)
      have hcv' : w5.cell? ⟨w3.heap.size, 6, none⟩ = some va := cellAt hB6' 6 _ rfl
      have hR5 := R_upd (R_upd hR.out ((Upd.refl (fun _ => False) _).drew) (fun _ _ _ _ h => h)) k5 (fun k _ hk _ e => by omega)
      have hbase : w.heap.size + 1 ≤ w5.heap.size := by
        have := k5.size
        have e : wr.drew.heap.size = wr.heap.size := rfl
        omega
      obtain ⟨y, hy⟩ : ∃ y, y = nx (List.drop j ys) v := ⟨_, rfl⟩
      rw [← hy]
      have hY := Lib.hid hy
      clear hy
      refine hK.out _ _ hcv' (fun hHeld => ?_)
      clear hK K
      refine norm_ (a' := ?_) ?_ ?_
      rotate_left
      · show Act.put _ (some 59) _ = _
        simp only [Act.put, List.setIfInBounds_toArray, List.set_cons_zero, List.set_cons_succ, i64_w, i32_w]
        rfl
      refine one_ (i := 5) (N := some 60) #[true, true, true, true, true, true, false, false, false] rfl rfl (by kernel_rfl) (by decide) (fun K hK => ?_)
      refine value_ (w1 := ?_) (v := ?_) (by rfl) rfl ?_ ?_
      rotate_left
      rotate_left
      · go_simp
        first | rfl | (constructor <;> rfl)
      refine hK.out _ _ ((World.cell?_alloc_some w5 _ _ (by rw [hcv']; rfl)).trans hcv') (fun hHeld => ?_)
      clear hK K
      refine norm_ (a' := ?_) ?_ ?_
      rotate_left
      · show Act.put _ (some 60) _ = _
        simp only [Act.put, List.setIfInBounds_toArray, List.set_cons_zero, List.set_cons_succ, i64_w, i32_w]
        rfl
      refine last_ (i := 6) (N := some 61) #[true, true, true, true, true, true, true, false, false] rfl rfl (by kernel_rfl) (by decide) (fun K hK => ?_)
      refine Kd.R_append_step (Kd.int .i64) (w0 := w5) (w.heap.size + 1) (by rfl) (.tmp 56) (.tmp 60) 80 3 (.int .i64 0) 8 (by rfl) Try.underlying80 infoI rfl (by decide) (by decide) va _ y [.int .i64 y] (fun _ => True) (fun _ => False) (by rfl) (by rfl) rfl (fun _ h => h.elim) (fun _ _ => trivial) hR5 (Below.refl _ _) hbase hl.out ?_
      intro v1 w6 hR6 _ hg6 hat6
      have hB6'' := (Upd.of_grown hg6).blk hB6' (Kd.R_ne hR5 hB6' (by decide))
      obtain ⟨A1, c1, rfl⟩ := Kd.R_slice hR6
      refine hK.out _ _ ?_
      clear hK K
      refine norm_ (a' := ?_) ?_ ?_
      rotate_left
      · show Act.put _ (some 61) _ = _
        simp only [Act.put, List.setIfInBounds_toArray, List.set_cons_zero, List.set_cons_succ, i64_w, i32_w]
        rfl
      refine pure_ (i := 7) (N := some 62) (v := ?_) (a' := ?_) #[true, true, true, true, true, true, true, true, false] rfl rfl (by kernel_rfl) (fun _ _ _ h => h) (Or.inl ⟨by rfl, ?_⟩) ?_ ?_
      rotate_left
      · intro w'
        go_simp
        with_reducible rfl
      rotate_left
      · simp only [Act.put, List.setIfInBounds_toArray, List.set_cons_zero, List.set_cons_succ, i64_w, i32_w]
        rfl
      refine last_ (i := 8) (N := none) #[true, true, true, true, true, true, true, true, true] rfl rfl (by kernel_rfl) (by decide) (fun K hK => ?_)
      refine skip_ (w1 := ?_) (by rfl) rfl ?_ ?_
      rotate_left
      · have hc6 := cellAt hB6'' 6 _ rfl
        have hf6 := froz hB6'' 6
        go_simp
        rfl
      refine hK.out _ _ ?_
      clear hK K
      refine done_ (by kernel_rfl) ?_
      have hU6 := (((hU.out.drew).trans k5).then_ (Upd.of_grown hg6) (fun k hk he => by have := Kd.R_base hR5 k he.symm; omega))
      have hlen : (List.map (fun i => nx (List.drop i ys) v) (List.range j) ++ [y]).length = j + 1 := by simp
      have hls : List.map (fun i => nx (List.drop i ys) v) (List.range j) ++ [y] = List.map (fun i => nx (List.drop i ys) v) (List.range (j + 1)) := by rw [List.range_succ, List.map_append, List.map_singleton, hY.out]
      rw [hlen] at hR6
      rw [hls] at hR6
      have hM6 := (h5.upd (Upd.of_grown hg6) (fun k he => ⟨by have := Kd.R_base hR5 k he.symm; have := h.low.size; omega, by have := Kd.R_base hR5 k he.symm; omega⟩)).upd (Upd.set1 w6 w3.heap.size 6 (.slice A1 (j + 1) c1)) (fun k he => ⟨by have := h.low.size; omega, by omega⟩)
      rw [List.tail_drop] at hM6
      have hB4' := (k5.blk (show wr.drew.heap[w.heap.size]? = _ from hB4.out) (by omega))
      have hB4' := ((Upd.of_grown hg6).blk hB4' (Kd.R_ne hR5 hB4' (by decide)))
      have hB4' := (Upd.set1 w6 w3.heap.size 6 (.slice A1 (j + 1) c1)).blk hB4' (by omega)
      have hfin := Lib.hid (And.intro hM6 (And.intro (Kd.R_set hR6 hB6'' (ints_ne (by decide)) 6 (.slice A1 (j + 1) c1)) (And.intro hB4' (And.intro (heap_set hB6'' 6 (.slice A1 (j + 1) c1)) (hU6.set_ (p := ⟨w3.heap.size, 6, none⟩) (.inr (by show w.heap.size ≤ w3.heap.size; omega)) (.slice A1 (j + 1) c1))))))
      clear hU6 hM6 hB4' hR6 hB6'' hg6 hat6 hHeld hR5 hcv' hB6' k5 h5
      go_wp2
      go_roundw
      case rel => exact ⟨j + 1, _, by omega, by go_num, hfin.out.1, hfin.out.2.1, hfin.out.2.2.1, hfin.out.2.2.2.1, hfin.out.2.2.2.2⟩
      case measure => simp [intOf]; omega
    · obtain rfl : j = m := by omega
      have hc4 := fun q u e => cellAt hB4.out q u e
      have hz0 := hc4 0 _ rfl
      have hz1 := hc4 1 _ rfl
      have hz2 := hc4 2 _ rfl
      have hz3 := hc4 3 _ rfl
      have hz4 := hc4 4 _ rfl
      have hz5 := hc4 5 _ rfl
      have hz6 := hc4 6 _ rfl
      clear hc4
      have hf4 := froz hB4.out
      have hc6 := fun q u e => cellAt hB6.out q u e
      have hy0 := hc6 0 _ rfl
      have hy1 := hc6 1 _ rfl
      have hy2 := hc6 2 _ rfl
      have hy3 := hc6 3 _ rfl
      have hy4 := hc6 4 _ rfl
      have hy5 := hc6 5 _ rfl
      clear hc6
      obtain ⟨A1, c1, rfl⟩ := Kd.R_slice hR.out
      have hM := Lib.hid hM
      go_wp2
      refine bodyPost_ret (results_cell_row rfl _ _ w.heap.size 82 _ _ _ rfl (set7 hB4.out _ _ _ _ _ _ _) Try.underlying82 rfl sizeIns) rfl ?_
      have hlen : (List.map (fun i => nx (List.drop i ys) v) (List.range j)).length = j := by simp
      have hR1 := hR.out
      rw [hlen] at hR1
      rw [hm, Int.toNat_natCast]
      refine ⟨.slice A1 j c1, rfl, Kd.R_lower (R_upd hR1 (upd7_own _ _ _ _ _ _ _) (fun k _ hk _ e => by omega)) (by omega), hM.out.upd (upd7_own _ _ _ _ _ _ _) ?_, upd7 hU.out (.inr (Nat.le_refl _)) _ _ _ _ _ _ _⟩
      rintro k rfl
      exact ⟨h.low.size, fun e => by have := hz.out; omega⟩

theorem ins_calls (w0 w : World) (g : Nat) (xs : List Int) (v : Int) (hv0 : 0 < v) (hv : v ≤ 1000) (h : Mk w0 w g xs) :
    Calls Try.prog 45 #[.pointer (some ⟨g, 0, none⟩), .int .i64 v] w (InsPost w0 w g (mkIns xs v).1 (mkIns xs v).2) := by
  have hr := nx_range xs 9 (by omega)
  have h0 : nx xs 9 = 0 ∨ nx xs 9 = 1 ∨ nx xs 9 = 2 ∨ nx xs 9 = 3 ∨ nx xs 9 = 4 ∨ nx xs 9 = 5 ∨ nx xs 9 = 6 ∨ nx xs 9 = 7 ∨ nx xs 9 = 8 := by omega
  rcases h0 with hk | hk | hk | hk | hk | hk | hk | hk | hk
  · have e : mkIns xs v = (⟨1, 0, nx xs.tail v, 0, 0, nx xs.tail.tail 256 - 3, []⟩, xs.tail.tail.tail) := by simp [mkIns, hk]
    rw [e]; exact ins_const w0 w g xs v hv0 hv h hk
  · have e : mkIns xs v = (⟨2, 0, nx xs.tail v, nx xs.tail.tail v, 0, 0, []⟩, xs.tail.tail.tail) := by simp [mkIns, hk]
    rw [e]; exact ins_move2 w0 w g xs v hv0 hv h hk
  · have e : mkIns xs v = (⟨3, 1 + nx xs.tail 7, nx xs.tail.tail v, nx xs.tail.tail.tail v, nx xs.tail.tail.tail.tail v, 0, []⟩, xs.tail.tail.tail.tail.tail) := by simp [mkIns, hk]
    rw [e]; exact ins_bin2 w0 w g xs v hv0 hv h hk
  · have e : mkIns xs v = (⟨4, 0, nx xs.tail v, nx xs.tail.tail v, 0, 0, []⟩, xs.tail.tail.tail) := by simp [mkIns, hk]
    rw [e]; exact ins_load w0 w g xs v hv0 hv h hk
  · have e : mkIns xs v = (⟨5, 0, 0, nx xs.tail v, nx xs.tail.tail v, 0, []⟩, xs.tail.tail.tail) := by simp [mkIns, hk]
    rw [e]; exact ins_store w0 w g xs v hv0 hv h hk
  · have e : mkIns xs v = (⟨6, 0, nx xs.tail v, 0, 0, nx xs.tail.tail 5, (List.range (nx xs.tail.tail.tail 4).toNat).map fun i => nx (xs.tail.tail.tail.tail.drop i) v⟩, xs.tail.tail.tail.tail.drop (nx xs.tail.tail.tail 4).toNat) := by simp [mkIns, hk]
    rw [e]; exact ins_call w0 w g xs _ v hv0 hv h hk (Lib.hid rfl)
  · have e : mkIns xs v = (⟨2, 0, nx xs.tail v, nx xs.tail.tail v, 0, 0, []⟩, xs.tail.tail.tail) := by simp [mkIns, hk]
    rw [e]; exact ins_move7 w0 w g xs v hv0 hv h hk
  · have e : mkIns xs v = (⟨3, 1 + nx xs.tail 7, nx xs.tail.tail v, nx xs.tail.tail.tail v, nx xs.tail.tail.tail.tail v, 0, []⟩, xs.tail.tail.tail.tail.tail) := by simp [mkIns, hk]
    rw [e]; exact ins_bin7 w0 w g xs v hv0 hv h hk
  · have e : mkIns xs v = (⟨3, 1 + nx xs.tail 7, nx xs.tail.tail v, nx xs.tail.tail.tail v, nx xs.tail.tail.tail.tail v, 0, []⟩, xs.tail.tail.tail.tail.tail) := by simp [mkIns, hk]
    rw [e]; exact ins_bin8 w0 w g xs v hv0 hv h hk
end Go.Proofs.Ytdmplkegjjbodaa
