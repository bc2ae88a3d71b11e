/- outworkerlaw04.Made: its walk. -/
import Derived.Test.YtdmplkegjjbodaaMd
import Derived.Deep.DeepCutAuto
import Derived.Deep.CutBlock
namespace Go.Proofs.Ytdmplkegjjbodaa
set_option linter.unusedSimpArgs false
set_option linter.unusedVariables false
open Go.RowKit Go.Proofs.YtdmplkegjjbodaaW.PrintWords Go.Proofs.YtdmplkegjjbodaaW.PrintLast Go.Proofs.YtdmplkegjjbodaaW.PrintMore
attribute [local go_sem] max2_mx max_two

set_option maxRecDepth 100000 in
set_option maxHeartbeats 2000000 in
theorem made_calls (w : World) (p v b : Int) (A : Option Addr) (c : Nat) (xs : List Int) (hp : 0 ≤ p ∧ p ≤ 255) (hv : 0 ≤ v ∧ v ≤ 255) (hb : 0 ≤ b ∧ b ≤ 255) (hok : bytesOk xs) (hc : xs.length ≤ c) (hC : (Kd.int .u8).C w A xs.length xs) :
    Calls Try.prog 18 #[.agg #[.int .u8 p, .int .u8 v, .int .u8 b, .slice A xs.length c]] w fun e w' => ∃ vb, e = .returned (.agg #[.int .i64 (made p v b xs).params, .int .i64 (made p v b xs).vregs, vb]) ∧
      Kd.S kBlock 77 w' w.heap.size (fun _ => True) vb (made p v b xs).blocks ∧ Below w.heap.size w w' := by
  have hOK := Lib.hid hok
  have hCC := Lib.hid hC
  clear hok hC
  obtain ⟨V, hV⟩ : ∃ V, mx (p % 5) 1 + v % 28 = V := ⟨_, rfl⟩
  obtain ⟨n, hn⟩ : ∃ n : Nat, 1 + b % 7 = (n : Int) := ⟨(1 + b % 7).toNat, by omega⟩
  have hmx : 1 ≤ mx (p % 5) 1 ∧ mx (p % 5) 1 ≤ 5 := by unfold mx; omega
  have hV1 : 1 ≤ V ∧ V ≤ 40 := by omega
  have hn1 : 1 ≤ n ∧ n ≤ 7 := by omega
  go_enter Try.func18, Try.ntmps18
  go_wp2
  go_loopw [31] (fun i wr => ∃ (k : Nat) (vb : Value), k ≤ n ∧ i = .int .i64 k ∧ Mk w wr (w.heap.size + 1 + 1 + 1) (blocksN V n k xs).2 ∧
      Kd.S kBlock 77 wr (w.heap.size + 1 + 1 + 1 + 1) (fun _ => True) vb (blocksN V n k xs).1 ∧
      wr.heap[w.heap.size + 1]? = some (.cells #[.int .i64 0, .int .i64 0, .slice none 0 0] 24 (0, 0)) ∧
      wr.heap[w.heap.size + 1 + 1]? = some (.cells #[.int .i64 (p % 5), .int .i64 V, vb] 24 (0, 0))) (fun i _ => n - (intOf i).toNat)
  case atStart =>
    have g1 : ∀ (W : World) (o : Obj) (g : Nat), W.heap.size = g → (W.alloc o).heap[g]? = some o := fun W o g e => by subst e; exact heap_alloc_new W o
    refine ⟨0, _, Nat.zero_le _, rfl, ⟨below_alloc (below_alloc (below_alloc (below_alloc (Below.refl _ _) _) _) _) _, by omega, hOK.out, A, c, g1 _ _ _ (by simp), hc, hCC.out⟩, Kd.S_nil _ _ _ _ _, ?_, ?_⟩
    · exact (Below.heap_alloc _ _ _ (by simp)).trans ((Below.heap_alloc _ _ _ (by simp)).trans (g1 _ _ _ (by simp)))
    · exact (Below.heap_alloc _ _ _ (by simp)).trans (g1 _ _ _ (by simp))
  case round =>
    obtain ⟨k, vb, hk, rfl, hM, hS, hB1, hB2⟩ := hrel
    have hB1 := Lib.hid hB1
    have hB2' := Lib.hid hB2
    have hcv : wr.cell? ⟨w.heap.size + 1 + 1, 2, none⟩ = some vb := cellAt hB2 2 _ rfl
    clear hB2
    have hS' := Lib.hid hS
    have hszr := hM.lt
    by_cases hlt : k < n
    · obtain ⟨wo, rfl⟩ : ∃ wo : World, wo = wr := ⟨_, rfl⟩
      go_wp2_with fail
      refine (next_calls w _ _ _ 9 (by omega) (by omega) (hM.alloc _)).mono ?_
      rintro e w1 ⟨rfl, h1, k1⟩
      obtain ⟨ys, hys⟩ : ∃ ys, ys = (blocksN V n k xs).2 := ⟨_, rfl⟩
      rw [← hys] at h1 ⊢
      have hYS := Lib.hid hys
      clear hys
      obtain ⟨m, hm⟩ : ∃ m : Nat, nx ys 9 = (m : Int) := ⟨(nx ys 9).toNat, by have := nx_range ys 9 (by omega); omega⟩
      have hm9 : m < 9 := by have := nx_range ys 9 (by omega); omega
      rw [hm]
      have hHm := Lib.hid hm
      clear hm
      have hC1 := Lib.hid (k1.blk (heap_alloc_new wo _) (by omega))
      have hU1 := Lib.hid (((Upd.refl (· = w.heap.size + 1 + 1 + 1) wo).alloc _).trans k1)
      clear k1
      go_wp2_with fail
      go_loopw [35] (fun i w2 => ∃ (j : Nat) (vi : Value), j ≤ m ∧ i = .int .i64 j ∧ Mk w w2 (w.heap.size + 1 + 1 + 1) (insN V j ys.tail).2 ∧
          Kd.S kIns 82 w2 (wo.heap.size + 1) (fun _ => True) vi (insN V j ys.tail).1 ∧
          w2.heap[wo.heap.size]? = some (.cells #[vi, .int .u8 0, .int .i64 0, .int .i64 0, .int .i64 0] 77 (0, 0)) ∧ Upd (· = w.heap.size + 1 + 1 + 1) wo w2) (fun i _ => m - (intOf i).toNat)
      case atStart => exact ⟨0, _, Nat.zero_le _, rfl, h1, Kd.S_nil _ _ _ _ _, hC1.out, hU1.out⟩
      case round =>
        obtain ⟨j, vi, hj, rfl, hM2, hS2, hC2, hU2⟩ := hrel
        have hci : wr.cell? ⟨wo.heap.size, 0, none⟩ = some vi := cellAt hC2 0 _ rfl
        have hlt2 := blk_lt' hC2
        have hCC2 := Lib.hid hC2
        clear hC2
        have hbf := hU2.blk hB2'.out (by omega)
        have hcf : wr.cell? ⟨w.heap.size + 1 + 1, 1, none⟩ = some (.int .i64 V) := cellAt hbf 1 _ rfl
        have hBF := Lib.hid hbf
        clear hbf
        by_cases hltj : j < m
        · go_wp2_with fail
          refine start_ (n := 10) (S := fun w' => w'.cell? ⟨wo.heap.size, 0, none⟩ = some vi ∧ w'.cell? ⟨w.heap.size + 1 + 1, 1, none⟩ = some (.int .i64 V)) (ds := [7, 9]) #[false, false, false, false, false, false, false, false, false, false] (by kernel_rfl) rfl rfl ⟨hci, hcf⟩ (fun hHeld => ?_)
          refine pure_ (i := 0) (N := some 37) (v := ?_) (a' := ?_) #[true, false, false, false, false, false, false, false, false, false] rfl rfl (by kernel_rfl) (fun _ _ _ h => h) (Or.inl ⟨by rfl, ?_⟩) ?_ ?_
          rotate_left
          · intro w'
            go_simp
            with_reducible rfl
          rotate_left
          · simp only [Act.put, List.setIfInBounds_toArray, List.set_cons_zero, List.set_cons_succ, i64_w, i32_w]
            rfl
          refine take_ (i := 1) (N := some 38) (v := ?_) (a' := ?_) #[true, true, false, false, false, false, false, false, false, false] rfl rfl (by kernel_rfl) (fun _ _ _ h => h) (Or.inl ⟨by rfl, ?_⟩) hHeld ?_ ?_
          rotate_left
          · rintro w' ⟨s0, s1⟩
            go_simp
            with_reducible rfl
          rotate_left
          · simp only [Act.put, List.setIfInBounds_toArray, List.set_cons_zero, List.set_cons_succ, i64_w, i32_w]
            rfl
          refine pure_ (i := 2) (N := some 39) (v := ?_) (a' := ?_) #[true, true, true, false, false, false, false, false, false, false] rfl rfl (by kernel_rfl) (fun _ _ _ h => h) (Or.inl ⟨by rfl, ?_⟩) ?_ ?_
          rotate_left
          · intro w'
            go_simp
            with_reducible rfl
          rotate_left
          · simp only [Act.put, List.setIfInBounds_toArray, List.set_cons_zero, List.set_cons_succ, i64_w, i32_w]
            rfl
          refine pure_ (i := 3) (N := some 40) (v := ?_) (a' := ?_) #[true, true, true, true, false, false, false, false, false, false] rfl rfl (by kernel_rfl) (fun _ _ _ h => h) (Or.inl ⟨by rfl, ?_⟩) ?_ ?_
          rotate_left
          · intro w'
            go_simp
            with_reducible rfl
          rotate_left
          · simp only [Act.put, List.setIfInBounds_toArray, List.set_cons_zero, List.set_cons_succ, i64_w, i32_w]
            rfl
          refine take_ (i := 4) (N := some 41) (v := ?_) (a' := ?_) #[true, true, true, true, true, false, false, false, false, false] rfl rfl (by kernel_rfl) (fun _ _ _ h => h) (Or.inl ⟨by rfl, ?_⟩) hHeld ?_ ?_
          rotate_left
          · rintro w' ⟨s0, s1⟩
            go_simp
            with_reducible rfl
          rotate_left
          · simp only [Act.put, List.setIfInBounds_toArray, List.set_cons_zero, List.set_cons_succ, i64_w, i32_w]
            rfl
          refine one_ (i := 5) (N := some 42) #[true, true, true, true, true, true, false, false, false, false] rfl rfl (by kernel_rfl) (by decide) (fun K hK => ?_)
          refine goes_ Try.func45 (by kernel_rfl) rfl #[.pointer (some ⟨w.heap.size + 1 + 1 + 1, 0, none⟩), .int .i64 V] (by rfl) rfl rfl (by (try simp only [List.map_toArray, List.map_cons, List.map_nil]); first | done | rfl) ?_
          refine (ins_calls w _ _ _ V (by omega) (by omega) hM2.drew).mono ?_
          rintro e w5 ⟨va, rfl, hRa, h5, k5⟩
          refine ⟨_, rfl, ?_⟩
          have hCC5 := k5.blk (show wr.drew.heap[wo.heap.size]? = _ from hCC2.out) (by omega)
          have hBF5 := k5.blk (show wr.drew.heap[w.heap.size + 1 + 1]? = _ from hBF.out) (by omega)
          have hs5 : wr.heap.size ≤ w5.heap.size := k5.size
          refine hK.out _ _ ⟨cellAt hCC5 0 _ rfl, cellAt hBF5 1 _ rfl⟩ (fun hHeld => ?_)
          clear hK K
          refine norm_ (a' := ?_) ?_ ?_
          rotate_left
          · show Act.put _ (some 42) _ = _
            simp only [Act.put, List.setIfInBounds_toArray, List.set_cons_zero, List.set_cons_succ, i64_w, i32_w]
            rfl
          refine one_ (i := 6) (N := some 43) #[true, true, true, true, true, true, true, false, false, false] rfl rfl (by kernel_rfl) (by decide) (fun K hK => ?_)
          refine value_ (w1 := ?_) (v := ?_) (by rfl) rfl ?_ ?_
          rotate_left
          rotate_left
          · go_simp
            first | rfl | (constructor <;> rfl)
          refine hK.out _ _ ⟨(World.cell?_alloc_some w5 _ _ (by rw [cellAt hCC5 0 _ rfl]; rfl)).trans (cellAt hCC5 0 _ rfl), (World.cell?_alloc_some w5 _ _ (by rw [cellAt hBF5 1 _ rfl]; rfl)).trans (cellAt hBF5 1 _ rfl)⟩ (fun hHeld => ?_)
          clear hK K
          refine norm_ (a' := ?_) ?_ ?_
          rotate_left
          · show Act.put _ (some 43) _ = _
            simp only [Act.put, List.setIfInBounds_toArray, List.set_cons_zero, List.set_cons_succ, i64_w, i32_w]
            rfl
          refine last_ (i := 7) (N := some 44) #[true, true, true, true, true, true, true, true, false, false] rfl rfl (by kernel_rfl) (by decide) (fun K hK => ?_)
          have hS5 := S_upd (S_upd (S_to hS2) ((Upd.refl (fun _ => False) _).drew) (fun _ _ _ _ h => h)) k5 (fun k _ hk _ e => by omega)
          refine Kd.S_append_step kIns (w0 := w5) (wo.heap.size + 1) (by rfl) (.tmp 38) (.tmp 43) 72 82 _ 64 (by rfl) Try.underlying72 infoIns rfl (by decide) (by decide) vi _ (mkIns (insN V j ys.tail).2 V).1 ((mkIns (insN V j ys.tail).2 V).1.cells va) (fun _ => True) (fun k => wr.heap.size ≤ k) (by rfl) (by rfl) (kIns_M.2 ⟨va, rfl, R_from hRa (by show _ ≤ wr.heap.size; omega)⟩) (fun k hk => ⟨trivial, fun e => by have := Kd.S_lt hS2 k e.symm; omega⟩) (fun _ _ => trivial) hS5 (Below.refl _ _) (by omega) (by rw [insN_length]; omega) ?_
          intro v1 w6 hS6 _ hg6 hat6
          have hCC6 := (Upd.of_grown hg6).blk hCC5 (Kd.S_ne hS5 hCC5 (by decide))
          obtain ⟨A1, c1, rfl⟩ := Kd.S_slice hS6
          refine hK.out _ _ ?_
          clear hK K
          refine norm_ (a' := ?_) ?_ ?_
          rotate_left
          · show Act.put _ (some 44) _ = _
            simp only [Act.put, List.setIfInBounds_toArray, List.set_cons_zero, List.set_cons_succ, i64_w, i32_w]
            rfl
          refine pure_ (i := 8) (N := some 45) (v := ?_) (a' := ?_) #[true, true, true, true, true, true, true, true, true, false] rfl rfl (by kernel_rfl) (fun _ _ _ h => h) (Or.inl ⟨by rfl, ?_⟩) ?_ ?_
          rotate_left
          · intro w'
            go_simp
            with_reducible rfl
          rotate_left
          · simp only [Act.put, List.setIfInBounds_toArray, List.set_cons_zero, List.set_cons_succ, i64_w, i32_w]
            rfl
          refine last_ (i := 9) (N := none) #[true, true, true, true, true, true, true, true, true, true] rfl rfl (by kernel_rfl) (by decide) (fun K hK => ?_)
          refine skip_ (w1 := ?_) (by rfl) rfl ?_ ?_
          rotate_left
          · have hc6 := cellAt hCC6 0 _ rfl
            have hf6 := froz hCC6 0
            go_simp
            rfl
          refine hK.out _ _ ?_
          clear hK K
          refine done_ (by kernel_rfl) ?_
          have hlen : ((insN V j ys.tail).1 ++ [(mkIns (insN V j ys.tail).2 V).1]).length = (insN V j ys.tail).1.length + 1 := by simp
          rw [hlen] at hS6
          have hbv : ∀ q, some q = vi.ownBlock → wo.heap.size + 1 ≤ q := fun q e => Kd.S_base hS5 q e.symm
          have hM6 := (h5.upd (Upd.of_grown hg6) (fun q e => ⟨by have := hbv q e; omega, by have := hbv q e; omega⟩)).upd (Upd.set1 w6 wo.heap.size 0 (.slice A1 ((insN V j ys.tail).1.length + 1) c1)) (fun q e => ⟨by omega, by omega⟩)
          have hU6 := ((((hU2.drew).trans k5).then_ (Upd.of_grown hg6) (fun q hq e => by have := hbv q e; omega)).then_ (Upd.set1 w6 wo.heap.size 0 (.slice A1 ((insN V j ys.tail).1.length + 1) c1)) (fun q hq e => by omega))
          have hfin := Lib.hid (And.intro hM6 (And.intro (Kd.S_set hS6 hCC6 (by decide) 0 (.slice A1 ((insN V j ys.tail).1.length + 1) c1)) (And.intro (heap_set hCC6 0 (.slice A1 ((insN V j ys.tail).1.length + 1) c1)) hU6)))
          clear hM6 hU6 hbv hS6 hCC6 hg6 hat6 hHeld hS5 hCC5 hBF5 k5 h5 hs5 hRa hlen
          go_wp2
          go_roundw
          case rel => exact ⟨j + 1, _, by omega, by go_num, hfin.out.1, hfin.out.2.1, hfin.out.2.2.1, hfin.out.2.2.2⟩
          case measure => simp [intOf]; omega
        · obtain rfl : j = m := by omega
          obtain ⟨zs, hzs⟩ : ∃ zs, zs = (insN V j ys.tail).2 := ⟨_, rfl⟩
          rw [← hzs] at hM2
          obtain ⟨li, hli⟩ : ∃ li, li = (insN V j ys.tail).1 := ⟨_, rfl⟩
          rw [← hli] at hS2
          have hmb : mkBlock ys V n = (⟨li, (mkEnd zs V n).1⟩, (mkEnd zs V n).2) := by
            have e : (nx ys 9).toNat = j := by rw [hHm.out]; rfl
            simp only [mkBlock, e, ← hzs, ← hli]
          have hMB := Lib.hid hmb
          clear hmb hzs hli
          have hr4 := nx_range zs 4 (by omega)
          have h4 : nx zs 4 = 0 ∨ nx zs 4 = 1 ∨ nx zs 4 = 2 ∨ nx zs 4 = 3 := by omega
          go_wp2_with fail
          refine (next_calls w _ _ _ 4 (by omega) (by omega) hM2).mono ?_
          rintro e w3 ⟨rfl, h3, k3⟩
          have hCC3 := Lib.hid (k3.blk hCC2.out (by omega))
          have hBF3 := k3.blk hBF.out (by omega)
          have hcf3 : w3.cell? ⟨w.heap.size + 1 + 1, 1, none⟩ = some (.int .i64 V) := cellAt hBF3 1 _ rfl
          clear hcf hci
          have K3 := Lib.hid k3
          clear k3
          go_upto_block 4 with fail
          go_cut [] (fun wx => Mk w wx (w.heap.size + 1 + 1 + 1) (mkEnd zs V n).2 ∧
            wx.heap[wo.heap.size]? = some (.cells #[vi, .int .u8 (mkEnd zs V n).1.kind, .int .i64 (mkEnd zs V n).1.a, .int .i64 (mkEnd zs V n).1.jt, .int .i64 (mkEnd zs V n).1.je] 77 (0, 0)) ∧
            Upd (fun k => k = w.heap.size + 1 + 1 + 1 ∨ k = wo.heap.size) w3 wx)
          case first =>
            have hW : ∀ (W : World) (rs : List Int) (q0 q1 q2 q3 : Value), Mk w W (w.heap.size + 1 + 1 + 1) rs → Upd (· = w.heap.size + 1 + 1 + 1) w3 W →
                Mk w ((((W.setCell ⟨wo.heap.size, 1, none⟩ q0).setCell ⟨wo.heap.size, 2, none⟩ q1).setCell ⟨wo.heap.size, 3, none⟩ q2).setCell ⟨wo.heap.size, 4, none⟩ q3) (w.heap.size + 1 + 1 + 1) rs ∧
                ((((W.setCell ⟨wo.heap.size, 1, none⟩ q0).setCell ⟨wo.heap.size, 2, none⟩ q1).setCell ⟨wo.heap.size, 3, none⟩ q2).setCell ⟨wo.heap.size, 4, none⟩ q3).heap[wo.heap.size]? = some (.cells #[vi, q0, q1, q2, q3] 77 (0, 0)) ∧
                Upd (fun k => k = w.heap.size + 1 + 1 + 1 ∨ k = wo.heap.size) w3 ((((W.setCell ⟨wo.heap.size, 1, none⟩ q0).setCell ⟨wo.heap.size, 2, none⟩ q1).setCell ⟨wo.heap.size, 3, none⟩ q2).setCell ⟨wo.heap.size, 4, none⟩ q3) := by
              intro W rs q0 q1 q2 q3 hMW hUW
              have u := (((Upd.set1 W wo.heap.size 1 q0).trans (Upd.set1 _ wo.heap.size 2 q1)).trans (Upd.set1 _ wo.heap.size 3 q2)).trans (Upd.set1 _ wo.heap.size 4 q3)
              refine ⟨hMW.upd u (fun q e => ⟨by omega, by omega⟩), ?_, (hUW.mono (fun q _ e => Or.inl e)).then_ u (fun q _ e => Or.inr e)⟩
              have hb0 := hUW.blk hCC3.out (by omega)
              have := heap_set (heap_set (heap_set (heap_set hb0 1 q0) 2 q1) 3 q2) 4 q3
              simpa using this
            have hW := Lib.hid hW
            rcases h4 with hk4 | hk4 | hk4 | hk4
            · have he : mkEnd zs V n = (⟨3, nx zs.tail V, 0, 0⟩, zs.tail.tail) := by simp [mkEnd, hk4]
              have hE := Lib.hid he
              have b1 : (nx zs 4 == 1) = false := by rw [hk4]; rfl
              have b2 : (nx zs 4 == 2) = false := by rw [hk4]; rfl
              have b3 : (nx zs 4 == 3) = false := by rw [hk4]; rfl
              clear he hk4
              go_wp2_with fail
              refine (next_calls w _ _ _ V (by omega) (by omega) h3).mono ?_
              rintro e w4 ⟨rfl, h4, k4⟩
              have K4 := Lib.hid k4
              clear k4
              have hd0 := fun q u e => cellAt (K4.out.blk hCC3.out (by omega)) q u e
              have hd1 := hd0 1 _ rfl
              have hd2 := hd0 2 _ rfl
              have hd3 := hd0 3 _ rfl
              have hd4 := hd0 4 _ rfl
              clear hd0
              have hfC := froz (K4.out.blk hCC3.out (by omega))
              have hWW := Lib.hid (hW.out _ _ (.int .u8 3) (.int .i64 (nx zs.tail V)) (.int .i64 0) (.int .i64 0) h4 K4.out)
              go_wp2
              go_meet
              rw [hE.out]
              exact hWW.out
            · have he : mkEnd zs V n = (⟨1, 0, nx zs.tail n, 0⟩, zs.tail.tail) := by simp [mkEnd, hk4]
              have hE := Lib.hid he
              have b1 : (nx zs 4 == 1) = true := by rw [hk4]; rfl
              have b2 : (nx zs 4 == 2) = false := by rw [hk4]; rfl
              have b3 : (nx zs 4 == 3) = false := by rw [hk4]; rfl
              clear he hk4
              go_wp2_with fail
              refine (next_calls w _ _ _ n (by omega) (by omega) h3).mono ?_
              rintro e w4 ⟨rfl, h4, k4⟩
              have K4 := Lib.hid k4
              clear k4
              have hd0 := fun q u e => cellAt (K4.out.blk hCC3.out (by omega)) q u e
              have hd1 := hd0 1 _ rfl
              have hd2 := hd0 2 _ rfl
              have hd3 := hd0 3 _ rfl
              have hd4 := hd0 4 _ rfl
              clear hd0
              have hfC := froz (K4.out.blk hCC3.out (by omega))
              have hWW := Lib.hid (hW.out _ _ (.int .u8 1) (.int .i64 0) (.int .i64 (nx zs.tail n)) (.int .i64 0) h4 K4.out)
              go_wp2
              go_meet
              rw [hE.out]
              exact hWW.out
            · have he : mkEnd zs V n = (⟨2, nx zs.tail V, nx zs.tail.tail n, nx zs.tail.tail.tail n⟩, zs.tail.tail.tail.tail) := by simp [mkEnd, hk4]
              have hE := Lib.hid he
              have b1 : (nx zs 4 == 1) = false := by rw [hk4]; rfl
              have b2 : (nx zs 4 == 2) = true := by rw [hk4]; rfl
              have b3 : (nx zs 4 == 3) = false := by rw [hk4]; rfl
              clear he hk4
              go_wp2_with fail
              refine (next_calls w _ _ _ V (by omega) (by omega) h3).mono ?_
              rintro e w4 ⟨rfl, h4, k4⟩
              have K4 := Lib.hid k4
              clear k4
              go_wp2_with fail
              refine (next_calls w _ _ _ n (by omega) (by omega) h4).mono ?_
              rintro e w5 ⟨rfl, h5, k5⟩
              have K5 := Lib.hid (K4.out.trans k5)
              clear k5
              go_wp2_with fail
              refine (next_calls w _ _ _ n (by omega) (by omega) h5).mono ?_
              rintro e w6 ⟨rfl, h6, k6⟩
              have K6 := Lib.hid (K5.out.trans k6)
              clear k6
              have hd0 := fun q u e => cellAt (K6.out.blk hCC3.out (by omega)) q u e
              have hd1 := hd0 1 _ rfl
              have hd2 := hd0 2 _ rfl
              have hd3 := hd0 3 _ rfl
              have hd4 := hd0 4 _ rfl
              clear hd0
              have hfC := froz (K6.out.blk hCC3.out (by omega))
              have hWW := Lib.hid (hW.out _ _ (.int .u8 2) (.int .i64 (nx zs.tail V)) (.int .i64 (nx zs.tail.tail n)) (.int .i64 (nx zs.tail.tail.tail n)) h6 K6.out)
              go_wp2
              go_meet
              rw [hE.out]
              exact hWW.out
            · have he : mkEnd zs V n = (⟨2, nx zs.tail V, nx zs.tail.tail n, nx zs.tail.tail.tail n⟩, zs.tail.tail.tail.tail) := by simp [mkEnd, hk4]
              have hE := Lib.hid he
              have b1 : (nx zs 4 == 1) = false := by rw [hk4]; rfl
              have b2 : (nx zs 4 == 2) = false := by rw [hk4]; rfl
              have b3 : (nx zs 4 == 3) = true := by rw [hk4]; rfl
              clear he hk4
              go_wp2_with fail
              refine (next_calls w _ _ _ V (by omega) (by omega) h3).mono ?_
              rintro e w4 ⟨rfl, h4, k4⟩
              have K4 := Lib.hid k4
              clear k4
              go_wp2_with fail
              refine (next_calls w _ _ _ n (by omega) (by omega) h4).mono ?_
              rintro e w5 ⟨rfl, h5, k5⟩
              have K5 := Lib.hid (K4.out.trans k5)
              clear k5
              go_wp2_with fail
              refine (next_calls w _ _ _ n (by omega) (by omega) h5).mono ?_
              rintro e w6 ⟨rfl, h6, k6⟩
              have K6 := Lib.hid (K5.out.trans k6)
              clear k6
              have hd0 := fun q u e => cellAt (K6.out.blk hCC3.out (by omega)) q u e
              have hd1 := hd0 1 _ rfl
              have hd2 := hd0 2 _ rfl
              have hd3 := hd0 3 _ rfl
              have hd4 := hd0 4 _ rfl
              clear hd0
              have hfC := froz (K6.out.blk hCC3.out (by omega))
              have hWW := Lib.hid (hW.out _ _ (.int .u8 2) (.int .i64 (nx zs.tail V)) (.int .i64 (nx zs.tail.tail n)) (.int .i64 (nx zs.tail.tail.tail n)) h6 K6.out)
              go_wp2
              go_meet
              rw [hE.out]
              exact hWW.out
          case rest =>
            obtain ⟨hM4, hC4, hU4⟩ := hcut
            have hUt := (hU2.trans K3.out).then_ hU4 (fun q hq e => by omega)
            have hI4 := Lib.hid (S_upd (S_upd (S_upd hS2 K3.out (fun q _ hq _ e => by omega)) hU4 (fun q _ hq _ e => by omega)) (Upd.refl (fun _ => False) wc) (fun _ _ _ _ h => h))
            have hS4 := Lib.hid (S_upd (S_to hS) hUt (fun q _ hq _ e => by omega))
            have hbf4 := hUt.blk hB2'.out (by omega)
            have hB14 := Lib.hid (hUt.blk hB1.out (by omega))
            have hcv4 : wc.cell? ⟨w.heap.size + 1 + 1, 2, none⟩ = some vb := cellAt hbf4 2 _ rfl
            have hBF4 := Lib.hid hbf4
            have hd0 := fun q u e => cellAt hC4 q u e
            have hd1 := hd0 1 _ rfl
            have hd2 := hd0 2 _ rfl
            have hd3 := hd0 3 _ rfl
            have hd4 := hd0 4 _ rfl
            have hd5 := hd0 0 _ rfl
            clear hd0
            have hsc : wo.heap.size < wc.heap.size := blk_lt' hC4
            have hC4 := Lib.hid hC4
            have hM4 := Lib.hid hM4
            have hUt := Lib.hid hUt
            have hbl : ((blocksN V n k xs).1.length + 1) * 56 ≤ 140737488355328 := by rw [blocksN_length]; omega
            have hbl := Lib.hid hbl
            clear hbf4 hcf3 hU4
            go_wp2_with (first
              | (at_builtin
                 refine Kd.S_append kBlock (w0 := wc) (w.heap.size + 1 + 1 + 1 + 1) rfl (.tmp 78) (.tmp 80) 22 77 _ 56 rfl Try.underlying22 infoBlock rfl (by decide) (by decide) vb _ (Block.mk li (mkEnd zs V n).1) ((Block.mk li (mkEnd zs V n).1).cells vi) (fun _ => True) (fun q => wo.heap.size ≤ q) (by rfl) (by rfl) (kBlock_M.2 ⟨vi, rfl, Kd.S_mono (S_from hI4.out (by omega)) (fun q hq => by omega)⟩) (fun q hq => ⟨trivial, fun e => by have := Kd.S_lt hS q e.symm; omega⟩) (fun _ _ => trivial) hS4.out (Below.refl _ _) (by omega) hbl.out ?_
                 intro v1 w6 hS6 _ hg6 hat6
                 obtain ⟨A1, c1, rfl⟩ := Kd.S_slice hS6
                 have hBF6 := (Upd.of_grown hg6).blk hBF4.out (Kd.S_ne hS4.out hBF4.out (by decide))
                 have hcf6 : w6.cell? ⟨w.heap.size + 1 + 1, 2, none⟩ = some vb := cellAt hBF6 2 _ rfl
                 have hff6 := froz hBF6 2
                 have hBF6 := Lib.hid hBF6
                 have hS6 := Lib.hid hS6
                 have hg6 := Lib.hid hg6
                 clear hat6))
            have hk1 : blocksN V n (k + 1) xs = ((blocksN V n k xs).1 ++ [Block.mk li (mkEnd zs V n).1], (mkEnd zs V n).2) := by
              have e : blocksN V n (k + 1) xs = ((blocksN V n k xs).1 ++ [(mkBlock (blocksN V n k xs).2 V n).1], (mkBlock (blocksN V n k xs).2 V n).2) := rfl
              rw [e, ← hYS.out, hMB.out]
            have hlen : ((blocksN V n k xs).1 ++ [Block.mk li (mkEnd zs V n).1]).length = (blocksN V n k xs).1.length + 1 := by simp
            have hS7 := hS6.out
            rw [hlen] at hS7
            have hbv : ∀ q, some q = vb.ownBlock → w.heap.size + 1 + 1 + 1 + 1 ≤ q := fun q e => Kd.S_base hS4.out q e.symm
            have hM7 := (hM4.out.upd (Upd.of_grown hg6.out) (fun q e => ⟨by have := hbv q e; omega, by have := hbv q e; omega⟩)).upd (Upd.set1 w6 (w.heap.size + 1 + 1) 2 (.slice A1 ((blocksN V n k xs).1.length + 1) c1)) (fun q e => ⟨by omega, by omega⟩)
            have hB17 := (Upd.set1 w6 (w.heap.size + 1 + 1) 2 (.slice A1 ((blocksN V n k xs).1.length + 1) c1)).blk ((Upd.of_grown hg6.out).blk hB14.out (fun e => by have := hbv _ e; omega)) (by omega)
            have hB27 := heap_set hBF6.out 2 (.slice A1 ((blocksN V n k xs).1.length + 1) c1)
            have hS8 := Kd.S_set hS7 hBF6.out (by decide) 2 (.slice A1 ((blocksN V n k xs).1.length + 1) c1)
            go_roundw
            case rel =>
              refine ⟨k + 1, _, by omega, by go_num, ?_, ?_, hB17, hB27⟩
              · rw [hk1]; exact hM7
              · rw [hk1]; exact hS8
            case measure => simp [intOf]; omega
    · obtain rfl : k = n := by omega
      have hd0 := fun q u e => cellAt hB1.out q u e
      have hd1 := hd0 1 _ rfl
      have hd2 := hd0 2 _ rfl
      have hd3 := hd0 0 _ rfl
      clear hd0
      have he0 := fun q u e => cellAt hB2'.out q u e
      have he1 := he0 1 _ rfl
      have he2 := he0 0 _ rfl
      clear he0
      have hff := froz hB1.out
      obtain ⟨A1, c1, rfl⟩ := Kd.S_slice hS
      have hM := Lib.hid hM
      go_wp2
      have hfin := heap_set (heap_set (heap_set hB1.out 0 (.int .i64 (p % 5))) 1 (.int .i64 V)) 2 (.slice A1 (blocksN V k k xs).1.length c1)
      have hSf := Kd.S_set (Kd.S_set (Kd.S_set hS hB1.out (by decide) 0 (.int .i64 (p % 5))) (heap_set hB1.out 0 (.int .i64 (p % 5))) (by decide) 1 (.int .i64 V)) (heap_set (heap_set hB1.out 0 (.int .i64 (p % 5))) 1 (.int .i64 V)) (by decide) 2 (.slice A1 (blocksN V k k xs).1.length c1)
      have hlow := ((hM.out.low.setCell (p := ⟨w.heap.size + 1, 0, none⟩) (by show w.heap.size ≤ w.heap.size + 1; omega) (.int .i64 (p % 5))).setCell (p := ⟨w.heap.size + 1, 1, none⟩) (by show w.heap.size ≤ w.heap.size + 1; omega) (.int .i64 V)).setCell (p := ⟨w.heap.size + 1, 2, none⟩) (by show w.heap.size ≤ w.heap.size + 1; omega) (.slice A1 (blocksN V k k xs).1.length c1)
      refine bodyPost_ret (results_cell_row rfl _ _ (w.heap.size + 1) 24 _ _ _ rfl hfin Try.underlying24 rfl sizeFunc) rfl ?_
      have hm : made p v b xs = ⟨p % 5, V, (blocksN V k k xs).1⟩ := by
        simp only [made, hV, hn, Int.toNat_natCast]
      rw [hm]
      refine ⟨.slice A1 (blocksN V k k xs).1.length c1, ?_, Kd.S_lower hSf (by omega), hlow⟩
      simp
end Go.Proofs.Ytdmplkegjjbodaa
