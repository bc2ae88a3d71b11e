/- Package outworkerref04: SameBlocks: its walk. -/
import Derived.Test.YtdmplkegjjbodaaSm
import Derived.BigRegion
namespace Go.Proofs.Ytdmplkegjjbodaa
set_option linter.unusedSimpArgs false
set_option linter.unusedVariables false
open Go.RowKit Go.Proofs.YtdmplkegjjbodaaW.PrintWords Go.Proofs.YtdmplkegjjbodaaW.PrintLast

attribute [local go_sem] World.cell?_alloc_some
set_option maxRecDepth 100000 in
set_option maxHeartbeats 4000000 in
theorem sameblocks_calls (xs ys : List Block) (A1 A2 : Option Addr) (c1 c2 : Nat) (w : World) (h1 : kBlock.C w A1 xs.length xs) (h2 : kBlock.C w A2 ys.length ys) (hm : xs.length ≤ 140737488355328)
    (hm1 : ∀ x ∈ xs, x.ins.length ≤ 140737488355328 ∧ ∀ i ∈ x.ins, i.args.length ≤ 140737488355328) :
    Calls Try.prog 42 #[.slice A1 xs.length c1, .slice A2 ys.length c2] w fun e w' => e = .returned (.bool (decide (xs = ys))) ∧ Upd (fun _ => False) w w' := by
  obtain ⟨R, hR⟩ : ∃ R, decide (xs = ys) = R := ⟨_, rfl⟩
  rw [hR]
  have HR := Lib.hid hR
  have H1 := Lib.hid h1
  have H2 := Lib.hid h2
  have HM := Lib.hid hm1
  clear hR h1 h2 hm1
  by_cases hlen : xs.length = ys.length
  · have hb : ((xs.length : Int) == (ys.length : Int)) = true := by simp [hlen]
    have hb' : ((xs.length : Int) != (ys.length : Int)) = false := by simp [hlen]
    rw [← hlen] at H2 ⊢
    go_enter Try.func42, Try.ntmps42
    go_wp2_with fail
    go_loopw [5] (fun i wr => ∃ j : Nat, j ≤ xs.length ∧ i = .int .i64 j ∧ xs.take j = ys.take j ∧ Upd (fun _ => False) w wr) (fun i _ => xs.length - (intOf i).toNat)
    case atStart => exact ⟨0, by omega, rfl, by simp, by repeat (first | exact Upd.refl _ _ | apply Upd.drew)⟩
    case round =>
      obtain ⟨j, hj, rfl, heq, hU⟩ := hrel
      by_cases hlt : j < xs.length
      · have hb := hU.below (B := w.heap.size) (fun _ h => h.elim) (Nat.le_refl _)
        obtain ⟨a1, cs, rfl, hl1, hK1, hcell1⟩ := Kd.C_get H1.out zBlock j (by omega) (by omega)
        obtain ⟨a2, ds, rfl, hl2, hK2, hcell2⟩ := Kd.C_get H2.out zBlock j (by omega) (by omega)
        have g1 : xs[j]? = some (xs.getD j zBlock) := by simp [List.getD, hlt]
        have g2 : ys[j]? = some (ys.getD j zBlock) := by simp [List.getD, hlen ▸ hlt]
        simp only [Int.toNat_natCast] at hcell1 hcell2 hK1 hK2
        obtain ⟨x, hx⟩ : ∃ x, xs.getD j zBlock = x := ⟨_, rfl⟩
        obtain ⟨y, hy⟩ : ∃ y, ys.getD j zBlock = y := ⟨_, rfl⟩
        rw [hx] at hK1 g1
        rw [hy] at hK2 g2
        obtain ⟨B1, d1, rfl, hd1, hC1⟩ := kBlock_K.1 hK1
        obtain ⟨B2, d2, rfl, hd2, hC2⟩ := kBlock_K.1 hK2
        simp only [kBlock_sz] at hcell1 hcell2
        have r0 := pw_cell_below hb (cells0 hcell1 _ rfl)
        have r1 := pw_cell_below hb (cellsF hcell1 1 _ (by decide) rfl)
        have r2 := pw_cell_below hb (cellsF hcell1 2 _ (by decide) rfl)
        have r3 := pw_cell_below hb (cellsF hcell1 3 _ (by decide) rfl)
        have r4 := pw_cell_below hb (cellsF hcell1 4 _ (by decide) rfl)
        have q0 := pw_cell_below hb (cells0 hcell2 _ rfl)
        have q1 := pw_cell_below hb (cellsF hcell2 1 _ (by decide) rfl)
        have q2 := pw_cell_below hb (cellsF hcell2 2 _ (by decide) rfl)
        have q3 := pw_cell_below hb (cellsF hcell2 3 _ (by decide) rfl)
        have q4 := pw_cell_below hb (cellsF hcell2 4 _ (by decide) rfl)
        have G1 := Lib.hid g1
        have G2 := Lib.hid g2
        have HE := Lib.hid heq
        have HU := Lib.hid hU
        have HL := Lib.hid hlen
        have HC1 := Lib.hid hC1
        have HC2 := Lib.hid hC2
        have HC01 := Lib.hid hcell1
        have HC02 := Lib.hid hcell2
        have hxl := (HM.out x (List.mem_of_getElem? g1)).1
        clear hx hy g1 g2 heq hU hlen hK1 hK2 hcell1 hcell2 hC1 hC2 hl1 hl2
        obtain ⟨xi, ⟨k1, a1', t1, e1⟩⟩ := x
        obtain ⟨yi, ⟨k2, a2', t2, e2⟩⟩ := y
        simp only at *
        by_cases hee : k1 = k2 ∧ a1' = a2' ∧ t1 = t2 ∧ e1 = e2
        · obtain ⟨rfl, rfl, rfl, rfl⟩ := hee
          cases hz : ((xi.length : Int) == (yi.length : Int)) with
          | false =>
            go_wp2_with fail
            go_quiet (fail)
            go_wp2
            go_ret
            refine ⟨ret_bool ?_, by repeat (first | exact HU.out | apply Upd.drew | apply Upd.drewN)⟩
            rw [← HR.out]
            have hz' : xi.length ≠ yi.length := by have := hz; simp at this; omega
            have := ne_of_at G1.out G2.out (by intro h; injection h with h _; exact hz' (by rw [h]))
            simp [this]
          | true =>
            have hz' : xi.length = yi.length := by have := eq_of_beq hz; omega
            rw [← hz'] at q0
            have HZ := Lib.hid hz'
            clear hz hz'
            go_wp2_with fail
            go_quiet (fail)
            go_wp2_with fail
            clear r0 r1 r2 r3 r4 q0 q1 q2 q3 q4
            go_loopw [6] (fun i wx => ∃ q : Nat, q ≤ xi.length ∧ i = .int .i64 q ∧ xi.take q = yi.take q ∧ Upd (fun _ => False) w wx) (fun i _ => xi.length - (intOf i).toNat)
            case atStart => exact ⟨0, by omega, rfl, by simp, by repeat (first | exact HU.out | apply Upd.drew | apply Upd.drewN)⟩
            case round =>
              obtain ⟨wo, rfl⟩ : ∃ wo : World, wo = wr := ⟨_, rfl⟩
              obtain ⟨q, hq, rfl, heqi, hUo⟩ := hrel
              have hbo := hUo.below (B := w.heap.size) (fun _ h => h.elim) (Nat.le_refl _)
              have u0 := pw_cell_below hbo (cells0 HC01.out _ rfl)
              have v0 := pw_cell_below hbo (cells0 HC02.out _ rfl)
              rw [← HZ.out] at v0
              have HEI := Lib.hid heqi
              have HUO := Lib.hid hUo
              clear heqi hUo
              by_cases hlq : q < xi.length
              · obtain ⟨b1, cs, rfl, hl1, hK1, hcell1⟩ := Kd.C_get HC1.out zIns q (by omega) (by omega)
                obtain ⟨b2, ds, rfl, hl2, hK2, hcell2⟩ := Kd.C_get HC2.out zIns q (by omega) (by have := HZ.out; omega)
                have g1 : xi[q]? = some (xi.getD q zIns) := by simp [List.getD, hlq]
                have g2 : yi[q]? = some (yi.getD q zIns) := by simp [List.getD, HZ.out ▸ hlq]
                simp only [Int.toNat_natCast] at hcell1 hcell2 hK1 hK2
                obtain ⟨x, hx⟩ : ∃ x, xi.getD q zIns = x := ⟨_, rfl⟩
                obtain ⟨y, hy⟩ : ∃ y, yi.getD q zIns = y := ⟨_, rfl⟩
                rw [hx] at hK1 g1
                rw [hy] at hK2 g2
                obtain ⟨D1, m1, rfl, hm1, hCC1⟩ := kIns_K.1 hK1
                obtain ⟨D2, m2, rfl, hm2, hCC2⟩ := kIns_K.1 hK2
                simp only [kIns_sz] at hcell1 hcell2
                have r0 := pw_cell_below hbo (cells0 hcell1 _ rfl)
                have r1 := pw_cell_below hbo (cellsF hcell1 1 _ (by decide) rfl)
                have r2 := pw_cell_below hbo (cellsF hcell1 2 _ (by decide) rfl)
                have r3 := pw_cell_below hbo (cellsF hcell1 3 _ (by decide) rfl)
                have r4 := pw_cell_below hbo (cellsF hcell1 4 _ (by decide) rfl)
                have r5 := pw_cell_below hbo (cellsF hcell1 5 _ (by decide) rfl)
                have r6 := pw_cell_below hbo (cellsF hcell1 6 _ (by decide) rfl)
                have q0 := pw_cell_below hbo (cells0 hcell2 _ rfl)
                have q1 := pw_cell_below hbo (cellsF hcell2 1 _ (by decide) rfl)
                have q2 := pw_cell_below hbo (cellsF hcell2 2 _ (by decide) rfl)
                have q3 := pw_cell_below hbo (cellsF hcell2 3 _ (by decide) rfl)
                have q4 := pw_cell_below hbo (cellsF hcell2 4 _ (by decide) rfl)
                have q5 := pw_cell_below hbo (cellsF hcell2 5 _ (by decide) rfl)
                have q6 := pw_cell_below hbo (cellsF hcell2 6 _ (by decide) rfl)
                have GI1 := Lib.hid g1
                have GI2 := Lib.hid g2
                have HCC1 := Lib.hid hCC1
                have HCC2 := Lib.hid hCC2
                have HXI := Lib.hid ((HM.out _ (List.mem_of_getElem? G1.out)).2 x (List.mem_of_getElem? g1))
                clear hx hy g1 g2 hK1 hK2 hcell1 hcell2 hCC1 hCC2 hl1 hl2
                obtain ⟨xk, xo, xd, xa, xb, xn, xs'⟩ := x
                obtain ⟨yk, yo, yd, ya, yb, yn, ys'⟩ := y
                simp only at *
                have hneq : (⟨xk, xo, xd, xa, xb, xn, xs'⟩ : Ins) ≠ ⟨yk, yo, yd, ya, yb, yn, ys'⟩ → R = false := fun h => by
                  rw [← HR.out]
                  have h1 := ne_of_at GI1.out GI2.out h
                  have h2 := ne_of_at G1.out G2.out (by intro h; injection h with h _; exact h1 h)
                  simp [h2]
                have HNEQ := Lib.hid hneq
                clear hneq
                have S1 := Lib.hid (fun W hb => sameints_calls xs' ys' D1 D2 m1 m2 W (Kd.C_below HCC1.out hb) (Kd.C_below HCC2.out hb) HXI.out)
                go_wp2_with fail
                go_cut [7, 8] (fun p7 p8 wx => ∃ g1 g2, p7 = .pointer (some ⟨g1, 0, none⟩) ∧ p8 = .pointer (some ⟨g2, 0, none⟩) ∧
                  wx.heap[g1]? = some (.cells #[.int .u8 xk, .int .u8 xo, .int .i64 xd, .int .i64 xa, .int .i64 xb, .int .i64 xn, .slice D1 xs'.length m1] 82 (0, 0)) ∧
                  wx.heap[g2]? = some (.cells #[.int .u8 yk, .int .u8 yo, .int .i64 yd, .int .i64 ya, .int .i64 yb, .int .i64 yn, .slice D2 ys'.length m2] 82 (0, 0)) ∧ Upd (fun _ => False) w wx)
                case first =>
                  go_region
                  all_goals go_wp2_with fail
                  all_goals go_meet
                  all_goals
                    have gn : ∀ (W : World) (o : Obj) (g : Nat), W.heap.size = g → (W.alloc o).heap[g]? = some o := fun W o g e => by subst e; exact heap_alloc_new W o
                    refine ⟨_, _, rfl, rfl, ?_, ?_, by repeat (first | exact HUO.out | apply Upd.drew | apply Upd.drewN | apply Upd.alloc)⟩
                    all_goals first
                      | exact gn _ _ _ (by simp)
                      | exact (Below.heap_alloc _ _ _ (by simp)).trans (gn _ _ _ (by simp))
                case rest =>
                  obtain ⟨g1, g2, rfl, rfl, hg1, hg2, hUc⟩ := hcut
                  have s0 := cellAt hg1 0 _ rfl
                  have s1 := cellAt hg1 1 _ rfl
                  have s2 := cellAt hg1 2 _ rfl
                  have s3 := cellAt hg1 3 _ rfl
                  have s4 := cellAt hg1 4 _ rfl
                  have s5 := cellAt hg1 5 _ rfl
                  have s6 := cellAt hg1 6 _ rfl
                  have t0 := cellAt hg2 0 _ rfl
                  have t1 := cellAt hg2 1 _ rfl
                  have t2 := cellAt hg2 2 _ rfl
                  have t3 := cellAt hg2 3 _ rfl
                  have t4 := cellAt hg2 4 _ rfl
                  have t5 := cellAt hg2 5 _ rfl
                  have t6 := cellAt hg2 6 _ rfl
                  have HUC := Lib.hid hUc
                  clear hg1 hg2 hUc r0 r1 r2 r3 r4 r5 r6 q0 q1 q2 q3 q4 q5 q6 u0 v0
                  go_wp2_with fail
                  all_goals first
                    | (refine (S1.out _ (HUC.out.below (B := w.heap.size) (fun _ h => h.elim) (Nat.le_refl _))).mono ?_
                       rintro e w5 ⟨rfl, h5⟩
                       have HU5 := Lib.hid (HUC.out.trans h5)
                       clear h5
                       have e1 : xk = yk := by omega
                       have e2 : xo = yo := by omega
                       have e3 : xd = yd := by omega
                       have e4 : xa = ya := by omega
                       have e5 : xb = yb := by omega
                       have e6 : xn = yn := by omega
                       obtain ⟨z, hz⟩ : ∃ z, decide (xs' = ys') = z := ⟨_, rfl⟩
                       rw [hz]
                       have HZ2 := Lib.hid hz
                       have HE6 := Lib.hid (show xk = yk ∧ xo = yo ∧ xd = yd ∧ xa = ya ∧ xb = yb ∧ xn = yn from ⟨e1, e2, e3, e4, e5, e6⟩)
                       clear hz e1 e2 e3 e4 e5 e6
                       cases z with
                       | true =>
                         go_wp2
                         refine ⟨⟨q + 1, by omega, by simp, take_eq_next HEI.out GI1.out GI2.out ?_, HU5.out⟩, by simp [intOf]; omega⟩
                         obtain ⟨e1, e2, e3, e4, e5, e6⟩ := HE6.out
                         have e7 : xs' = ys' := by simpa using HZ2.out
                         rw [e1, e2, e3, e4, e5, e6, e7]
                       | false =>
                         go_wp2
                         go_ret
                         refine ⟨ret_bool ?_, HU5.out⟩
                         rw [HNEQ.out]
                         intro h
                         injection h with h1 h2 h3 h4 h5 h6 h7
                         have e7 : ¬ xs' = ys' := by simpa using HZ2.out
                         exact e7 h7)
                    | (go_ret
                       refine ⟨ret_bool ?_, HUC.out⟩
                       rw [HNEQ.out]
                       intro h
                       injection h with h1 h2 h3 h4 h5 h6
                       omega)
              · obtain rfl : q = xi.length := by omega
                go_wp2
                have h3 := HEI.out
                rw [List.take_length, HZ.out, List.take_length] at h3
                refine ⟨⟨j + 1, by omega, by simp, take_eq_next HE.out G1.out G2.out (by rw [h3]), HUO.out⟩, by simp [intOf]; omega⟩
        · have hd : (k1 == k2) = false ∨ (k1 = k2 ∧ (a1' == a2') = false) ∨ (k1 = k2 ∧ a1' = a2' ∧ (t1 == t2) = false) ∨ (k1 = k2 ∧ a1' = a2' ∧ t1 = t2 ∧ (e1 == e2) = false) := by
            simp only [beq_eq_false_iff_ne, ne_eq]
            omega
          have hne := ne_of_at G1.out G2.out (by intro h; injection h with _ h; injection h with h1 h2 h3 h4; exact hee ⟨h1, h2, h3, h4⟩)
          have hR : R = false := by rw [← HR.out]; simp [hne]
          clear hee hne
          subst hR
          rcases hd with hz | ⟨rfl, hz⟩ | ⟨rfl, rfl, hz⟩ | ⟨rfl, rfl, rfl, hz⟩
          all_goals
            go_wp2_with fail
            go_quiet (fail)
            go_wp2
            go_ret
            exact ⟨rfl, by repeat (first | exact HU.out | apply Upd.drew | apply Upd.drewN)⟩
      · obtain rfl : j = xs.length := by omega
        have HE := Lib.hid heq
        have HU := Lib.hid hU
        have HL := Lib.hid hlen
        clear heq hU hlen
        go_wp2
        go_ret
        refine ⟨ret_bool ?_, HU.out⟩
        rw [← HR.out]
        have h3 := HE.out
        rw [List.take_length, HL.out, List.take_length] at h3
        simp [h3]
  · have hb : ((xs.length : Int) == (ys.length : Int)) = false := by simp; omega
    have hR : R = false := by
      rw [← HR.out]
      have : xs ≠ ys := by rintro rfl; exact hlen rfl
      simp [this]
    subst hR
    go_enter Try.func42, Try.ntmps42
    go_wp2
    go_ret
    exact ⟨rfl, Upd.refl _ _⟩
end Go.Proofs.Ytdmplkegjjbodaa
