/- Package ir: Check: what it answers, and its walk. -/
import Derived.Test.YtdmplkegjjbodaaIr4
namespace Go.Proofs.Ytdmplkegjjbodaa
set_option linter.unusedSimpArgs false
set_option linter.unusedVariables false
open Go.RowKit Go.Proofs.YtdmplkegjjbodaaW.PrintWords Go.Proofs.YtdmplkegjjbodaaW.PrintLast

def insFrom (v : Int) : Nat → List Ins → Option (Int × Int)
  | _, [] => none
  | j, i :: t => if ofF i v ≠ 0 then some (ofF i v, (j : Int)) else insFrom v (j + 1) t
def blkFault (v n : Int) (x : Block) : Option (Int × Int) :=
  if 32 < x.ins.length then some (9, -1)
  else match insFrom v 0 x.ins with
    | some r => some r
    | none => if endsF x.e v n ≠ 0 then some (endsF x.e v n, (x.ins.length : Int)) else none
def blksFrom (v n : Int) : Nat → List Block → Option (Int × Int × Int)
  | _, [] => none
  | j, x :: t => match blkFault v n x with
    | some r => some (r.1, (j : Int), r.2)
    | none => blksFrom v n (j + 1) t
def headBad (p v : Int) (n : Nat) : Prop := p < 0 ∨ 4 < p ∨ v < p ∨ 32 < v ∨ n < 1 ∨ 16 < n
instance (p v : Int) (n : Nat) : Decidable (headBad p v n) := inferInstanceAs (Decidable (_ ∨ _))
def checkF (p v : Int) (bs : List Block) : Int × Int × Int :=
  if headBad p v bs.length then (2, -1, -1) else (blksFrom v bs.length 0 bs).getD (0, 0, 0)
def faultV (t : Int × Int × Int) : Value := .agg #[.int .i64 t.1, .int .i64 t.2.1, .int .i64 t.2.2]
/-- every instruction's list of arguments is of a length that a slice may have -/
def fits (bs : List Block) : Prop := ∀ x ∈ bs, ∀ i ∈ x.ins, i.args.length * 8 ≤ 140737488355328

theorem insFrom_eq (v : Int) (l : List Ins) (j : Nat) (i : Ins) (h : l[j]? = some i) : insFrom v j (l.drop j) = if ofF i v ≠ 0 then some (ofF i v, (j : Int)) else insFrom v (j + 1) (l.drop (j + 1)) := by
  obtain ⟨hl, rfl⟩ := List.getElem?_eq_some_iff.1 h
  rw [List.drop_eq_getElem_cons hl, insFrom]
theorem blksFrom_eq (v n : Int) (l : List Block) (j : Nat) (x : Block) (h : l[j]? = some x) : blksFrom v n j (l.drop j) = match blkFault v n x with
    | some r => some (r.1, (j : Int), r.2)
    | none => blksFrom v n (j + 1) (l.drop (j + 1)) := by
  obtain ⟨hl, rfl⟩ := List.getElem?_eq_some_iff.1 h
  rw [List.drop_eq_getElem_cons hl, blksFrom]

theorem cells0 {w : World} {ad : Addr} {m : Nat} {cs : List Value} (h : ∀ j u, cs[j]? = some u → w.cell? (ad.add (m + j)) = some u) : ∀ u, cs[0]? = some u → w.cell? (ad.add m) = some u := fun u hu => h 0 u hu
theorem cellsF {w : World} {ad : Addr} {m : Nat} {cs : List Value} (h : ∀ j u, cs[j]? = some u → w.cell? (ad.add (m + j)) = some u) : ∀ q u, 0 < q → cs[q]? = some u → w.cell? ⟨(ad.add m).block, (ad.add m).off + q, none⟩ = some u := fun q u hq hu => by
  have := h q u hu
  rwa [add_field ad m q hq] at this
theorem sizeFault : (Try.prog.info? 37).map (·.size) = some 3 := by kernel_rfl
theorem set3 {w : World} {g : Nat} {t : TypeId} {a0 a1 a2 : Value} (h : w.heap[g]? = some (.cells #[a0, a1, a2] t (0, 0))) (b0 b1 b2 : Value) :
    (((w.setCell ⟨g, 0, none⟩ b0).setCell ⟨g, 1, none⟩ b1).setCell ⟨g, 2, none⟩ b2).heap[g]? = some (.cells #[b0, b1, b2] t (0, 0)) := by
  have := heap_set (heap_set (heap_set h 0 b0) 1 b1) 2 b2
  simpa using this
theorem upd3 {S : Nat → Prop} {w w' : World} (h : Upd S w w') {g : Nat} (hp : S g ∨ w.heap.size ≤ g) (b0 b1 b2 : Value) :
    Upd S w (((w'.setCell ⟨g, 0, none⟩ b0).setCell ⟨g, 1, none⟩ b1).setCell ⟨g, 2, none⟩ b2) :=
  ((h.set_ (p := ⟨g, 0, none⟩) hp b0).set_ (p := ⟨g, 1, none⟩) hp b1).set_ (p := ⟨g, 2, none⟩) hp b2

set_option maxRecDepth 100000 in
set_option maxHeartbeats 4000000 in
theorem check_bad (p v : Int) (n c : Nat) (A : Option Addr) (w : World) (hb : headBad p v n) :
    Calls Try.prog 46 #[.agg #[.int .i64 p, .int .i64 v, .slice A n c]] w fun e w' => e = .returned (faultV (2, -1, -1)) ∧ Upd (fun _ => False) w w' := by
  simp only [faultV, headBad] at *
  have hB : p < 0 ∨ (¬ p < 0 ∧ 4 < p) ∨ (¬ p < 0 ∧ ¬ 4 < p ∧ v < p) ∨ (¬ p < 0 ∧ ¬ 4 < p ∧ ¬ v < p ∧ 32 < v) ∨ (¬ p < 0 ∧ ¬ 4 < p ∧ ¬ v < p ∧ ¬ 32 < v ∧ (n : Int) < 1) ∨ (¬ p < 0 ∧ ¬ 4 < p ∧ ¬ v < p ∧ ¬ 32 < v ∧ ¬ (n : Int) < 1 ∧ 16 < (n : Int)) := by omega
  clear hb
  rcases hB with h1 | ⟨h1, h2⟩ | ⟨h1, h2, h3⟩ | ⟨h1, h2, h3, h4⟩ | ⟨h1, h2, h3, h4, h5⟩ | ⟨h1, h2, h3, h4, h5, h6⟩
  all_goals
    go_enter Try.func46, Try.ntmps46
    go_wp2
    exact bodyPost_ret (results_cell_row rfl _ _ (w.heap.size + 1) 37 #[.int .i64 2, .int .i64 (-1), .int .i64 (-1)] _ _ rfl (by have := heap_alloc_new (w.alloc (.cells #[.int .i64 p, .int .i64 v, .slice A n c] 24)) (.cells #[.int .i64 2, .int .i64 (-1), .int .i64 (-1)] 37); simpa using this) Try.underlying37 rfl sizeFault) rfl ⟨rfl, by repeat (first | exact Upd.refl _ _ | apply Upd.alloc)⟩

set_option maxRecDepth 100000 in
set_option maxHeartbeats 4000000 in
theorem check_good (p v : Int) (bs : List Block) (c : Nat) (A : Option Addr) (w : World) (hb : ¬ headBad p v bs.length) (hc : bs.length ≤ c) (hC : kBlock.C w A bs.length bs) (hfit : fits bs) :
    Calls Try.prog 46 #[.agg #[.int .i64 p, .int .i64 v, .slice A bs.length c]] w fun e w' => e = .returned (faultV ((blksFrom v bs.length 0 bs).getD (0, 0, 0))) ∧ Upd (fun _ => False) w w' := by
  have hC := Lib.hid hC
  simp only [headBad] at hb
  obtain ⟨F, hF⟩ : ∃ F, blksFrom v bs.length 0 bs = F := ⟨_, rfl⟩
  rw [hF]
  have HF := Lib.hid hF
  clear hF
  have h1 : ¬ p < 0 := by omega
  have h2 : ¬ 4 < p := by omega
  have h3 : ¬ v < p := by omega
  have h4 : ¬ 32 < v := by omega
  have h5 : ¬ (bs.length : Int) < 1 := by omega
  have h6 : ¬ 16 < (bs.length : Int) := by omega
  have hn : bs.length ≤ 16 := by omega
  clear hb
  go_enter Try.func46, Try.ntmps46
  go_wp2_with fail
  go_loopw [45] (fun i wr => ∃ j : Nat, j ≤ bs.length ∧ i = .int .i64 j ∧ blksFrom v bs.length j (bs.drop j) = F ∧ Upd (fun _ => False) w wr ∧
      wr.heap[w.heap.size]? = some (.cells #[.int .i64 p, .int .i64 v, .slice A bs.length c] 24 (0, 0)) ∧
      wr.heap[w.heap.size + 1]? = some (.cells #[.int .i64 0, .int .i64 0, .int .i64 0] 37 (0, 0))) (fun i _ => bs.length - (intOf i).toNat)
  case atStart =>
    refine ⟨0, by omega, rfl, by simpa using HF.out, by repeat (first | exact Upd.refl _ _ | apply Upd.alloc), ?_, ?_⟩
    · exact (Below.heap_alloc _ _ _ (by simp)).trans (heap_alloc_new w _)
    · have := heap_alloc_new (w.alloc (.cells #[.int .i64 p, .int .i64 v, .slice A bs.length c] 24)) (.cells #[.int .i64 0, .int .i64 0, .int .i64 0] 37)
      simpa using this
  case round =>
    obtain ⟨j, hj, rfl, hfr, hU, hB1, hB2⟩ := hrel
    by_cases hlt : j < bs.length
    · have hCr := Kd.C_below hC.out (hU.below (B := w.heap.size) (fun _ h => h.elim) (Nat.le_refl _))
      obtain ⟨ad, cs, rfl, hcl, hK, hcell⟩ := Kd.C_get hCr zBlock j (by omega) (by omega)
      have hg : bs[j]? = some (bs.getD j zBlock) := by simp [List.getD, hlt]
      simp only [Int.toNat_natCast] at hcell hK
      obtain ⟨x, hx⟩ : ∃ x, bs.getD j zBlock = x := ⟨_, rfl⟩
      rw [hx] at hg hK
      obtain ⟨A2, c2, rfl, hc2, hC2⟩ := kBlock_K.1 hK
      simp only [kBlock_sz] at hcell
      have r0 := cells0 hcell _ rfl
      have r1 := cellsF hcell 1 _ (by decide) rfl
      have r2 := cellsF hcell 2 _ (by decide) rfl
      have r3 := cellsF hcell 3 _ (by decide) rfl
      have r4 := cellsF hcell 4 _ (by decide) rfl
      have hBB1 := Lib.hid hB1
      have hBB2 := Lib.hid hB2
      have HG := Lib.hid hg
      have HFR := Lib.hid hfr
      clear hx hK hcl hg hcell hCr hfr hB1 hB2
      obtain ⟨wi, hwi⟩ : ∃ wi, wi = wr.alloc (.cells (x.cells (.slice A2 x.ins.length c2)).toArray 77) := ⟨_, rfl⟩
      have hUi : Upd (fun _ => False) w wi := by rw [hwi]; exact hU.alloc _
      have hsw : w.heap.size + 1 < wr.heap.size := blk_lt' hBB2.out
      have hi1 := (show wi.heap[w.heap.size]? = wr.heap[w.heap.size]? by rw [hwi]; exact Below.heap_alloc _ _ _ (by omega)).trans hBB1.out
      have hi2 := (show wi.heap[w.heap.size + 1]? = wr.heap[w.heap.size + 1]? by rw [hwi]; exact Below.heap_alloc _ _ _ (by omega)).trans hBB2.out
      have hi3 : wi.heap[wr.heap.size]? = some (.cells #[.slice A2 x.ins.length c2, .int .u8 x.e.kind, .int .i64 x.e.a, .int .i64 x.e.jt, .int .i64 x.e.je] 77 (0, 0)) := by rw [hwi]; exact heap_alloc_new wr _
      have hCI := Lib.hid (Kd.C_below hC2 (show Below wr.heap.size wr wi by rw [hwi]; exact below_alloc (Below.refl _ _) _))
      clear hC2
      have hI1 := Lib.hid hi1
      have hI2 := Lib.hid hi2
      have hI3 := Lib.hid hi3
      have hUI := Lib.hid hUi
      go_upto_if 53 with fail
      rw [← show wi = wr.alloc (.cells #[.slice A2 x.ins.length c2, .int .u8 x.e.kind, .int .i64 x.e.a, .int .i64 x.e.jt, .int .i64 x.e.je] 77) from hwi]
      clear hwi hU
      have f0 := cellAt hi2 0 _ rfl
      have f1 := cellAt hi2 1 _ rfl
      have f2 := cellAt hi2 2 _ rfl
      have z0 := froz hi2 0
      have z1 := froz hi2 1
      have z2 := froz hi2 2
      have e0 := cellAt hi3 0 _ rfl
      have m1 := cellAt hi1 1 _ rfl
      have m2 := cellAt hi1 2 _ rfl
      clear hi1 hi2 hi3 hUi
      by_cases hm : 32 < (x.ins.length : Int)
      · go_wp2
        have hm' : 32 < x.ins.length := by omega
        refine bodyPost_ret (results_cell_row rfl _ _ (w.heap.size + 1) 37 #[.int .i64 9, .int .i64 j, .int .i64 (-1)] _ _ rfl (set3 hI2.out _ _ _) Try.underlying37 rfl sizeFault) rfl ⟨?_, upd3 hUI.out (.inr (by omega)) _ _ _⟩
        rw [← HFR.out, blksFrom_eq _ _ _ _ _ HG.out, blkFault, if_pos hm']
        rfl
      · obtain ⟨FI, hFI⟩ : ∃ FI, insFrom v 0 x.ins = FI := ⟨_, rfl⟩
        have HFI := Lib.hid hFI
        clear hFI
        have hfx := Lib.hid (hfit x (List.mem_of_getElem? HG.out))
        have hmn : x.ins.length ≤ 32 := by omega
        go_wp2_with fail
        go_loopw [59] (fun i w2 => ∃ q : Nat, q ≤ x.ins.length ∧ i = .int .i64 q ∧ insFrom v q (x.ins.drop q) = FI ∧ Upd (fun _ => False) wi w2) (fun i _ => x.ins.length - (intOf i).toNat)
        case atStart => exact ⟨0, by omega, rfl, by simpa using HFI.out, Upd.refl _ _⟩
        case round =>
          obtain ⟨wo, rfl⟩ : ∃ wo : World, wo = wr := ⟨_, rfl⟩
          obtain ⟨q, hq, rfl, hqi, hU2⟩ := hrel
          have hb2 := hU2.blk hI2.out (by simp)
          have hb3 := hU2.blk hI3.out (by simp)
          have hb1 := hU2.blk hI1.out (by simp)
          have hw2 := blk_lt' hb2
          have HU2 := Lib.hid (hUI.out.trans hU2)
          have HQI := Lib.hid hqi
          have hCx := Kd.C_below hCI.out (hU2.below (B := wi.heap.size) (fun _ h => h.elim) (Nat.le_refl _))
          have hCA := Kd.C_below hC.out (HU2.out.below (B := w.heap.size) (fun _ h => h.elim) (Nat.le_refl _))
          have HU2i := Lib.hid hU2
          clear hqi hU2 e0 m1 m2 f0 f1 f2 z0 z1 z2
          by_cases hlq : q < x.ins.length
          · obtain ⟨ad2, ds, rfl, hdl, hK, hcell⟩ := Kd.C_get hCx zIns q (by omega) (by omega)
            have hg : x.ins[q]? = some (x.ins.getD q zIns) := by simp [List.getD, hlq]
            simp only [Int.toNat_natCast] at hcell hK
            obtain ⟨y, hy⟩ : ∃ y, x.ins.getD q zIns = y := ⟨_, rfl⟩
            rw [hy] at hg hK
            obtain ⟨A3, c3, rfl, hc3, hC3⟩ := kIns_K.1 hK
            simp only [kIns_sz] at hcell
            have r0 := cells0 hcell _ rfl
            have r1 := cellsF hcell 1 _ (by decide) rfl
            have r2 := cellsF hcell 2 _ (by decide) rfl
            have r3 := cellsF hcell 3 _ (by decide) rfl
            have r4 := cellsF hcell 4 _ (by decide) rfl
            have r5 := cellsF hcell 5 _ (by decide) rfl
            have r6 := cellsF hcell 6 _ (by decide) rfl
            have m0 := cellAt hb1 1 _ rfl
            have m1 := (World.cell?_alloc_some wo _ (.cells #[.int .u8 y.kind, .int .u8 y.op, .int .i64 y.d, .int .i64 y.a, .int .i64 y.b, .int .i64 y.n, .slice A3 y.args.length c3] 82) (by rw [m0]; rfl)).trans m0
            have HG2 := Lib.hid hg
            have HB1 := Lib.hid hb1
            have HB2 := Lib.hid hb2
            have HB3 := Lib.hid hb3
            have HC3 := Lib.hid hC3
            have hly := Lib.hid (hfx.out y (List.mem_of_getElem? hg))
            clear hy hK hdl hg hcell hCx hCA hb1 hb2 hb3 hC3
            go_wp2_with fail
            refine (of_calls y A3 c3 v _ hc3 (Kd.C_alloc HC3.out _) hly.out).mono ?_
            rintro e w5 ⟨rfl, h5⟩
            have hU5 := Lib.hid (((Upd.refl (fun _ => False) wo).alloc _).trans h5)
            have hb5 := hU5.out.blk HB2.out (by simp)
            clear h5
            have f0 := cellAt hb5 0 _ rfl
            have f1 := cellAt hb5 1 _ rfl
            have f2 := cellAt hb5 2 _ rfl
            have z0 := froz hb5 0
            have z1 := froz hb5 1
            have z2 := froz hb5 2
            have HB5 := Lib.hid hb5
            clear hb5 r0 r1 r2 r3 r4 r5 r6 m0 m1
            obtain ⟨o, ho⟩ : ∃ o, ofF y v = o := ⟨_, rfl⟩
            rw [ho]
            have HO := Lib.hid ho
            clear ho
            cases hz : (o == 0) with
            | true =>
              obtain rfl := eq_of_beq hz
              go_wp2
              refine ⟨⟨q + 1, by omega, by simp, ?_, HU2i.out.trans hU5.out⟩, by simp [intOf]; omega⟩
              rw [← HQI.out, insFrom_eq _ _ _ _ HG2.out, if_neg (by simp [HO.out])]
            | false =>
              go_wp2
              refine bodyPost_ret (results_cell_row rfl _ _ (w.heap.size + 1) 37 #[.int .i64 o, .int .i64 j, .int .i64 q] _ _ rfl (set3 HB5.out _ _ _) Try.underlying37 rfl sizeFault) rfl ⟨?_, upd3 (HU2.out.trans hU5.out) (.inr (by omega)) _ _ _⟩
              have ho : o ≠ 0 := by simpa using hz
              have e : insFrom v 0 x.ins = some (o, (q : Int)) := by
                rw [HFI.out, ← HQI.out, insFrom_eq _ _ _ _ HG2.out, if_pos (by rw [HO.out]; exact ho), HO.out]
              rw [← HFR.out, blksFrom_eq _ _ _ _ _ HG.out, blkFault, if_neg (by omega), e]
              rfl
          · obtain rfl : q = x.ins.length := by omega
            have m1 := cellAt hb1 1 _ rfl
            have m2 := cellAt hb1 2 _ rfl
            have e1 := cellAt hb3 1 _ rfl
            have e2 := cellAt hb3 2 _ rfl
            have e3 := cellAt hb3 3 _ rfl
            have e4 := cellAt hb3 4 _ rfl
            have HB1 := Lib.hid hb1
            have HB2 := Lib.hid hb2
            have HB3 := Lib.hid hb3
            clear hb1 hb2 hb3 hCx hCA
            go_wp2_with fail
            refine (ends_calls x.e v bs.length _).mono ?_
            rintro e w5 ⟨rfl, h5⟩
            have hb5 := h5.blk HB2.out (by simp)
            have hb51 := h5.blk HB1.out (by simp)
            have hb53 := h5.blk HB3.out (by simp)
            have hU5 := Lib.hid h5
            clear h5
            have f0 := cellAt hb5 0 _ rfl
            have f1 := cellAt hb5 1 _ rfl
            have f2 := cellAt hb5 2 _ rfl
            have z0 := froz hb5 0
            have z1 := froz hb5 1
            have z2 := froz hb5 2
            have g0 := cellAt hb53 0 _ rfl
            have HB5 := Lib.hid hb5
            have HB51 := Lib.hid hb51
            clear hb5 hb51 hb53 m1 m2 e1 e2 e3 e4
            obtain ⟨o, ho⟩ : ∃ o, endsF x.e v bs.length = o := ⟨_, rfl⟩
            rw [ho]
            have HO := Lib.hid ho
            clear ho
            have hnone : insFrom v 0 x.ins = none := by rw [HFI.out, ← HQI.out, List.drop_length]; rfl
            have HN := Lib.hid hnone
            clear hnone
            cases hz : (o == 0) with
            | true =>
              obtain rfl := eq_of_beq hz
              go_wp2
              refine ⟨⟨j + 1, by omega, by simp, ?_, HU2.out.trans hU5.out, HB51.out, HB5.out⟩, by simp [intOf]; omega⟩
              rw [← HFR.out, blksFrom_eq _ _ _ _ _ HG.out, blkFault, if_neg (by omega), HN.out]
              simp [HO.out]
            | false =>
              go_wp2
              refine bodyPost_ret (results_cell_row rfl _ _ (w.heap.size + 1) 37 #[.int .i64 o, .int .i64 j, .int .i64 x.ins.length] _ _ rfl (set3 HB5.out _ _ _) Try.underlying37 rfl sizeFault) rfl ⟨?_, upd3 (HU2.out.trans hU5.out) (.inr (by omega)) _ _ _⟩
              have ho : o ≠ 0 := by simpa using hz
              rw [← HFR.out, blksFrom_eq _ _ _ _ _ HG.out, blkFault, if_neg (by omega), HN.out]
              simp [HO.out, ho, faultV]
    · obtain rfl : j = bs.length := by omega
      have f0 := cellAt hB2 0 _ rfl
      have f1 := cellAt hB2 1 _ rfl
      have f2 := cellAt hB2 2 _ rfl
      have z0 := froz hB2 0
      have z1 := froz hB2 1
      have z2 := froz hB2 2
      have HB2 := Lib.hid hB2
      have HU := Lib.hid hU
      have HFR := Lib.hid hfr
      clear hB1 hB2 hU hfr
      go_wp2
      have hlt' := blk_lt' HB2.out
      refine bodyPost_ret (results_cell_row rfl _ _ (w.heap.size + 1) 37 #[.int .i64 0, .int .i64 0, .int .i64 0] _ _ rfl (set3 HB2.out _ _ _) Try.underlying37 rfl sizeFault) rfl ⟨?_, upd3 HU.out (.inr (by omega)) _ _ _⟩
      rw [← HFR.out, List.drop_length]
      rfl

theorem check_calls (p v : Int) (bs : List Block) (c : Nat) (A : Option Addr) (w : World) (hc : bs.length ≤ c) (hC : kBlock.C w A bs.length bs) (hfit : fits bs) :
    Calls Try.prog 46 #[.agg #[.int .i64 p, .int .i64 v, .slice A bs.length c]] w fun e w' => e = .returned (faultV (checkF p v bs)) ∧ Upd (fun _ => False) w w' := by
  unfold checkF
  by_cases hb : headBad p v bs.length
  · rw [if_pos hb]
    exact check_bad p v bs.length c A w hb
  · rw [if_neg hb]
    exact check_good p v bs c A w hb hc hC hfit
end Go.Proofs.Ytdmplkegjjbodaa
