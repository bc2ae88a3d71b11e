/- Package wire: blocks: what it answers, and its walk. -/
import Derived.Test.YtdmplkegjjbodaaWi
namespace Go.Proofs.Ytdmplkegjjbodaa
set_option linter.unusedSimpArgs false
set_option linter.unusedVariables false
open Go.RowKit Go.Proofs.YtdmplkegjjbodaaW.PrintWords Go.Proofs.YtdmplkegjjbodaaW.PrintLast

def endB (e : End) : List Int := if e.kind = 1 then nms [e.jt] else if e.kind = 2 then nms [e.a, e.jt, e.je] else nms [e.a]
def blockB (x : Block) : List Int := nms [(x.ins.length : Int)] ++ x.ins.flatMap insC ++ nms [x.e.kind] ++ endB x.e
def blksB (bs : List Block) : List Int := nms [(bs.length : Int)] ++ bs.flatMap blockB

/-- the ranges of what instructions hold -/
def typedI (i : Ins) : Prop := (0 ≤ i.kind ∧ i.kind ≤ 255) ∧ (0 ≤ i.op ∧ i.op ≤ 255) ∧ (-9223372036854775808 ≤ i.n ∧ i.n ≤ 9223372036854775807) ∧ i.args.length ≤ 140737488355328
def typedB (x : Block) : Prop := (0 ≤ x.e.kind ∧ x.e.kind ≤ 255) ∧ (∀ i ∈ x.ins, typedI i) ∧ x.ins.length ≤ 140737488355328

theorem below_upd {B : Nat} {S : Nat → Prop} {w0 w w' : World} (h : Below B w0 w) (hB : B ≤ w.heap.size) (hu : Upd S w w') (hS : ∀ k, S k → B ≤ k) : Below B w0 w' :=
  ⟨hu.os.trans h.os, hu.tape.trans h.tape, hu.output.trans h.output, Nat.le_trans h.size hu.size, fun i hi => (hu.block i (by omega) (fun hk => by have := hS i hk; omega)).trans (h.block i hi)⟩
theorem flat_take {α : Type} (f : α → List Int) (xs : List α) (j : Nat) (x : α) (h : xs[j]? = some x) : (xs.take (j + 1)).flatMap f = (xs.take j).flatMap f ++ f x := by
  rw [List.take_add_one, h]
  simp
theorem flat_take_le {α : Type} (f : α → List Int) (xs : List α) (j : Nat) : ((xs.take j).flatMap f).length ≤ (xs.flatMap f).length := by
  have h : xs.flatMap f = (xs.take j).flatMap f ++ (xs.drop j).flatMap f := by rw [← List.flatMap_append, List.take_append_drop]
  rw [h, List.length_append]
  omega

set_option maxRecDepth 100000 in
set_option maxHeartbeats 4000000 in
theorem wblocks_calls (bs : List Block) (A : Option Addr) (c g B : Nat) (l : List Int) (w0 w : World) (hW : Wr w g B l) (hc : bs.length ≤ c) (hC : kBlock.C w0 A bs.length bs) (hb0 : Below w0.heap.size w0 w) (hg0 : w0.heap.size ≤ g) (hl : (l ++ blksB bs).length ≤ 140737488355328) (hx : bs.length ≤ 140737488355328)
    (hty : ∀ x ∈ bs, typedB x) :
    Calls Try.prog 48 #[.pointer (some ⟨g, 0, none⟩), .slice A bs.length c] w (NumsPost w g B (l ++ blksB bs)) := by
  have hgl := hW.lt
  have HW := Lib.hid hW
  have HC := Lib.hid hC
  have HB0 := Lib.hid hb0
  have HTY := Lib.hid hty
  obtain ⟨l0, hl0⟩ : ∃ l0, l ++ nms [(bs.length : Int)] = l0 := ⟨_, rfl⟩
  have hfin : l ++ blksB bs = l0 ++ bs.flatMap blockB := by rw [blksB, ← hl0, List.append_assoc]
  rw [hfin] at hl ⊢
  have HL0 := Lib.hid hl0
  have HL := Lib.hid hl
  clear hW hC hb0 hty hfin hl hl0
  go_enter Try.func48, Try.ntmps48
  go_wp2_with fail
  refine (nums_lit [(bs.length : Int)] g B w.heap.size l w HW.out rfl (by rw [HL0.out]; have := HL.out; rw [List.length_append] at this; omega) (by simp)).mono ?_
  rintro e w1 ⟨rfl, h1, h2⟩
  rw [HL0.out] at h1
  have HW1 := Lib.hid h1
  have HU1 := Lib.hid h2
  clear h1 h2
  go_wp2_with fail
  go_loopw [15] (fun i wr => ∃ j : Nat, j ≤ bs.length ∧ i = .int .i64 j ∧ Wr wr g B (l0 ++ (bs.take j).flatMap blockB) ∧ Upd (· = g) w wr) (fun i _ => bs.length - (intOf i).toNat)
  case atStart => exact ⟨0, by omega, rfl, by simpa using HW1.out, HU1.out⟩
  case round =>
    obtain ⟨j, hj, rfl, hWr, hU⟩ := hrel
    by_cases hlt : j < bs.length
    · obtain ⟨ad, cs, rfl, hcl, hK, hcell⟩ := Kd.C_get HC.out zBlock j (by omega) (by omega)
      have hg : bs[j]? = some (bs.getD j zBlock) := by simp [List.getD, hlt]
      simp only [Int.toNat_natCast] at hcell hK
      obtain ⟨x, hx⟩ : ∃ x, bs.getD j zBlock = x := ⟨_, rfl⟩
      rw [hx] at hg hK
      obtain ⟨A2, c2, rfl, hc2, hC2⟩ := kBlock_K.1 hK
      simp only [kBlock_sz] at hcell
      have hbr := below_upd HB0.out HB0.out.size hU (fun k e => by omega)
      have r0 := pw_cell_below hbr (cells0 hcell _ rfl)
      have r1 := pw_cell_below hbr (cellsF hcell 1 _ (by decide) rfl)
      have r2 := pw_cell_below hbr (cellsF hcell 2 _ (by decide) rfl)
      have r3 := pw_cell_below hbr (cellsF hcell 3 _ (by decide) rfl)
      have r4 := pw_cell_below hbr (cellsF hcell 4 _ (by decide) rfl)
      have HX := Lib.hid (HTY.out x (List.mem_of_getElem? hg))
      obtain ⟨la, hla⟩ : ∃ la, l0 ++ (bs.take j).flatMap blockB = la := ⟨_, rfl⟩
      rw [hla] at hWr
      have hlj : l0 ++ (bs.take (j + 1)).flatMap blockB = la ++ blockB x := by rw [flat_take blockB bs j x hg, ← List.append_assoc, hla]
      have hlen : (la ++ blockB x).length ≤ 140737488355328 := by
        rw [← hlj]
        have h1 := HL.out
        have h2 := flat_take_le blockB bs (j + 1)
        rw [List.length_append] at h1 ⊢
        omega
      have hxl := HX.out.2.2
      have HLJ := Lib.hid hlj
      have HLEN := Lib.hid hlen
      have HWR := Lib.hid hWr
      have HU := Lib.hid hU
      have HC2 := Lib.hid hC2
      have HBR := Lib.hid hbr
      have hglr := hWr.lt
      clear hx hK hcl hg hcell hC2 hla hlj hlen hWr hU hbr
      go_wp2_with fail
      obtain ⟨lb, hlb⟩ : ∃ lb, la ++ nms [(x.ins.length : Int)] = lb := ⟨_, rfl⟩
      obtain ⟨ld, hld⟩ : ∃ ld, (lb ++ x.ins.flatMap insC) ++ nms [x.e.kind] = ld := ⟨_, rfl⟩
      have hfull : la ++ blockB x = ld ++ endB x.e := by rw [blockB, ← hld, ← hlb]; simp only [List.append_assoc]
      have hlend : (ld ++ endB x.e).length ≤ 140737488355328 := by rw [← hfull]; exact HLEN.out
      have hlenc : ((lb ++ x.ins.flatMap insC) ++ nms [x.e.kind]).length ≤ 140737488355328 := by rw [hld]; rw [List.length_append] at hlend; omega
      have HFULL := Lib.hid hfull
      have HLD := Lib.hid hld
      have HLEND := Lib.hid hlend
      have HLENC := Lib.hid hlenc
      refine (nums_lit [(x.ins.length : Int)] g B (wr.heap.size + 1) la _ (HWR.out.alloc _) (by simp) (by rw [hlb]; have := HLENC.out; simp only [List.length_append] at this ⊢; omega) (by simp)).mono ?_
      rintro e w2 ⟨rfl, h1, h2⟩
      rw [hlb] at h1
      clear hlb hfull hld hlend hlenc
      have hb2 := h2.blk (heap_alloc_new wr _) (by omega)
      have HW2 := Lib.hid h1
      have HU2 := Lib.hid (((Upd.refl (· = g) wr).alloc _).trans h2)
      clear h1 h2 r0 r1 r2 r3 r4
      have r0 := cellAt hb2 0 _ rfl
      have HB2 := Lib.hid hb2
      clear hb2
      go_wp2_with fail
      go_loopw [28] (fun i w3 => ∃ q : Nat, q ≤ x.ins.length ∧ i = .int .i64 q ∧ Wr w3 g B (lb ++ (x.ins.take q).flatMap insC) ∧ Upd (· = g) w2 w3) (fun i _ => x.ins.length - (intOf i).toNat)
      case atStart => exact ⟨0, by omega, rfl, by simpa using HW2.out, Upd.refl _ _⟩
      case round =>
        obtain ⟨wo, rfl⟩ : ∃ wo : World, wo = wr := ⟨_, rfl⟩
        obtain ⟨q, hq, rfl, hWo, hUo⟩ := hrel
        have HWO := Lib.hid hWo
        have hbo := below_upd HBR.out (Nat.le_trans HB0.out.size (HU.out.size)) (HU2.out.trans hUo) (fun k e => by omega)
        have HBO := Lib.hid hbo
        have hbk := hUo.blk HB2.out (by omega)
        have HUO := Lib.hid hUo
        have hglo := hWo.lt
        have hso : w0.heap.size ≤ wo.heap.size := by omega
        clear hWo hbo hUo r0
        by_cases hlq : q < x.ins.length
        · obtain ⟨ad2, ds, rfl, hdl, hK, hcell⟩ := Kd.C_get HC2.out zIns q (by omega) (by omega)
          have hg : x.ins[q]? = some (x.ins.getD q zIns) := by simp [List.getD, hlq]
          simp only [Int.toNat_natCast] at hcell hK
          obtain ⟨y, hy⟩ : ∃ y, x.ins.getD q zIns = y := ⟨_, rfl⟩
          rw [hy] at hg hK
          obtain ⟨A3, c3, rfl, hc3, hC3⟩ := kIns_K.1 hK
          simp only [kIns_sz] at hcell
          have r0 := pw_cell_below HBO.out (cells0 hcell _ rfl)
          have r1 := pw_cell_below HBO.out (cellsF hcell 1 _ (by decide) rfl)
          have r2 := pw_cell_below HBO.out (cellsF hcell 2 _ (by decide) rfl)
          have r3 := pw_cell_below HBO.out (cellsF hcell 3 _ (by decide) rfl)
          have r4 := pw_cell_below HBO.out (cellsF hcell 4 _ (by decide) rfl)
          have r5 := pw_cell_below HBO.out (cellsF hcell 5 _ (by decide) rfl)
          have r6 := pw_cell_below HBO.out (cellsF hcell 6 _ (by decide) rfl)
          have HTI := Lib.hid (HX.out.2.1 y (List.mem_of_getElem? hg))
          obtain ⟨lq, hlq'⟩ : ∃ lq, lb ++ (x.ins.take q).flatMap insC = lq := ⟨_, rfl⟩
          have hstep : lb ++ (x.ins.take (q + 1)).flatMap insC = lq ++ insC y := by rw [flat_take insC x.ins q y hg, ← List.append_assoc, hlq']
          have HSTEP := Lib.hid hstep
          have HLQ := Lib.hid hlq'
          have HC3 := Lib.hid hC3
          clear hy hK hdl hg hcell hC3 hbk hstep hlq'
          go_wp2_with fail
          have p1 : ∀ o, Wr (wo.alloc o) g B lq := fun o => by rw [← HLQ.out]; exact HWO.out.alloc _
          have p2 : ∀ o W', Upd (· = g) (wo.alloc o) W' → (Kd.int .i64).C W' A3 y.args.length y.args := fun o W' hu => Kd.C_below HC3.out (below_upd (HBO.out.alloc hso o) (by rw [World.size_alloc]; omega) hu (fun k e => by omega))
          have p3 : (lq ++ insC y).length ≤ 140737488355328 := by
            rw [← HSTEP.out]
            have h1 := HLENC.out
            have h2 := flat_take_le insC x.ins (q + 1)
            simp only [List.length_append] at h1 ⊢
            omega
          refine (wins_calls y A3 c3 g B lq (wo.alloc _) (p1 _) hc3 (p2 _) p3 HTI.out.2.2.2 HTI.out.1 HTI.out.2.1 HTI.out.2.2.1).mono ?_
          rintro e w5 ⟨rfl, h1, h2⟩
          rw [← HSTEP.out] at h1
          have HW5 := Lib.hid h1
          have HU5 := Lib.hid ((HUO.out.alloc _).trans h2)
          clear h1 h2 r0 r1 r2 r3 r4 r5 r6
          go_wp2
          exact ⟨⟨q + 1, by omega, by simp, HW5.out, HU5.out⟩, by simp [intOf]; omega⟩
        · obtain rfl : q = x.ins.length := by omega
          have k1 := cellAt hbk 1 _ rfl
          have HK := Lib.hid hbk
          have hkr := HX.out.1
          have hKU := Lib.hid ((HU.out.trans HU2.out).trans HUO.out)
          clear hbk
          have hWx := Lib.hid (show Wr wo g B (lb ++ x.ins.flatMap insC) by have := HWO.out; rwa [List.take_length] at this)
          go_wp2_with fail
          refine (nums_lit [x.e.kind] g B wo.heap.size _ wo hWx.out rfl HLENC.out (by simp)).mono ?_
          rintro e w5 ⟨rfl, h1, h2⟩
          rw [HLD.out] at h1
          have hb5 := h2.blk HK.out (by omega)
          have HW5 := Lib.hid h1
          have HU5 := Lib.hid (hKU.out.trans h2)
          clear h1 h2 k1
          have k1 := cellAt hb5 1 _ rfl
          have k2 := cellAt hb5 2 _ rfl
          have k3 := cellAt hb5 3 _ rfl
          have k4 := cellAt hb5 4 _ rfl
          clear hb5
          by_cases e1 : x.e.kind = 1
          · have he := Lib.hid (show endB x.e = nms [x.e.jt] by rw [endB, if_pos e1])
            have z1 : (x.e.kind == 1) = true := by simpa using e1
            clear e1
            go_wp2_with fail
            refine (nums_lit [x.e.jt] g B w5.heap.size ld w5 HW5.out rfl (by have := HLEND.out; rw [he.out] at this; exact this) (by simp)).mono ?_
            rintro e w6 ⟨rfl, h1, h2⟩
            rw [← he.out, ← HFULL.out, ← HLJ.out] at h1
            have HW6 := Lib.hid h1
            have HU6 := Lib.hid (HU5.out.trans h2)
            clear h1 h2
            go_wp2
            exact ⟨⟨j + 1, by omega, by simp, HW6.out, HU6.out⟩, by simp [intOf]; omega⟩
          by_cases e2 : x.e.kind = 2
          · have he := Lib.hid (show endB x.e = nms [x.e.a, x.e.jt, x.e.je] by rw [endB, if_neg e1, if_pos e2])
            have z1 : (x.e.kind == 1) = false := by simpa using e1
            have z2 : (x.e.kind == 2) = true := by simpa using e2
            clear e1 e2
            go_wp2_with fail
            refine (nums_lit [x.e.a, x.e.jt, x.e.je] g B w5.heap.size ld w5 HW5.out rfl (by have := HLEND.out; rw [he.out] at this; exact this) (by simp)).mono ?_
            rintro e w6 ⟨rfl, h1, h2⟩
            rw [← he.out, ← HFULL.out, ← HLJ.out] at h1
            have HW6 := Lib.hid h1
            have HU6 := Lib.hid (HU5.out.trans h2)
            clear h1 h2
            go_wp2
            exact ⟨⟨j + 1, by omega, by simp, HW6.out, HU6.out⟩, by simp [intOf]; omega⟩
          · have he := Lib.hid (show endB x.e = nms [x.e.a] by rw [endB, if_neg e1, if_neg e2])
            have z1 : (x.e.kind == 1) = false := by simpa using e1
            have z2 : (x.e.kind == 2) = false := by simpa using e2
            clear e1 e2
            go_wp2_with fail
            refine (nums_lit [x.e.a] g B w5.heap.size ld w5 HW5.out rfl (by have := HLEND.out; rw [he.out] at this; exact this) (by simp)).mono ?_
            rintro e w6 ⟨rfl, h1, h2⟩
            rw [← he.out, ← HFULL.out, ← HLJ.out] at h1
            have HW6 := Lib.hid h1
            have HU6 := Lib.hid (HU5.out.trans h2)
            clear h1 h2
            go_wp2
            exact ⟨⟨j + 1, by omega, by simp, HW6.out, HU6.out⟩, by simp [intOf]; omega⟩
    · obtain rfl : j = bs.length := by omega
      go_wp2
      refine bodyPost_end (results_none rfl _ _ _) rfl ⟨rfl, by simpa using hWr, hU⟩
end Go.Proofs.Ytdmplkegjjbodaa
