/- Package ir: of: what it answers, and its walk. -/
import Derived.Test.YtdmplkegjjbodaaIr3
namespace Go.Proofs.Ytdmplkegjjbodaa
set_option linter.unusedSimpArgs false
set_option linter.unusedVariables false
open Go.RowKit Go.Proofs.YtdmplkegjjbodaaW.PrintWords Go.Proofs.YtdmplkegjjbodaaW.PrintLast

def badKind (i : Ins) : Prop := i.kind < 1 ∨ 6 < i.kind ∨ (i.kind = 3 ∧ (i.op < 1 ∨ 7 < i.op))
instance (i : Ins) : Decidable (badKind i) := inferInstanceAs (Decidable (_ ∨ _))
def takesOf (i : Ins) : List Int := usesOf i ++ (if givesB i.kind = true then [i.d] else [])
def ofF (i : Ins) (v : Int) : Int :=
  if badKind i ∨ plainB i = false then 20
  else if 3 < i.args.length then 25
  else if ∃ x ∈ takesOf i, x < 0 ∨ v ≤ x then 21 else 0

set_option maxRecDepth 100000 in
set_option maxHeartbeats 4000000 in
theorem of_bad (i : Ins) (A : Option Addr) (c : Nat) (v : Int) (w : World) (hb : badKind i) :
    Calls Try.prog 66 #[.agg (i.cells (.slice A i.args.length c)).toArray, .int .i64 v] w fun e w' => e = .returned (.int .i64 20) ∧ Upd (fun _ => False) w w' := by
  obtain ⟨k, op, d, a, b, n, args⟩ := i
  simp only [Ins.cells, badKind] at *
  rcases hb with hb | hb | ⟨rfl, hb | hb⟩
  · have h0 : (k < 1) := hb
    go_enter Try.func66, Try.ntmps66
    go_wp2
    go_ret
    exact ⟨rfl, by repeat (first | exact Upd.refl _ _ | apply Upd.alloc | apply Upd.drew | apply Upd.drewN)⟩
  · have h0 : ¬ (k < 1) := by omega
    go_enter Try.func66, Try.ntmps66
    go_wp2
    go_ret
    exact ⟨rfl, by repeat (first | exact Upd.refl _ _ | apply Upd.alloc | apply Upd.drew | apply Upd.drewN)⟩
  · go_enter Try.func66, Try.ntmps66
    go_wp2
    go_ret
    exact ⟨rfl, by repeat (first | exact Upd.refl _ _ | apply Upd.alloc | apply Upd.drew | apply Upd.drewN)⟩
  · have h0 : ¬ (op < 1) := by omega
    go_enter Try.func66, Try.ntmps66
    go_wp2
    go_ret
    exact ⟨rfl, by repeat (first | exact Upd.refl _ _ | apply Upd.alloc | apply Upd.drew | apply Upd.drewN)⟩

set_option maxRecDepth 100000 in
set_option maxHeartbeats 4000000 in
theorem of_good (i : Ins) (A : Option Addr) (c : Nat) (v : Int) (w : World) (hc : i.args.length ≤ c) (hC : (Kd.int .i64).C w A i.args.length i.args) (hl : i.args.length * 8 ≤ 140737488355328) (hb : ¬ badKind i) :
    Calls Try.prog 66 #[.agg (i.cells (.slice A i.args.length c)).toArray, .int .i64 v] w fun e w' => e = .returned (.int .i64 (ofF i v)) ∧ Upd (fun _ => False) w w' := by
  obtain ⟨F, hF⟩ : ∃ F, ofF i v = F := ⟨_, rfl⟩
  rw [hF]
  obtain ⟨pb, hpb⟩ : ∃ pb, plainB i = pb := ⟨_, rfl⟩
  obtain ⟨gb, hgb⟩ : ∃ gb, givesB i.kind = gb := ⟨_, rfl⟩
  have hplain := Lib.hid (fun W => plain_calls i A c W (by omega))
  have huses := Lib.hid (fun W (h : (Kd.int .i64).C W A i.args.length i.args) => uses_calls i A c W hc h hl)
  have hgives := Lib.hid (fun W => gives_calls i A c W)
  rw [hpb] at hplain
  rw [hgb] at hgives
  have HG := Lib.hid hgb
  clear hgb
  have hF := Lib.hid hF
  obtain ⟨k, op, d, a, b, n, args⟩ := i
  simp only [Ins.cells, badKind] at *
  have hk1 : ¬ k < 1 := by omega
  have hk2 : ¬ 6 < k := by omega
  have hb3 : (∃ q, (k == 3) = q) := ⟨_, rfl⟩
  obtain ⟨q, hk3⟩ := hb3
  have ho : q = true → ¬ op < 1 ∧ ¬ 7 < op := by rintro rfl; have := eq_of_beq hk3; omega
  cases q
  case' true => obtain ⟨ho1, ho2⟩ := ho rfl
  all_goals
    clear ho
    have HB := Lib.hid hb
    clear hb
    go_enter Try.func66, Try.ntmps66
    go_wp2_with fail
    refine (hplain.out _).mono ?_
    rintro e w1 ⟨rfl, h1⟩
    have hb1 := Lib.hid (h1.blk (heap_alloc_new w _) (by simp))
    have H1 := Lib.hid (((Upd.refl _ _).alloc _).trans h1)
    have hC1 := Lib.hid (Kd.C_below (Kd.C_alloc hC _) (h1.below (B := (w.alloc _).heap.size) (fun _ h => h.elim) (Nat.le_refl _)))
    clear h1
    have hc := fun q u e => cellAt hb1.out q u e
    have c0 := hc 0 _ rfl
    have c1 := hc 1 _ rfl
    have c2 := hc 2 _ rfl
    have c3 := hc 3 _ rfl
    have c4 := hc 4 _ rfl
    have c5 := hc 5 _ rfl
    have c6 := hc 6 _ rfl
    clear hc
    cases pb with
    | false =>
      go_wp2
      go_ret
      refine ⟨ret_int ?_, H1.out⟩
      rw [← hF.out, ofF, if_pos (.inr hpb)]
    | true =>
      by_cases hl3 : 3 < args.length
      · go_wp2
        go_ret
        refine ⟨ret_int ?_, H1.out⟩
        rw [← hF.out, ofF, if_neg (by rintro (h | h); exact HB.out h; rw [hpb] at h; cases h), if_pos hl3]
      · go_wp2_with fail
        refine (huses.out _ hC1.out).mono ?_
        rintro e w2 ⟨vl, rfl, hR2, h2⟩
        have hb2 := h2.blk hb1.out (by intro h; exact h)
        clear c0 c1 c2 c3 c4 c5 c6
        have hc := fun q u e => cellAt hb2 q u e
        have c0 := hc 0 _ rfl
        have c1 := hc 1 _ rfl
        have c2 := hc 2 _ rfl
        have c3 := hc 3 _ rfl
        have c4 := hc 4 _ rfl
        have c5 := hc 5 _ rfl
        have c6 := hc 6 _ rfl
        clear hc
        have H2 := Lib.hid h2
        have hR2 := Lib.hid hR2
        go_wp2_with fail
        refine (hgives.out _).mono ?_
        rintro e w3 ⟨rfl, h3⟩
        have H3 := Lib.hid (H2.out.trans h3)
        have hs1 : w.heap.size ≤ w1.heap.size := H1.out.size
        have hs2 : w1.heap.size ≤ w2.heap.size := H2.out.size
        have hR3 := Lib.hid (R_upd hR2.out h3 (fun _ _ _ _ h => h))
        clear h3 h2 hR2
        have hu2 : (usesOf ⟨k, op, d, a, b, n, args⟩).length ≤ 3 := by
          unfold usesOf
          dsimp only
          (repeat' split) <;> (try simp) <;> (try omega)
        go_upto_if 51 with fail
        go_cut [5] (fun v5 wx => (Kd.int .i64).R 3 wx w1.heap.size (fun _ => True) v5 (takesOf ⟨k, op, d, a, b, n, args⟩) ∧ Upd (fun _ => False) w1 wx)
        case first =>
          cases gb with
          | false =>
            go_wp2
            go_meet
            refine ⟨?_, H3.out⟩
            have e : takesOf ⟨k, op, d, a, b, n, args⟩ = usesOf ⟨k, op, d, a, b, n, args⟩ := by
              have h0 : givesB k = false := HG.out
              simp [takesOf, h0]
            rw [e]
            exact hR3.out
          | true =>
            have hR3' := Lib.hid (Kd.R_alloc hR3.out (.cells #[.int .i64 (givesD ⟨k, op, d, a, b, n, args⟩)] 3))
            have hu2 := Lib.hid hu2
            obtain ⟨AV, cV, rfl⟩ := Kd.R_slice hR3.out
            have hlu : ((usesOf ⟨k, op, d, a, b, n, args⟩).length + 1) * 8 ≤ 140737488355328 := by have := hu2.out; omega
            have hlu := Lib.hid hlu
            go_wp2_with (first
              | (at_builtin
                 refine Kd.R_append (Kd.int .i64) (w0 := w3) w1.heap.size rfl (.tmp 52) (.tmp 54) 80 3 (.int .i64 0) 8 rfl Try.underlying80 infoI rfl (by decide) (by decide) _ (usesOf ⟨k, op, d, a, b, n, args⟩) (givesD ⟨k, op, d, a, b, n, args⟩) [.int .i64 (givesD ⟨k, op, d, a, b, n, args⟩)] (fun _ => True) (fun _ => False) (by rfl) (by rfl) rfl (fun _ h => h.elim) (fun _ _ => trivial) hR3.out (Below.refl _ _) (by have := H3.out.size; omega) hlu.out ?_
                 intro v4 w4 hR4 _ hg4 _
                 have hR4 := Lib.hid hR4
                 have hU4 := Lib.hid (H3.out.then_ (Upd.of_grown hg4) (fun q hq e => by have := Kd.R_base hR3.out q e.symm; omega))
                 clear hg4))
            have hd : givesD ⟨k, op, d, a, b, n, args⟩ = d := by
              have h0 : givesB k = true := HG.out
              simp [givesD, h0]
            go_meet
            have e : takesOf ⟨k, op, d, a, b, n, args⟩ = usesOf ⟨k, op, d, a, b, n, args⟩ ++ [givesD ⟨k, op, d, a, b, n, args⟩] := by
              have h0 : givesB k = true := HG.out
              rw [hd]
              simp [takesOf, h0]
            rw [e]
            exact ⟨hR4.out, hU4.out⟩
        case rest =>
          obtain ⟨hRL, hUL⟩ := hcut
          obtain ⟨xs, hxs⟩ : ∃ xs, takesOf ⟨k, op, d, a, b, n, args⟩ = xs := ⟨_, rfl⟩
          rw [hxs] at hRL
          have hF' : F = if ∃ x ∈ xs, x < 0 ∨ v ≤ x then 21 else 0 := by
            rw [← hF.out, ofF, if_neg (by rintro (h | h); exact HB.out h; rw [hpb] at h; cases h), if_neg hl3, hxs]
          have HF' := Lib.hid hF'
          have HXS := Lib.hid hxs
          clear hF' hxs
          obtain ⟨AV, cV, rfl, hcV, hCV⟩ := Kd.R_reads hRL
          have hn3 : xs.length ≤ 4 := by
            have e := congrArg List.length HXS.out
            simp only [takesOf, List.length_append] at e
            split at e <;> simp at e <;> omega
          have hCV := Lib.hid hCV
          go_wp2_with fail
          go_loopw [58] (fun i wr => ∃ (j : Nat), j ≤ xs.length ∧ i = .int .i64 j ∧ (∀ x ∈ xs.take j, ¬ (x < 0 ∨ v ≤ x)) ∧ Upd (fun _ => False) wc wr) (fun i _ => xs.length - (intOf i).toNat)
          case atStart => exact ⟨0, by omega, rfl, by simp, Upd.refl _ _⟩
          case round =>
            obtain ⟨j, hj, rfl, hno, hU⟩ := hrel
            by_cases hlt : j < xs.length
            · have hCr := Kd.C_below hCV.out (hU.below (B := wc.heap.size) (fun _ h => h.elim) (Nat.le_refl _))
              obtain ⟨ad, rfl, hcell⟩ := Kd.at_int hCr j (by omega) (by omega)
              have hg : xs[j]? = some (rd xs j) := by simp [rd, List.getD, hlt]
              obtain ⟨x, hx⟩ : ∃ x, rd xs j = x := ⟨_, rfl⟩
              rw [hx] at hcell hg
              simp only [Int.toNat_natCast] at hcell
              have hx := Lib.hid hx
              have HNO := Lib.hid hno
              have hUU := Lib.hid hU
              have HG2 := Lib.hid hg
              clear hno hg
              by_cases hbad : x < 0 ∨ v ≤ x
              · have hB : (decide (x < 0) || decide (v ≤ x)) = true := by simpa using hbad
                have HBAD := Lib.hid hbad
                clear hbad
                go_wp2
                all_goals
                  go_ret
                  refine ⟨ret_int ?_, H1.out.trans (hUL.trans hUU.out)⟩
                  rw [HF'.out, if_pos ⟨x, List.mem_of_getElem? HG2.out, HBAD.out⟩]
              · have hb1 : ¬ x < 0 := by omega
                have hb2 : ¬ v ≤ x := by omega
                go_wp2
                refine ⟨⟨j + 1, by omega, by simp, ?_, hUU.out⟩, by simp [intOf]; omega⟩
                intro y hy
                rw [List.take_add_one, HG2.out] at hy
                rcases List.mem_append.1 hy with hy | hy
                · exact HNO.out y hy
                · simp at hy
                  subst hy
                  exact hbad
            · obtain rfl : j = xs.length := by omega
              have HNO := Lib.hid hno
              clear hno
              go_wp2
              go_ret
              refine ⟨ret_int ?_, H1.out.trans (hUL.trans hU)⟩
              rw [HF'.out, if_neg]
              rintro ⟨x, hx, hb⟩
              exact HNO.out x (by simpa using hx) hb

theorem of_calls (i : Ins) (A : Option Addr) (c : Nat) (v : Int) (w : World) (hc : i.args.length ≤ c) (hC : (Kd.int .i64).C w A i.args.length i.args) (hl : i.args.length * 8 ≤ 140737488355328) :
    Calls Try.prog 66 #[.agg (i.cells (.slice A i.args.length c)).toArray, .int .i64 v] w fun e w' => e = .returned (.int .i64 (ofF i v)) ∧ Upd (fun _ => False) w w' := by
  by_cases hb : badKind i
  · have e : ofF i v = 20 := by rw [ofF, if_pos (.inl hb)]
    rw [e]
    exact of_bad i A c v w hb
  · exact of_good i A c v w hc hC hl hb
end Go.Proofs.Ytdmplkegjjbodaa
