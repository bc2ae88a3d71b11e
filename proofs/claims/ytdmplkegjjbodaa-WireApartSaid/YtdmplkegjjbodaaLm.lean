/- Plain laws: what Made makes is right: its check's answer, its ranges, the length of its bytes. -/
import Derived.Test.YtdmplkegjjbodaaLw
namespace Go.Proofs.Ytdmplkegjjbodaa
set_option linter.unusedSimpArgs false
set_option linter.unusedVariables false
open Go.RowKit Go.Proofs.YtdmplkegjjbodaaW.PrintWords

def goodI (V : Int) (i : Ins) : Prop := okI i ∧ typedI i ∧ ofF i V = 0 ∧ i.args.length ≤ 3 ∧ (∀ x ∈ i.args, 0 ≤ x ∧ x < V)
def goodE (V n : Int) (e : End) : Prop := okE e ∧ endsF e V n = 0
def goodB (V n : Int) (x : Block) : Prop := x.ins.length ≤ 8 ∧ (∀ i ∈ x.ins, goodI V i) ∧ goodE V n x.e

theorem good_ins (V : Int) (hV : 1 ≤ V ∧ V ≤ 1000) (k op d a b n : Int) (args : List Int) (hk : 1 ≤ k ∧ k ≤ 6) (hop : 0 ≤ op ∧ op ≤ 7) (hd : 0 ≤ d ∧ d < V) (ha : 0 ≤ a ∧ a < V) (hb : 0 ≤ b ∧ b < V) (hn : -3 ≤ n ∧ n ≤ 300) (hl : args.length ≤ 3) (hA : ∀ x ∈ args, 0 ≤ x ∧ x < V)
    (h1 : k ≠ 3 → op = 0) (h1' : k = 3 → 1 ≤ op) (h2 : k = 5 → d = 0) (h3 : k = 1 ∨ k = 6 → a = 0) (h4 : k ≠ 3 → k ≠ 5 → b = 0) (h5 : k ≠ 1 → k ≠ 6 → n = 0) (h6 : k ≠ 6 → args = []) : goodI V ⟨k, op, d, a, b, n, args⟩ := by
  refine ⟨⟨hk, ⟨hop.1, by simp; omega⟩, ⟨hd.1, by simp; omega⟩, ⟨ha.1, by simp; omega⟩, ⟨hb.1, by simp; omega⟩, fun x hx => ⟨(hA x hx).1, by have := (hA x hx).2; omega⟩, by simp; omega, h1, h2, h3, h4, h5, h6⟩, ⟨⟨by simp; omega, by simp; omega⟩, ⟨by simp; omega, by simp; omega⟩, ⟨by simp; omega, by simp; omega⟩, by simp; omega⟩, ?_, hl, hA⟩
  have hbad : ¬ badKind ⟨k, op, d, a, b, n, args⟩ := by
    simp only [badKind]
    omega
  have hplain : plainB ⟨k, op, d, a, b, n, args⟩ = true := by
    have hc : k = 1 ∨ k = 2 ∨ k = 3 ∨ k = 4 ∨ k = 5 ∨ k = 6 := by omega
    rcases hc with rfl | rfl | rfl | rfl | rfl | rfl <;> simp_all [plainB, wantOf]
  have htake : ¬ ∃ x ∈ takesOf ⟨k, op, d, a, b, n, args⟩, x < 0 ∨ V ≤ x := by
    rintro ⟨x, hx, hh⟩
    simp only [takesOf, usesOf, List.mem_append] at hx
    have : x = d ∨ x = a ∨ x = b ∨ x ∈ args := by
      rcases hx with hx | hx
      · split at hx
        · simp at hx; omega
        · split at hx
          · simp at hx; omega
          · split at hx
            · exact .inr (.inr (.inr hx))
            · simp at hx
      · split at hx
        · simp at hx; omega
        · simp at hx
    rcases this with rfl | rfl | rfl | h
    · omega
    · omega
    · omega
    · have := hA x h
      omega
  rw [ofF, if_neg (by rw [hplain]; simp [hbad]), if_neg (by simp; omega), if_neg htake]

theorem mkIns_good (V : Int) (hV : 1 ≤ V ∧ V ≤ 1000) (xs : List Int) : goodI V (mkIns xs V).1 := by
  have hz : 0 ≤ (0 : Int) ∧ (0 : Int) < V := by omega
  have hk := nx_range xs 9 (by omega)
  have r1 := nx_range xs.tail V (by omega)
  have r2 := nx_range xs.tail.tail V (by omega)
  have r3 := nx_range xs.tail.tail.tail V (by omega)
  have r4 := nx_range xs.tail.tail.tail.tail V (by omega)
  have n1 := nx_range xs.tail.tail 256 (by omega)
  have n2 := nx_range xs.tail.tail 5 (by omega)
  have n3 := nx_range xs.tail.tail.tail 4 (by omega)
  have n4 := nx_range xs.tail 7 (by omega)
  unfold mkIns
  simp only
  split
  · exact good_ins V hV _ _ _ _ _ _ _ (by omega) (by omega) r1 hz hz (by omega) (by simp) (by simp) (by omega) (by omega) (by omega) (by omega) (by omega) (by omega) (by simp)
  split
  · exact good_ins V hV _ _ _ _ _ _ _ (by omega) (by omega) r1 r2 hz (by omega) (by simp) (by simp) (by omega) (by omega) (by omega) (by omega) (by omega) (by omega) (by simp)
  split
  · exact good_ins V hV _ _ _ _ _ _ _ (by omega) (by omega) hz r1 r2 (by omega) (by simp) (by simp) (by omega) (by omega) (by omega) (by omega) (by omega) (by omega) (by simp)
  split
  · refine good_ins V hV _ _ _ _ _ _ _ (by omega) (by omega) r1 hz hz (by omega) (by simp; omega) ?_ (by omega) (by omega) (by omega) (by omega) (by omega) (by omega) (by omega)
    intro x hx
    obtain ⟨i, _, rfl⟩ := List.mem_map.1 hx
    exact nx_range _ V (by omega)
  split
  · exact good_ins V hV _ _ _ _ _ _ _ (by omega) (by omega) r1 r2 hz (by omega) (by simp) (by simp) (by omega) (by omega) (by omega) (by omega) (by omega) (by omega) (by simp)
  · exact good_ins V hV _ _ _ _ _ _ _ (by omega) (by omega) r2 r3 r4 (by omega) (by simp) (by simp) (by omega) (by omega) (by omega) (by omega) (by omega) (by omega) (by simp)
theorem insN_good (V : Int) (hV : 1 ≤ V ∧ V ≤ 1000) (m : Nat) (xs : List Int) : ∀ i ∈ (insN V m xs).1, goodI V i := by
  induction m with
  | zero => intro i hi; simp [insN] at hi
  | succ m ih =>
    intro i hi
    simp only [insN, List.mem_append, List.mem_singleton] at hi
    rcases hi with hi | rfl
    · exact ih i hi
    · exact mkIns_good V hV _
theorem mkEnd_good (V n : Int) (hV : 1 ≤ V ∧ V ≤ 1000) (hn : 1 ≤ n ∧ n ≤ 1000) (xs : List Int) : goodE V n (mkEnd xs V n).1 := by
  have r0 := nx_range xs 4 (by omega)
  have r1 := nx_range xs.tail V (by omega)
  have t1 := nx_range xs.tail n (by omega)
  have t2 := nx_range xs.tail.tail n (by omega)
  have t3 := nx_range xs.tail.tail.tail n (by omega)
  unfold mkEnd
  split
  · exact ⟨⟨by simp, ⟨by simp, by simp⟩, ⟨t1.1, by simp; omega⟩, ⟨by simp, by simp⟩, by simp, by simp, by simp⟩, by
      unfold endsF; simp only; (repeat' split) <;> omega⟩
  split
  · exact ⟨⟨by simp, ⟨r1.1, by simp; omega⟩, ⟨t2.1, by simp; omega⟩, ⟨t3.1, by simp; omega⟩, by simp, by simp, by simp⟩, by
      unfold endsF; simp only; (repeat' split) <;> omega⟩
  · exact ⟨⟨by simp, ⟨r1.1, by simp; omega⟩, ⟨by simp, by simp⟩, ⟨by simp, by simp⟩, by simp, by simp, by simp⟩, by
      unfold endsF; simp only; (repeat' split) <;> omega⟩
theorem mkBlock_good (V n : Int) (hV : 1 ≤ V ∧ V ≤ 1000) (hn : 1 ≤ n ∧ n ≤ 1000) (xs : List Int) : goodB V n (mkBlock xs V n).1 := by
  have r0 := nx_range xs 9 (by omega)
  refine ⟨?_, insN_good V hV _ _, mkEnd_good V n hV hn _⟩
  simp only [mkBlock, insN_length]
  omega
theorem blocksN_good (V n : Int) (hV : 1 ≤ V ∧ V ≤ 1000) (hn : 1 ≤ n ∧ n ≤ 1000) (m : Nat) (xs : List Int) : ∀ x ∈ (blocksN V n m xs).1, goodB V n x := by
  induction m with
  | zero => intro i hi; simp [blocksN] at hi
  | succ m ih =>
    intro i hi
    simp only [blocksN, List.mem_append, List.mem_singleton] at hi
    rcases hi with hi | rfl
    · exact ih i hi
    · exact mkBlock_good V n hV hn _

structure GoodF (f : Fn) : Prop where
  p : 0 ≤ f.params ∧ f.params ≤ 4 ∧ f.params ≤ f.vregs
  v : 1 ≤ f.vregs ∧ f.vregs ≤ 32
  n : 1 ≤ f.blocks.length ∧ f.blocks.length ≤ 7
  b : ∀ x ∈ f.blocks, goodB f.vregs f.blocks.length x
theorem made_good (p v b : Int) (xs : List Int) : GoodF (made p v b xs) := by
  have hmx : mx (p % 5) 1 ≤ 4 ∧ 1 ≤ mx (p % 5) 1 ∧ p % 5 ≤ mx (p % 5) 1 := by unfold mx; omega
  have hlen : ((made p v b xs).blocks.length : Int) = 1 + b % 7 := by
    simp only [made, blocksN_length]
    omega
  refine ⟨⟨by simp only [made]; omega, by simp only [made]; omega, by simp only [made]; omega⟩, ⟨by simp only [made]; omega, by simp only [made]; omega⟩, by omega, ?_⟩
  rw [hlen]
  exact blocksN_good _ _ (by try simp only [made]
                             omega) (by omega) _ _
theorem insFrom_good (V : Int) (l : List Ins) (h : ∀ i ∈ l, goodI V i) (j : Nat) : insFrom V j l = none := by
  induction l generalizing j with
  | nil => rfl
  | cons i t ih =>
    rw [insFrom, if_neg (by rw [(h i (by simp)).2.2.1]; simp)]
    exact ih (fun z hz => h z (by simp [hz])) _
theorem blksFrom_good (V n : Int) (l : List Block) (h : ∀ x ∈ l, goodB V n x) (j : Nat) : blksFrom V n j l = none := by
  induction l generalizing j with
  | nil => rfl
  | cons x t ih =>
    have hx := h x (by simp)
    have e : blkFault V n x = none := by
      rw [blkFault, if_neg (by have := hx.1; omega), insFrom_good V _ hx.2.1, hx.2.2.2]
      simp
    rw [blksFrom, e]
    exact ih (fun z hz => h z (by simp [hz])) _
theorem check_good' {f : Fn} (h : GoodF f) : checkF f.params f.vregs f.blocks = (0, 0, 0) := by
  have h1 := h.p
  have h2 := h.v
  have h3 := h.n
  rw [checkF, if_neg (by unfold headBad; omega), blksFrom_good _ _ _ h.b]
  rfl
theorem leb_len : ∀ (k n : Nat), n < 128 ^ k → 0 < k → (leb n).length ≤ k := by
  intro k
  induction k with
  | zero => intro n _ h; omega
  | succ k ih =>
    intro n hn _
    by_cases h : n < 128
    · simp [leb_small h]
    · rw [leb_big h, List.length_cons]
      have h0 : 0 < k := by
        rcases Nat.eq_zero_or_pos k with rfl | h0
        · simp at hn; omega
        · exact h0
      have := ih (n / 128) (by rw [Nat.pow_succ] at hn; omega) h0
      omega
theorem nm_len (x : Int) : (nm x).length ≤ 10 := leb_len 10 _ (by have : (x % 18446744073709551616).toNat < 18446744073709551616 := by omega
                                                                  have e : (128 : Nat) ^ 10 = 1180591620717411303424 := by decide
                                                                  omega) (by omega)
theorem zig_len (n : Int) (hn : -9223372036854775808 ≤ n ∧ n ≤ 9223372036854775807) : (leb (zigN n)).length ≤ 10 := leb_len 10 _ (by
  have e : (128 : Nat) ^ 10 = 1180591620717411303424 := by decide
  unfold zigN
  split <;> omega) (by omega)
theorem nms_len (l : List Int) : (nms l).length ≤ 10 * l.length := by
  induction l with
  | nil => simp [nms]
  | cons x t ih =>
    rw [nms_cons, List.length_append, List.length_cons]
    have := nm_len x
    omega
theorem insC_len (i : Ins) (h : typedI i) (m : Nat) (hm : i.args.length ≤ m) : (insC i).length ≤ 50 + 10 * m := by
  have hz := zig_len i.n h.2.2.1
  have h0 := nms_len [i.kind]
  have h1 := nms_len [i.d]
  have h2 := nms_len [i.d, i.a]
  have h3 := nms_len [i.op, i.d, i.a, i.b]
  have h4 := nms_len [i.a, i.b]
  have h5 := nms_len [(i.args.length : Int)]
  have h6 := nms_len i.args
  simp only [List.length_cons, List.length_nil] at h0 h1 h2 h3 h4 h5
  rw [insC, List.length_append]
  unfold insB
  (repeat' split) <;> (try simp only [List.length_append, List.length_nil]) <;> omega
theorem flat_len {α : Type} (f : α → List Int) (l : List α) (m : Nat) (h : ∀ x ∈ l, (f x).length ≤ m) : (l.flatMap f).length ≤ m * l.length := by
  induction l with
  | nil => simp
  | cons x t ih =>
    rw [List.flatMap_cons, List.length_append, List.length_cons, Nat.mul_succ]
    have := h x (by simp)
    have := ih (fun z hz => h z (by simp [hz]))
    omega
theorem blockB_len (x : Block) (c m : Nat) (h : ∀ i ∈ x.ins, typedI i ∧ i.args.length ≤ m) (hc : x.ins.length ≤ c) : (blockB x).length ≤ 50 + (50 + 10 * m) * c := by
  have h1 := flat_len insC x.ins (50 + 10 * m) (fun i hi => insC_len i (h i hi).1 m (h i hi).2)
  have h2 := Nat.mul_le_mul_left (50 + 10 * m) hc
  have h3 := nms_len [(x.ins.length : Int)]
  have h4 := nms_len [x.e.kind]
  have h5 : (endB x.e).length ≤ 30 := by
    have e1 := nms_len [x.e.jt]
    have e2 := nms_len [x.e.a, x.e.jt, x.e.je]
    have e3 := nms_len [x.e.a]
    simp only [List.length_cons, List.length_nil] at e1 e2 e3
    unfold endB
    (repeat' split) <;> omega
  simp only [List.length_cons, List.length_nil] at h3 h4
  rw [blockB]
  simp only [List.length_append]
  omega
theorem funcB_len {f : Fn} (h : GoodF f) : (funcB f.params f.vregs f.blocks).length ≤ 10000 := by
  have h1 := flat_len blockB f.blocks (50 + (50 + 10 * 3) * 8) (fun x hx => blockB_len x 8 3 (fun i hi => ⟨((h.b x hx).2.1 i hi).2.1, ((h.b x hx).2.1 i hi).2.2.2.1⟩) (h.b x hx).1)
  have h2 := nms_len [f.params, f.vregs]
  have h3 := nms_len [(f.blocks.length : Int)]
  have h4 := h.n
  simp only [List.length_cons, List.length_nil] at h2 h3
  rw [funcB, blksB]
  simp only [List.length_append]
  omega
theorem good_typed {f : Fn} (h : GoodF f) : ∀ x ∈ f.blocks, typedB x := fun x hx => by
  have h1 := (h.b x hx).2.2.1.1
  have h2 := (h.b x hx).1
  exact ⟨⟨by omega, by omega⟩, fun i hi => ((h.b x hx).2.1 i hi).2.1, by omega⟩
theorem good_fits {f : Fn} (h : GoodF f) : fits f.blocks := fun x hx i hi => by
  have := ((h.b x hx).2.1 i hi).2.2.2.1
  omega
theorem good_ok {f : Fn} (h : GoodF f) : ∀ x ∈ f.blocks, okB x := fun x hx => by
  have h2 := (h.b x hx).1
  exact ⟨by omega, fun i hi => ((h.b x hx).2.1 i hi).1, (h.b x hx).2.2.1⟩
theorem leb_byte : ∀ (n : Nat), ∀ x ∈ leb n, 0 ≤ x ∧ x ≤ 255 := by
  intro n
  induction n using Nat.strongRecOn with
  | _ n ih =>
    intro x hx
    by_cases h : n < 128
    · rw [leb_small h] at hx
      simp at hx
      omega
    · rw [leb_big h] at hx
      rcases List.mem_cons.1 hx with rfl | hx
      · omega
      · exact ih _ (by omega) x hx
def bytesR (l : List Int) : Prop := ∀ x ∈ l, 0 ≤ x ∧ x ≤ 255
theorem bytesR_app {l l' : List Int} (h : bytesR l) (h' : bytesR l') : bytesR (l ++ l') := fun x hx => (List.mem_append.1 hx).elim (h x) (h' x)
theorem bytesR_flat {α : Type} {f : α → List Int} (h : ∀ a, bytesR (f a)) (l : List α) : bytesR (l.flatMap f) := fun x hx => by
  obtain ⟨a, _, ha⟩ := List.mem_flatMap.1 hx
  exact h a x ha
theorem bytesR_nms (l : List Int) : bytesR (nms l) := bytesR_flat (fun x => leb_byte _) l
theorem bytesR_insC (i : Ins) : bytesR (insC i) := by
  refine bytesR_app (bytesR_nms _) ?_
  unfold insB
  have hz : bytesR (leb (zigN i.n)) := leb_byte _
  split
  · exact bytesR_app (bytesR_nms _) hz
  split
  · exact bytesR_nms _
  split
  · exact bytesR_nms _
  split
  · exact bytesR_nms _
  split
  · exact bytesR_app (bytesR_app (bytesR_app (bytesR_nms _) hz) (bytesR_nms _)) (bytesR_nms _)
  · intro x hx
    cases hx
theorem bytesR_blockB (x : Block) : bytesR (blockB x) := by
  refine bytesR_app (bytesR_app (bytesR_app (bytesR_nms _) (bytesR_flat bytesR_insC _)) (bytesR_nms _)) ?_
  unfold endB
  (repeat' split) <;> exact bytesR_nms _
theorem bytesR_funcB (p v : Int) (bs : List Block) : bytesR (funcB p v bs) := bytesR_app (bytesR_nms _) (bytesR_app (bytesR_nms _) (bytesR_flat bytesR_blockB _))
theorem u8_inj {x y : Int} (hx : 0 ≤ x ∧ x ≤ 255) (hy : 0 ≤ y ∧ y ≤ 255) (h : UInt8.ofNat x.toNat = UInt8.ofNat y.toNat) : x = y := by
  have h1 := congrArg UInt8.toNat h
  rw [UInt8.toNat_ofNat', UInt8.toNat_ofNat'] at h1
  omega
theorem map_u8_inj : ∀ {xs ys : List Int}, bytesR xs → bytesR ys → (xs.map fun n => UInt8.ofNat n.toNat) = (ys.map fun n => UInt8.ofNat n.toNat) → xs = ys
  | [], [], _, _, _ => rfl
  | [], _ :: _, _, _, h => by simp at h
  | _ :: _, [], _, _, h => by simp at h
  | x :: xs, y :: ys, hx, hy, h => by
    simp only [List.map_cons, List.cons.injEq] at h
    rw [u8_inj (hx x (by simp)) (hy y (by simp)) h.1, map_u8_inj (fun z hz => hx z (by simp [hz])) (fun z hz => hy z (by simp [hz])) h.2]
theorem str_eq {xs ys : List Int} (hx : bytesR xs) (hy : bytesR ys) : ((strOfNums xs).toList == (strOfNums ys).toList) = decide (xs = ys) := by
  rw [ByteArray.toList_eq, ByteArray.toList_eq, strOfNums_data, strOfNums_data]
  by_cases h : xs = ys
  · subst h
    simp
  · have : (xs.map fun n => UInt8.ofNat n.toNat) ≠ ys.map fun n => UInt8.ofNat n.toNat := fun he => h (map_u8_inj hx hy he)
    rw [decide_eq_false h]
    exact beq_eq_false_iff_ne.2 this
theorem apart_law {F G : Fn} (hF : GoodF F) (hG : GoodF G) :
    ((strOfNums (funcB F.params F.vregs F.blocks)).toList == (strOfNums (funcB G.params G.vregs G.blocks)).toList) = decide (F.params = G.params ∧ F.vregs = G.vregs ∧ F.blocks = G.blocks) := by
  rw [str_eq (bytesR_funcB _ _ _) (bytesR_funcB _ _ _)]
  have h1 := hF.p
  have h2 := hF.v
  have h3 := hF.n
  have k1 := hG.p
  have k2 := hG.v
  have k3 := hG.n
  have e : funcB F.params F.vregs F.blocks = funcB G.params G.vregs G.blocks ↔ (F.params = G.params ∧ F.vregs = G.vregs ∧ F.blocks = G.blocks) := by
    constructor
    · intro h
      exact func_inj ⟨by omega, by omega⟩ ⟨by omega, by omega⟩ ⟨by omega, by omega⟩ ⟨by omega, by omega⟩ (good_ok hF) (good_ok hG) (by omega) (by omega) h
    · rintro ⟨a, b, c⟩
      rw [a, b, c]
  by_cases h : funcB F.params F.vregs F.blocks = funcB G.params G.vregs G.blocks
  · rw [decide_eq_true h, decide_eq_true (e.1 h)]
  · rw [decide_eq_false h, decide_eq_false (fun k => h (e.2 k))]
end Go.Proofs.Ytdmplkegjjbodaa
