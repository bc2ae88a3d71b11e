/- The maker of functions out of bytes (outworkerlaw04): walks of next, ins and Made. -/
import Derived.Test.YtdmplkegjjbodaaK
import Derived.Lib.Hide
namespace Go.Proofs.Ytdmplkegjjbodaa
open Go.RowKit Go.Proofs.YtdmplkegjjbodaaW.PrintWords

/-- a number below n out of bytes -/
def nx : List Int → Int → Int
  | [], _ => 0
  | x :: _, n => x % n
theorem nx_range (xs : List Int) (n : Int) (hn : 0 < n) : 0 ≤ nx xs n ∧ nx xs n < n := by
  cases xs with
  | nil => exact ⟨Int.le_refl _, hn⟩
  | cons x r => exact ⟨Int.emod_nonneg _ (by omega), Int.emod_lt_of_pos _ hn⟩

def bytesOk (xs : List Int) : Prop := ∀ x ∈ xs, 0 ≤ x ∧ x ≤ 255

structure Mk (w0 w : World) (g : Nat) (xs : List Int) : Prop where
  low : Below w0.heap.size w0 w
  own : w0.heap.size ≤ g
  ok : bytesOk xs
  at_ : ∃ A c, w.heap[g]? = some (.cells #[.slice A xs.length c] 103 (0, 0)) ∧ xs.length ≤ c ∧ (Kd.int .u8).C w0 A xs.length xs

theorem C_tail {k : IntKind} {w : World} {A : Option Addr} {x : Int} {r : List Int} (c : Nat) (h : (Kd.int k).C w A (x :: r).length (x :: r)) (hc : r.length + 1 ≤ c) :
    (Kd.int k).C w (if c = 1 then A else A.map (·.add 1)) r.length r := by
  have h1 := Kd.reads_of_C (enc := Value.int k) (d := (0 : Int)) (h1 := fun _ => rfl) h
  refine Kd.C_of_reads (enc := Value.int k) (d := (0 : Int)) (h1 := fun _ => rfl) ⟨rfl, by have := h1.2.1; simp at this; omega, fun hn => ?_⟩
  obtain ⟨ad, rfl, hcell⟩ := h1.2.2 (by simp)
  refine ⟨ad.add 1, by rw [if_neg (by omega)]; rfl, fun j hj => ?_⟩
  have h2 := hcell (j + 1) (by simp; omega)
  have e : (ad.add 1).add j = ad.add (j + 1) := by
    unfold Addr.add
    by_cases hj0 : j = 0 <;> simp [hj0, Nat.add_comm, Nat.add_left_comm]
  rw [e]
  simpa using h2

theorem Mk.set_ {w0 w : World} {g : Nat} {xs r : List Int} (h : Mk w0 w g xs) (hr : bytesOk r) {A : Option Addr} {c : Nat} (hc : r.length ≤ c) (hC : (Kd.int .u8).C w0 A r.length r) :
    Mk w0 (w.setCell ⟨g, 0, none⟩ (.slice A r.length c)) g r := by
  obtain ⟨hB, hg, hok, A', c', hb, hc', hC'⟩ := h
  refine ⟨hB.setCell hg _, hg, hr, A, c, ?_, hc, hC⟩
  exact heap_set hb 0 _

set_option maxHeartbeats 400000 in
theorem next_calls (w0 w : World) (g : Nat) (xs : List Int) (n : Int) (hn0 : 0 < n) (hn : n ≤ 100000) (h : Mk w0 w g xs) :
    Calls Try.prog 44 #[.pointer (some ⟨g, 0, none⟩), .int .i64 n] w fun e w' => e = .returned (.int .i64 (nx xs n)) ∧ Mk w0 w' g xs.tail ∧ Upd (· = g) w w' := by
  have H := Lib.hid h
  obtain ⟨hB, hg, hok, A, c, hb, hc, hC⟩ := h
  have hcell := cellAt hb 0 _ rfl
  have hfr := froz hb 0
  cases xs with
  | nil =>
    clear hb hB hC hok
    go_enter Try.func44, Try.ntmps44
    go_wp2
    go_ret
    exact ⟨rfl, H.out, Upd.refl _ _⟩
  | cons x r =>
    obtain ⟨ad, hA, hx⟩ := Kd.at_int hC 0 (by omega) (by simp)
    subst hA
    have hx' := pw_cell_below hB hx
    have hxb := hok x (by simp)
    have hC1 := Lib.hid (C_tail c hC hc)
    have hr : bytesOk r := fun y hy => hok y (List.mem_cons_of_mem _ hy)
    have hr := Lib.hid hr
    clear hb hB hC hok hx
    simp only [rd, Int.toNat_zero, List.getD_cons_zero, Addr.add, if_true] at hx'
    go_enter Try.func44, Try.ntmps44
    go_wp2
    · go_ret
      have hC2 := hC1.out
      rw [if_pos (by assumption)] at hC2
      exact ⟨rfl, H.out.set_ hr.out (by simp at hc; omega) hC2, Upd.set1 _ _ _ _⟩
    · go_ret
      have hC2 := hC1.out
      rw [if_neg (by assumption)] at hC2
      exact ⟨rfl, H.out.set_ hr.out (by simp at hc; omega) hC2, Upd.set1 _ _ _ _⟩

theorem Mk.alloc {w0 w : World} {g : Nat} {xs : List Int} (h : Mk w0 w g xs) (o : Obj) : Mk w0 (w.alloc o) g xs := by
  obtain ⟨hB, hg, hok, A, c, hb, hc, hC⟩ := h
  have hlt : g < w.heap.size := (Array.getElem?_eq_some_iff.1 hb).1
  exact ⟨hB.alloc hB.size o, hg, hok, A, c, (Below.heap_alloc w o g hlt).trans hb, hc, hC⟩
theorem Mk.lt {w0 w : World} {g : Nat} {xs : List Int} (h : Mk w0 w g xs) : g < w.heap.size := by
  obtain ⟨_, _, _, A, c, hb, _⟩ := h
  exact (Array.getElem?_eq_some_iff.1 hb).1

theorem Mk.upd {S : Nat → Prop} {w0 w w' : World} {g : Nat} {xs : List Int} (h : Mk w0 w g xs) (hu : Upd S w w') (hS : ∀ k, S k → w0.heap.size ≤ k ∧ k ≠ g) : Mk w0 w' g xs := by
  obtain ⟨hB, hg, hok, A, c, hb, hc, hC⟩ := h
  exact ⟨hB.trans (hu.below (fun i hi => (hS i hi).1) hB.size), hg, hok, A, c, hu.blk hb (fun hs => (hS g hs).2 rfl), hc, hC⟩

theorem Mk.drew {w0 w : World} {g : Nat} {xs : List Int} (h : Mk w0 w g xs) : Mk w0 w.drew g xs := h.upd (S := fun _ => False) ((Upd.refl _ _).drew) (fun _ hk => hk.elim)

/-- an instruction out of bytes, and the bytes that are left -/
def mkIns (xs : List Int) (v : Int) : Ins × List Int :=
  let k := 1 + nx xs 9
  let xs := xs.tail
  if k = 1 then (⟨1, 0, nx xs v, 0, 0, nx xs.tail 256 - 3, []⟩, xs.tail.tail)
  else if k = 4 then (⟨4, 0, nx xs v, nx xs.tail v, 0, 0, []⟩, xs.tail.tail)
  else if k = 5 then (⟨5, 0, 0, nx xs v, nx xs.tail v, 0, []⟩, xs.tail.tail)
  else if k = 6 then
    let n := (nx xs.tail.tail 4).toNat
    (⟨6, 0, nx xs v, 0, 0, nx xs.tail 5, (List.range n).map fun i => nx (xs.tail.tail.tail.drop i) v⟩, xs.tail.tail.tail.drop n)
  else if k = 2 ∨ k = 7 then (⟨2, 0, nx xs v, nx xs.tail v, 0, 0, []⟩, xs.tail.tail)
  else (⟨3, 1 + nx xs 7, nx xs.tail v, nx xs.tail.tail v, nx xs.tail.tail.tail v, 0, []⟩, xs.tail.tail.tail.tail)

def InsPost (w0 w : World) (g : Nat) (x : Ins) (r : List Int) (e : Ending) (w' : World) : Prop :=
  ∃ va, e = .returned (.agg (x.cells va).toArray) ∧ (Kd.int .i64).R 3 w' w.heap.size (fun _ => True) va x.args ∧ Mk w0 w' g r ∧ Upd (· = g) w w'


set_option maxHeartbeats 400000 in
theorem ins_const (w0 w : World) (g : Nat) (xs : List Int) (v : Int) (hv0 : 0 < v) (hv : v ≤ 1000) (h : Mk w0 w g xs) (hk : nx xs 9 = 0) :
    Calls Try.prog 45 #[.pointer (some ⟨g, 0, none⟩), .int .i64 v] w (InsPost w0 w g ⟨1, 0, nx xs.tail v, 0, 0, nx xs.tail.tail 256 - 3, []⟩ xs.tail.tail.tail) := by
  have hz := Lib.hid (h.lt)
  go_enter Try.func45, Try.ntmps45
  go_wp2_with fail
  refine (next_calls w0 _ g xs 9 (by omega) (by omega) (h.alloc _)).mono ?_
  rintro e w1 ⟨rfl, h1, k1⟩
  have k1 := Lib.hid k1
  go_wp2_with fail
  refine (next_calls w0 _ g _ v (by omega) (by omega) h1).mono ?_
  rintro e w2 ⟨rfl, h2, k2⟩
  have k2 := Lib.hid k2
  have hr2 := nx_range xs.tail v (by omega)
  go_wp2_with fail
  refine (next_calls w0 _ g _ 256 (by omega) (by omega) h2).mono ?_
  rintro e w3 ⟨rfl, h3, k3⟩
  have k3 := Lib.hid k3
  have hr3 := nx_range xs.tail.tail 256 (by omega)
  have kk := Lib.hid ((k1.out.trans (k2.out.trans (k3.out))))
  have hb : w3.heap[w.heap.size]? = some (.cells #[.int .u8 0, .int .u8 0, .int .i64 0, .int .i64 0, .int .i64 0, .int .i64 0, .slice none 0 0] 82 (0, 0)) :=
    kk.out.blk (heap_alloc_new w _) (by have := hz.out; omega)
  have hc := fun j u h => cellAt hb j u h
  have hc0 := hc 0 _ rfl
  have hc1 := hc 1 _ rfl
  have hc2 := hc 2 _ rfl
  have hc3 := hc 3 _ rfl
  have hc4 := hc 4 _ rfl
  have hc5 := hc 5 _ rfl
  have hc6 := hc 6 _ rfl
  clear hc
  have hf := froz hb
  have hb := Lib.hid hb
  have h3 := Lib.hid h3
  go_wp2
  refine bodyPost_ret (results_cell_row rfl _ _ w.heap.size 82 _ _ _ rfl (set7 hb.out _ _ _ _ _ _ _) Try.underlying82 rfl sizeIns) rfl ?_
  refine ⟨.slice none 0 0, rfl, Kd.R_nil _ _ _ _ _, h3.out.upd (upd7_own _ _ _ _ _ _ _) ?_, upd7 (((Upd.refl _ _).alloc _).trans kk.out) (.inr (Nat.le_refl _)) _ _ _ _ _ _ _⟩
  rintro k rfl
  exact ⟨h.low.size, fun e => by have := hz.out; omega⟩

set_option maxHeartbeats 400000 in
theorem ins_load (w0 w : World) (g : Nat) (xs : List Int) (v : Int) (hv0 : 0 < v) (hv : v ≤ 1000) (h : Mk w0 w g xs) (hk : nx xs 9 = 3) :
    Calls Try.prog 45 #[.pointer (some ⟨g, 0, none⟩), .int .i64 v] w (InsPost w0 w g ⟨4, 0, nx xs.tail v, nx xs.tail.tail v, 0, 0, []⟩ xs.tail.tail.tail) := by
  have hz := Lib.hid (h.lt)
  go_enter Try.func45, Try.ntmps45
  go_wp2_with fail
  refine (next_calls w0 _ g xs 9 (by omega) (by omega) (h.alloc _)).mono ?_
  rintro e w1 ⟨rfl, h1, k1⟩
  have k1 := Lib.hid k1
  go_wp2_with fail
  refine (next_calls w0 _ g _ v (by omega) (by omega) h1).mono ?_
  rintro e w2 ⟨rfl, h2, k2⟩
  have k2 := Lib.hid k2
  have hr2 := nx_range xs.tail v (by omega)
  go_wp2_with fail
  refine (next_calls w0 _ g _ v (by omega) (by omega) h2).mono ?_
  rintro e w3 ⟨rfl, h3, k3⟩
  have k3 := Lib.hid k3
  have hr3 := nx_range xs.tail.tail v (by omega)
  have kk := Lib.hid ((k1.out.trans (k2.out.trans (k3.out))))
  have hb : w3.heap[w.heap.size]? = some (.cells #[.int .u8 0, .int .u8 0, .int .i64 0, .int .i64 0, .int .i64 0, .int .i64 0, .slice none 0 0] 82 (0, 0)) :=
    kk.out.blk (heap_alloc_new w _) (by have := hz.out; omega)
  have hc := fun j u h => cellAt hb j u h
  have hc0 := hc 0 _ rfl
  have hc1 := hc 1 _ rfl
  have hc2 := hc 2 _ rfl
  have hc3 := hc 3 _ rfl
  have hc4 := hc 4 _ rfl
  have hc5 := hc 5 _ rfl
  have hc6 := hc 6 _ rfl
  clear hc
  have hf := froz hb
  have hb := Lib.hid hb
  have h3 := Lib.hid h3
  go_wp2
  refine bodyPost_ret (results_cell_row rfl _ _ w.heap.size 82 _ _ _ rfl (set7 hb.out _ _ _ _ _ _ _) Try.underlying82 rfl sizeIns) rfl ?_
  refine ⟨.slice none 0 0, rfl, Kd.R_nil _ _ _ _ _, h3.out.upd (upd7_own _ _ _ _ _ _ _) ?_, upd7 (((Upd.refl _ _).alloc _).trans kk.out) (.inr (Nat.le_refl _)) _ _ _ _ _ _ _⟩
  rintro k rfl
  exact ⟨h.low.size, fun e => by have := hz.out; omega⟩

set_option maxHeartbeats 400000 in
theorem ins_store (w0 w : World) (g : Nat) (xs : List Int) (v : Int) (hv0 : 0 < v) (hv : v ≤ 1000) (h : Mk w0 w g xs) (hk : nx xs 9 = 4) :
    Calls Try.prog 45 #[.pointer (some ⟨g, 0, none⟩), .int .i64 v] w (InsPost w0 w g ⟨5, 0, 0, nx xs.tail v, nx xs.tail.tail v, 0, []⟩ xs.tail.tail.tail) := by
  have hz := Lib.hid (h.lt)
  go_enter Try.func45, Try.ntmps45
  go_wp2_with fail
  refine (next_calls w0 _ g xs 9 (by omega) (by omega) (h.alloc _)).mono ?_
  rintro e w1 ⟨rfl, h1, k1⟩
  have k1 := Lib.hid k1
  go_wp2_with fail
  refine (next_calls w0 _ g _ v (by omega) (by omega) h1).mono ?_
  rintro e w2 ⟨rfl, h2, k2⟩
  have k2 := Lib.hid k2
  have hr2 := nx_range xs.tail v (by omega)
  go_wp2_with fail
  refine (next_calls w0 _ g _ v (by omega) (by omega) h2).mono ?_
  rintro e w3 ⟨rfl, h3, k3⟩
  have k3 := Lib.hid k3
  have hr3 := nx_range xs.tail.tail v (by omega)
  have kk := Lib.hid ((k1.out.trans (k2.out.trans (k3.out))))
  have hb : w3.heap[w.heap.size]? = some (.cells #[.int .u8 0, .int .u8 0, .int .i64 0, .int .i64 0, .int .i64 0, .int .i64 0, .slice none 0 0] 82 (0, 0)) :=
    kk.out.blk (heap_alloc_new w _) (by have := hz.out; omega)
  have hc := fun j u h => cellAt hb j u h
  have hc0 := hc 0 _ rfl
  have hc1 := hc 1 _ rfl
  have hc2 := hc 2 _ rfl
  have hc3 := hc 3 _ rfl
  have hc4 := hc 4 _ rfl
  have hc5 := hc 5 _ rfl
  have hc6 := hc 6 _ rfl
  clear hc
  have hf := froz hb
  have hb := Lib.hid hb
  have h3 := Lib.hid h3
  go_wp2
  refine bodyPost_ret (results_cell_row rfl _ _ w.heap.size 82 _ _ _ rfl (set7 hb.out _ _ _ _ _ _ _) Try.underlying82 rfl sizeIns) rfl ?_
  refine ⟨.slice none 0 0, rfl, Kd.R_nil _ _ _ _ _, h3.out.upd (upd7_own _ _ _ _ _ _ _) ?_, upd7 (((Upd.refl _ _).alloc _).trans kk.out) (.inr (Nat.le_refl _)) _ _ _ _ _ _ _⟩
  rintro k rfl
  exact ⟨h.low.size, fun e => by have := hz.out; omega⟩

set_option maxHeartbeats 400000 in
theorem ins_move2 (w0 w : World) (g : Nat) (xs : List Int) (v : Int) (hv0 : 0 < v) (hv : v ≤ 1000) (h : Mk w0 w g xs) (hk : nx xs 9 = 1) :
    Calls Try.prog 45 #[.pointer (some ⟨g, 0, none⟩), .int .i64 v] w (InsPost w0 w g ⟨2, 0, nx xs.tail v, nx xs.tail.tail v, 0, 0, []⟩ xs.tail.tail.tail) := by
  have hz := Lib.hid (h.lt)
  go_enter Try.func45, Try.ntmps45
  go_wp2_with fail
  refine (next_calls w0 _ g xs 9 (by omega) (by omega) (h.alloc _)).mono ?_
  rintro e w1 ⟨rfl, h1, k1⟩
  have k1 := Lib.hid k1
  go_wp2_with fail
  refine (next_calls w0 _ g _ v (by omega) (by omega) h1).mono ?_
  rintro e w2 ⟨rfl, h2, k2⟩
  have k2 := Lib.hid k2
  have hr2 := nx_range xs.tail v (by omega)
  go_wp2_with fail
  refine (next_calls w0 _ g _ v (by omega) (by omega) h2).mono ?_
  rintro e w3 ⟨rfl, h3, k3⟩
  have k3 := Lib.hid k3
  have hr3 := nx_range xs.tail.tail v (by omega)
  have kk := Lib.hid ((k1.out.trans (k2.out.trans (k3.out))))
  have hb : w3.heap[w.heap.size]? = some (.cells #[.int .u8 0, .int .u8 0, .int .i64 0, .int .i64 0, .int .i64 0, .int .i64 0, .slice none 0 0] 82 (0, 0)) :=
    kk.out.blk (heap_alloc_new w _) (by have := hz.out; omega)
  have hc := fun j u h => cellAt hb j u h
  have hc0 := hc 0 _ rfl
  have hc1 := hc 1 _ rfl
  have hc2 := hc 2 _ rfl
  have hc3 := hc 3 _ rfl
  have hc4 := hc 4 _ rfl
  have hc5 := hc 5 _ rfl
  have hc6 := hc 6 _ rfl
  clear hc
  have hf := froz hb
  have hb := Lib.hid hb
  have h3 := Lib.hid h3
  go_wp2
  refine bodyPost_ret (results_cell_row rfl _ _ w.heap.size 82 _ _ _ rfl (set7 hb.out _ _ _ _ _ _ _) Try.underlying82 rfl sizeIns) rfl ?_
  refine ⟨.slice none 0 0, rfl, Kd.R_nil _ _ _ _ _, h3.out.upd (upd7_own _ _ _ _ _ _ _) ?_, upd7 (((Upd.refl _ _).alloc _).trans kk.out) (.inr (Nat.le_refl _)) _ _ _ _ _ _ _⟩
  rintro k rfl
  exact ⟨h.low.size, fun e => by have := hz.out; omega⟩

set_option maxHeartbeats 400000 in
theorem ins_move7 (w0 w : World) (g : Nat) (xs : List Int) (v : Int) (hv0 : 0 < v) (hv : v ≤ 1000) (h : Mk w0 w g xs) (hk : nx xs 9 = 6) :
    Calls Try.prog 45 #[.pointer (some ⟨g, 0, none⟩), .int .i64 v] w (InsPost w0 w g ⟨2, 0, nx xs.tail v, nx xs.tail.tail v, 0, 0, []⟩ xs.tail.tail.tail) := by
  have hz := Lib.hid (h.lt)
  go_enter Try.func45, Try.ntmps45
  go_wp2_with fail
  refine (next_calls w0 _ g xs 9 (by omega) (by omega) (h.alloc _)).mono ?_
  rintro e w1 ⟨rfl, h1, k1⟩
  have k1 := Lib.hid k1
  go_wp2_with fail
  refine (next_calls w0 _ g _ v (by omega) (by omega) h1).mono ?_
  rintro e w2 ⟨rfl, h2, k2⟩
  have k2 := Lib.hid k2
  have hr2 := nx_range xs.tail v (by omega)
  go_wp2_with fail
  refine (next_calls w0 _ g _ v (by omega) (by omega) h2).mono ?_
  rintro e w3 ⟨rfl, h3, k3⟩
  have k3 := Lib.hid k3
  have hr3 := nx_range xs.tail.tail v (by omega)
  have kk := Lib.hid ((k1.out.trans (k2.out.trans (k3.out))))
  have hb : w3.heap[w.heap.size]? = some (.cells #[.int .u8 0, .int .u8 0, .int .i64 0, .int .i64 0, .int .i64 0, .int .i64 0, .slice none 0 0] 82 (0, 0)) :=
    kk.out.blk (heap_alloc_new w _) (by have := hz.out; omega)
  have hc := fun j u h => cellAt hb j u h
  have hc0 := hc 0 _ rfl
  have hc1 := hc 1 _ rfl
  have hc2 := hc 2 _ rfl
  have hc3 := hc 3 _ rfl
  have hc4 := hc 4 _ rfl
  have hc5 := hc 5 _ rfl
  have hc6 := hc 6 _ rfl
  clear hc
  have hf := froz hb
  have hb := Lib.hid hb
  have h3 := Lib.hid h3
  go_wp2
  refine bodyPost_ret (results_cell_row rfl _ _ w.heap.size 82 _ _ _ rfl (set7 hb.out _ _ _ _ _ _ _) Try.underlying82 rfl sizeIns) rfl ?_
  refine ⟨.slice none 0 0, rfl, Kd.R_nil _ _ _ _ _, h3.out.upd (upd7_own _ _ _ _ _ _ _) ?_, upd7 (((Upd.refl _ _).alloc _).trans kk.out) (.inr (Nat.le_refl _)) _ _ _ _ _ _ _⟩
  rintro k rfl
  exact ⟨h.low.size, fun e => by have := hz.out; omega⟩

set_option maxHeartbeats 400000 in
theorem ins_bin2 (w0 w : World) (g : Nat) (xs : List Int) (v : Int) (hv0 : 0 < v) (hv : v ≤ 1000) (h : Mk w0 w g xs) (hk : nx xs 9 = 2) :
    Calls Try.prog 45 #[.pointer (some ⟨g, 0, none⟩), .int .i64 v] w (InsPost w0 w g ⟨3, 1 + nx xs.tail 7, nx xs.tail.tail v, nx xs.tail.tail.tail v, nx xs.tail.tail.tail.tail v, 0, []⟩ xs.tail.tail.tail.tail.tail) := by
  have hz := Lib.hid (h.lt)
  go_enter Try.func45, Try.ntmps45
  go_wp2_with fail
  refine (next_calls w0 _ g xs 9 (by omega) (by omega) (h.alloc _)).mono ?_
  rintro e w1 ⟨rfl, h1, k1⟩
  have k1 := Lib.hid k1
  go_wp2_with fail
  refine (next_calls w0 _ g _ 7 (by omega) (by omega) h1).mono ?_
  rintro e w2 ⟨rfl, h2, k2⟩
  have k2 := Lib.hid k2
  have hr2 := nx_range xs.tail 7 (by omega)
  go_wp2_with fail
  refine (next_calls w0 _ g _ v (by omega) (by omega) h2).mono ?_
  rintro e w3 ⟨rfl, h3, k3⟩
  have k3 := Lib.hid k3
  have hr3 := nx_range xs.tail.tail v (by omega)
  go_wp2_with fail
  refine (next_calls w0 _ g _ v (by omega) (by omega) h3).mono ?_
  rintro e w4 ⟨rfl, h4, k4⟩
  have k4 := Lib.hid k4
  have hr4 := nx_range xs.tail.tail.tail v (by omega)
  go_wp2_with fail
  refine (next_calls w0 _ g _ v (by omega) (by omega) h4).mono ?_
  rintro e w5 ⟨rfl, h5, k5⟩
  have k5 := Lib.hid k5
  have hr5 := nx_range xs.tail.tail.tail.tail v (by omega)
  have kk := Lib.hid ((k1.out.trans (k2.out.trans (k3.out.trans (k4.out.trans (k5.out))))))
  have hb : w5.heap[w.heap.size]? = some (.cells #[.int .u8 0, .int .u8 0, .int .i64 0, .int .i64 0, .int .i64 0, .int .i64 0, .slice none 0 0] 82 (0, 0)) :=
    kk.out.blk (heap_alloc_new w _) (by have := hz.out; omega)
  have hc := fun j u h => cellAt hb j u h
  have hc0 := hc 0 _ rfl
  have hc1 := hc 1 _ rfl
  have hc2 := hc 2 _ rfl
  have hc3 := hc 3 _ rfl
  have hc4 := hc 4 _ rfl
  have hc5 := hc 5 _ rfl
  have hc6 := hc 6 _ rfl
  clear hc
  have hf := froz hb
  have hb := Lib.hid hb
  have h5 := Lib.hid h5
  go_wp2
  refine bodyPost_ret (results_cell_row rfl _ _ w.heap.size 82 _ _ _ rfl (set7 hb.out _ _ _ _ _ _ _) Try.underlying82 rfl sizeIns) rfl ?_
  refine ⟨.slice none 0 0, rfl, Kd.R_nil _ _ _ _ _, h5.out.upd (upd7_own _ _ _ _ _ _ _) ?_, upd7 (((Upd.refl _ _).alloc _).trans kk.out) (.inr (Nat.le_refl _)) _ _ _ _ _ _ _⟩
  rintro k rfl
  exact ⟨h.low.size, fun e => by have := hz.out; omega⟩

set_option maxHeartbeats 400000 in
theorem ins_bin7 (w0 w : World) (g : Nat) (xs : List Int) (v : Int) (hv0 : 0 < v) (hv : v ≤ 1000) (h : Mk w0 w g xs) (hk : nx xs 9 = 7) :
    Calls Try.prog 45 #[.pointer (some ⟨g, 0, none⟩), .int .i64 v] w (InsPost w0 w g ⟨3, 1 + nx xs.tail 7, nx xs.tail.tail v, nx xs.tail.tail.tail v, nx xs.tail.tail.tail.tail v, 0, []⟩ xs.tail.tail.tail.tail.tail) := by
  have hz := Lib.hid (h.lt)
  go_enter Try.func45, Try.ntmps45
  go_wp2_with fail
  refine (next_calls w0 _ g xs 9 (by omega) (by omega) (h.alloc _)).mono ?_
  rintro e w1 ⟨rfl, h1, k1⟩
  have k1 := Lib.hid k1
  go_wp2_with fail
  refine (next_calls w0 _ g _ 7 (by omega) (by omega) h1).mono ?_
  rintro e w2 ⟨rfl, h2, k2⟩
  have k2 := Lib.hid k2
  have hr2 := nx_range xs.tail 7 (by omega)
  go_wp2_with fail
  refine (next_calls w0 _ g _ v (by omega) (by omega) h2).mono ?_
  rintro e w3 ⟨rfl, h3, k3⟩
  have k3 := Lib.hid k3
  have hr3 := nx_range xs.tail.tail v (by omega)
  go_wp2_with fail
  refine (next_calls w0 _ g _ v (by omega) (by omega) h3).mono ?_
  rintro e w4 ⟨rfl, h4, k4⟩
  have k4 := Lib.hid k4
  have hr4 := nx_range xs.tail.tail.tail v (by omega)
  go_wp2_with fail
  refine (next_calls w0 _ g _ v (by omega) (by omega) h4).mono ?_
  rintro e w5 ⟨rfl, h5, k5⟩
  have k5 := Lib.hid k5
  have hr5 := nx_range xs.tail.tail.tail.tail v (by omega)
  have kk := Lib.hid ((k1.out.trans (k2.out.trans (k3.out.trans (k4.out.trans (k5.out))))))
  have hb : w5.heap[w.heap.size]? = some (.cells #[.int .u8 0, .int .u8 0, .int .i64 0, .int .i64 0, .int .i64 0, .int .i64 0, .slice none 0 0] 82 (0, 0)) :=
    kk.out.blk (heap_alloc_new w _) (by have := hz.out; omega)
  have hc := fun j u h => cellAt hb j u h
  have hc0 := hc 0 _ rfl
  have hc1 := hc 1 _ rfl
  have hc2 := hc 2 _ rfl
  have hc3 := hc 3 _ rfl
  have hc4 := hc 4 _ rfl
  have hc5 := hc 5 _ rfl
  have hc6 := hc 6 _ rfl
  clear hc
  have hf := froz hb
  have hb := Lib.hid hb
  have h5 := Lib.hid h5
  go_wp2
  refine bodyPost_ret (results_cell_row rfl _ _ w.heap.size 82 _ _ _ rfl (set7 hb.out _ _ _ _ _ _ _) Try.underlying82 rfl sizeIns) rfl ?_
  refine ⟨.slice none 0 0, rfl, Kd.R_nil _ _ _ _ _, h5.out.upd (upd7_own _ _ _ _ _ _ _) ?_, upd7 (((Upd.refl _ _).alloc _).trans kk.out) (.inr (Nat.le_refl _)) _ _ _ _ _ _ _⟩
  rintro k rfl
  exact ⟨h.low.size, fun e => by have := hz.out; omega⟩

set_option maxHeartbeats 400000 in
theorem ins_bin8 (w0 w : World) (g : Nat) (xs : List Int) (v : Int) (hv0 : 0 < v) (hv : v ≤ 1000) (h : Mk w0 w g xs) (hk : nx xs 9 = 8) :
    Calls Try.prog 45 #[.pointer (some ⟨g, 0, none⟩), .int .i64 v] w (InsPost w0 w g ⟨3, 1 + nx xs.tail 7, nx xs.tail.tail v, nx xs.tail.tail.tail v, nx xs.tail.tail.tail.tail v, 0, []⟩ xs.tail.tail.tail.tail.tail) := by
  have hz := Lib.hid (h.lt)
  go_enter Try.func45, Try.ntmps45
  go_wp2_with fail
  refine (next_calls w0 _ g xs 9 (by omega) (by omega) (h.alloc _)).mono ?_
  rintro e w1 ⟨rfl, h1, k1⟩
  have k1 := Lib.hid k1
  go_wp2_with fail
  refine (next_calls w0 _ g _ 7 (by omega) (by omega) h1).mono ?_
  rintro e w2 ⟨rfl, h2, k2⟩
  have k2 := Lib.hid k2
  have hr2 := nx_range xs.tail 7 (by omega)
  go_wp2_with fail
  refine (next_calls w0 _ g _ v (by omega) (by omega) h2).mono ?_
  rintro e w3 ⟨rfl, h3, k3⟩
  have k3 := Lib.hid k3
  have hr3 := nx_range xs.tail.tail v (by omega)
  go_wp2_with fail
  refine (next_calls w0 _ g _ v (by omega) (by omega) h3).mono ?_
  rintro e w4 ⟨rfl, h4, k4⟩
  have k4 := Lib.hid k4
  have hr4 := nx_range xs.tail.tail.tail v (by omega)
  go_wp2_with fail
  refine (next_calls w0 _ g _ v (by omega) (by omega) h4).mono ?_
  rintro e w5 ⟨rfl, h5, k5⟩
  have k5 := Lib.hid k5
  have hr5 := nx_range xs.tail.tail.tail.tail v (by omega)
  have kk := Lib.hid ((k1.out.trans (k2.out.trans (k3.out.trans (k4.out.trans (k5.out))))))
  have hb : w5.heap[w.heap.size]? = some (.cells #[.int .u8 0, .int .u8 0, .int .i64 0, .int .i64 0, .int .i64 0, .int .i64 0, .slice none 0 0] 82 (0, 0)) :=
    kk.out.blk (heap_alloc_new w _) (by have := hz.out; omega)
  have hc := fun j u h => cellAt hb j u h
  have hc0 := hc 0 _ rfl
  have hc1 := hc 1 _ rfl
  have hc2 := hc 2 _ rfl
  have hc3 := hc 3 _ rfl
  have hc4 := hc 4 _ rfl
  have hc5 := hc 5 _ rfl
  have hc6 := hc 6 _ rfl
  clear hc
  have hf := froz hb
  have hb := Lib.hid hb
  have h5 := Lib.hid h5
  go_wp2
  refine bodyPost_ret (results_cell_row rfl _ _ w.heap.size 82 _ _ _ rfl (set7 hb.out _ _ _ _ _ _ _) Try.underlying82 rfl sizeIns) rfl ?_
  refine ⟨.slice none 0 0, rfl, Kd.R_nil _ _ _ _ _, h5.out.upd (upd7_own _ _ _ _ _ _ _) ?_, upd7 (((Upd.refl _ _).alloc _).trans kk.out) (.inr (Nat.le_refl _)) _ _ _ _ _ _ _⟩
  rintro k rfl
  exact ⟨h.low.size, fun e => by have := hz.out; omega⟩
end Go.Proofs.Ytdmplkegjjbodaa
