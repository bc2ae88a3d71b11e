/- Kinds: what the cells of instructions, ends, blocks and functions say; plain lemmas on elements of rows. No statement of the program stands here. -/
import Derived.Test.YtdmplkegjjbodaaProg
import Derived.WalkKit
import Derived.WalkLawsBesides
import Derived.BigQuiet
import Derived.Deep.QuietTactic
import Derived.KernelRfl
import Derived.Test.YtdmplkegjjbodaaWWords
import Derived.Test.YtdmplkegjjbodaaWApart
namespace Go.Proofs.Ytdmplkegjjbodaa
open Go.RowKit Go.Proofs.YtdmplkegjjbodaaW.PrintWords

theorem infoI : (Try.prog.info? 3).map (fun i => (i.zero, i.size, i.bytes)) = some (some (.int .i64 0), 1, 8) := by kernel_rfl
theorem infoB : (Try.prog.info? 5).map (fun i => (i.zero, i.size, i.bytes)) = some (some (.int .u8 0), 1, 1) := by kernel_rfl

theorem sizeIns : (Try.prog.info? 82).map (·.size) = some 7 := by kernel_rfl
theorem sizeEnd : (Try.prog.info? 75).map (·.size) = some 4 := by kernel_rfl
theorem sizeBlock : (Try.prog.info? 77).map (·.size) = some 5 := by kernel_rfl
theorem sizeFunc : (Try.prog.info? 24).map (·.size) = some 3 := by kernel_rfl

structure Ins where
  kind : Int
  op : Int
  d : Int
  a : Int
  b : Int
  n : Int
  args : List Int
  deriving DecidableEq, Inhabited
structure End where
  kind : Int
  a : Int
  jt : Int
  je : Int
  deriving DecidableEq, Inhabited
structure Block where
  ins : List Ins
  e : End
  deriving DecidableEq, Inhabited

/-- a row whose elements' inner rows lie apart -/
def sliceS {α : Type} (e : Nat) (d : Kd α) : Kd (List α) where
  sz := 1
  E := e :: d.E
  K := (Kd.slice e d).K
  M := fun w base ok xs cs => ∃ v, cs = [v] ∧ Kd.S d e w base ok v xs
  K_len := (Kd.slice e d).K_len
  K_one := (Kd.slice e d).K_one
  K_below := (Kd.slice e d).K_below
  K_of_M := by
    rintro w base ok x cs ⟨v, rfl, h⟩
    exact (Kd.slice e d).K_of_M (base := base) (ok := ok) ⟨v, rfl, Kd.S_R h⟩
  M_mono := by
    rintro w base ok ok' x cs hok ⟨v, rfl, h⟩
    exact ⟨v, rfl, Kd.S_mono h hok⟩
  M_bound := by
    rintro w base ok x cs ⟨v, rfl, h⟩
    exact ⟨v, rfl, Kd.S_bound h⟩
  M_move := by
    rintro w w1 base ok x cs hm ⟨v, rfl, h⟩
    exact ⟨v, rfl, Kd.S_move h hm⟩
  M_lower := by
    rintro w base base' ok x cs hb ⟨v, rfl, h⟩
    exact ⟨v, rfl, Kd.S_lower h hb⟩

def zIns : Ins := ⟨0, 0, 0, 0, 0, 0, []⟩
def zEnd : End := ⟨0, 0, 0, 0⟩
def zBlock : Block := ⟨[], zEnd⟩

def kIns : Kd Ins := Kd.iso (Kd.pair (Kd.int .u8) (Kd.pair (Kd.int .u8) (Kd.pair (Kd.int .i64) (Kd.pair (Kd.int .i64) (Kd.pair (Kd.int .i64) (Kd.pair (Kd.int .i64) (Kd.slice 3 (Kd.int .i64)))))))) (fun x : Ins => (x.kind, x.op, x.d, x.a, x.b, x.n, x.args))
def kEnd : Kd End := Kd.iso (Kd.pair (Kd.int .u8) (Kd.pair (Kd.int .i64) (Kd.pair (Kd.int .i64) (Kd.int .i64)))) (fun x : End => (x.kind, x.a, x.jt, x.je))
def kBlock : Kd Block := Kd.iso (Kd.pair (sliceS 82 kIns) kEnd) (fun x : Block => (x.ins, x.e))

def Ins.cells (x : Ins) (v : Value) : List Value := [.int .u8 x.kind, .int .u8 x.op, .int .i64 x.d, .int .i64 x.a, .int .i64 x.b, .int .i64 x.n, v]
def End.cells (x : End) : List Value := [.int .u8 x.kind, .int .i64 x.a, .int .i64 x.jt, .int .i64 x.je]
def Block.cells (x : Block) (v : Value) : List Value := [v, .int .u8 x.e.kind, .int .i64 x.e.a, .int .i64 x.e.jt, .int .i64 x.e.je]

theorem kIns_K {w : World} {x : Ins} {cs : List Value} : kIns.K w x cs ↔ ∃ A c, cs = x.cells (.slice A x.args.length c) ∧ x.args.length ≤ c ∧ (Kd.int .i64).C w A x.args.length x.args := by
  constructor
  · rintro ⟨_, _, rfl, rfl, ⟨_, _, rfl, rfl, ⟨_, _, rfl, rfl, ⟨_, _, rfl, rfl, ⟨_, _, rfl, rfl, ⟨_, _, rfl, rfl, ⟨A6, c6, rfl, l6, g6⟩⟩⟩⟩⟩⟩⟩
    exact ⟨A6, c6, rfl, l6, g6⟩
  · rintro ⟨A, c, rfl, hl, hc⟩
    exact ⟨[_], _, rfl, rfl, [_], _, rfl, rfl, [_], _, rfl, rfl, [_], _, rfl, rfl, [_], _, rfl, rfl, [_], _, rfl, rfl, A, c, rfl, hl, hc⟩
theorem kIns_M {w : World} {base : Nat} {ok : Nat → Prop} {x : Ins} {cs : List Value} : kIns.M w base ok x cs ↔ ∃ v, cs = x.cells v ∧ (Kd.int .i64).R 3 w base ok v x.args := by
  constructor
  · rintro ⟨_, _, rfl, rfl, ⟨_, _, rfl, rfl, ⟨_, _, rfl, rfl, ⟨_, _, rfl, rfl, ⟨_, _, rfl, rfl, ⟨_, _, rfl, rfl, ⟨v6, rfl, g6⟩⟩⟩⟩⟩⟩⟩
    exact ⟨v6, rfl, g6⟩
  · rintro ⟨v, rfl, hc⟩
    exact ⟨[_], _, rfl, rfl, [_], _, rfl, rfl, [_], _, rfl, rfl, [_], _, rfl, rfl, [_], _, rfl, rfl, [_], _, rfl, rfl, v, rfl, hc⟩
theorem kEnd_K {w : World} {x : End} {cs : List Value} : kEnd.K w x cs ↔ cs = x.cells := by
  constructor
  · rintro ⟨_, _, rfl, rfl, ⟨_, _, rfl, rfl, ⟨_, _, rfl, rfl, rfl⟩⟩⟩
    rfl
  · rintro rfl
    exact ⟨[_], _, rfl, rfl, [_], _, rfl, rfl, [_], _, rfl, rfl, rfl⟩
theorem kEnd_M {w : World} {base : Nat} {ok : Nat → Prop} {x : End} {cs : List Value} : kEnd.M w base ok x cs ↔ cs = x.cells := by
  constructor
  · rintro ⟨_, _, rfl, rfl, ⟨_, _, rfl, rfl, ⟨_, _, rfl, rfl, rfl⟩⟩⟩
    rfl
  · rintro rfl
    exact ⟨[_], _, rfl, rfl, [_], _, rfl, rfl, [_], _, rfl, rfl, rfl⟩
theorem kBlock_K {w : World} {x : Block} {cs : List Value} : kBlock.K w x cs ↔ ∃ A c, cs = x.cells (.slice A x.ins.length c) ∧ x.ins.length ≤ c ∧ kIns.C w A x.ins.length x.ins := by
  constructor
  · rintro ⟨_, _, rfl, ⟨A0, c0, rfl, l0, g0⟩, s1⟩
    obtain rfl := kEnd_K.1 s1
    exact ⟨A0, c0, rfl, l0, g0⟩
  · rintro ⟨A, c, rfl, hl, hc⟩
    exact ⟨[_], _, rfl, ⟨A, c, rfl, hl, hc⟩, kEnd_K.2 rfl⟩
theorem kBlock_M {w : World} {base : Nat} {ok : Nat → Prop} {x : Block} {cs : List Value} : kBlock.M w base ok x cs ↔ ∃ v, cs = x.cells v ∧ Kd.S kIns 82 w base ok v x.ins := by
  constructor
  · rintro ⟨_, _, rfl, ⟨v, rfl, g0⟩, s1⟩
    obtain rfl := kEnd_M.1 s1
    exact ⟨v, rfl, g0⟩
  · rintro ⟨v, rfl, hc⟩
    exact ⟨[_], _, rfl, ⟨v, rfl, hc⟩, kEnd_M.2 rfl⟩
theorem kIns_sz : kIns.sz = 7 := rfl
theorem kEnd_sz : kEnd.sz = 4 := rfl
theorem kBlock_sz : kBlock.sz = 5 := rfl

/-! ### Frames: outside S all that was there is as it was -/
structure Upd (S : Nat → Prop) (w w' : World) : Prop where
  os : w'.os = w.os
  tape : w'.tape = w.tape
  output : w'.output = w.output
  size : w.heap.size ≤ w'.heap.size
  block : ∀ k, k < w.heap.size → ¬ S k → w'.heap[k]? = w.heap[k]?
namespace Upd
variable {S S' : Nat → Prop} {w w' w'' : World}
theorem refl (S : Nat → Prop) (w : World) : Upd S w w := ⟨rfl, rfl, rfl, Nat.le_refl _, fun _ _ _ => rfl⟩
theorem trans (h : Upd S w w') (k : Upd S w' w'') : Upd S w w'' :=
  ⟨k.os.trans h.os, k.tape.trans h.tape, k.output.trans h.output, Nat.le_trans h.size k.size, fun i hi hs => (k.block i (Nat.lt_of_lt_of_le hi h.size) hs).trans (h.block i hi hs)⟩
/-- the second step may write what is new, or in S -/
theorem then_ (h : Upd S w w') (k : Upd S' w' w'') (hS : ∀ i, i < w.heap.size → S' i → S i) : Upd S w w'' :=
  ⟨k.os.trans h.os, k.tape.trans h.tape, k.output.trans h.output, Nat.le_trans h.size k.size, fun i hi hs => (k.block i (Nat.lt_of_lt_of_le hi h.size) (fun hk => hs (hS i hi hk))).trans (h.block i hi hs)⟩
theorem mono (h : Upd S w w') (hS : ∀ i, i < w.heap.size → S i → S' i) : Upd S' w w' := ⟨h.os, h.tape, h.output, h.size, fun i hi hs => h.block i hi (fun hk => hs (hS i hi hk))⟩
theorem alloc (h : Upd S w w') (o : Obj) : Upd S w (w'.alloc o) := ⟨h.os, h.tape, h.output, Nat.le_trans h.size (by simp), fun i hi hs => (Below.heap_alloc w' o i (Nat.lt_of_lt_of_le hi h.size)).trans (h.block i hi hs)⟩
theorem drew (h : Upd S w w') : Upd S w w'.drew := ⟨h.os, h.tape, h.output, h.size, h.block⟩
theorem drewN (h : Upd S w w') (n : Nat) : Upd S w (w'.drewN n) := ⟨h.os, h.tape, h.output, h.size, h.block⟩
theorem set_ (h : Upd S w w') {p : Addr} (hp : S p.block ∨ w.heap.size ≤ p.block) (u : Value) : Upd S w (w'.setCell p u) :=
  ⟨h.os, h.tape, h.output, by simpa [World.setCell] using h.size, fun i hi hs => (Below.heap_setCell w' p u i (by
    rintro rfl
    rcases hp with hp | hp
    · exact hs hp
    · omega)).trans (h.block i hi hs)⟩
theorem setRow (h : Upd S w w') {g : Nat} (hp : S g ∨ w.heap.size ≤ g) (cs : Array Value) : Upd S w (w'.setRow g cs) :=
  ⟨h.os, h.tape, h.output, by simpa using h.size, fun i hi hs => (setRow_other w' g i cs (by
    rintro rfl
    rcases hp with hp | hp
    · exact hs hp
    · omega)).trans (h.block i hi hs)⟩
theorem set1 (w : World) (g j : Nat) (u : Value) : Upd (· = g) w (w.setCell ⟨g, j, none⟩ u) := set_ (S := (· = g)) (refl _ w) (p := ⟨g, j, none⟩) (.inl rfl) u
theorem of_below {B : Nat} (h : Below B w w') (hS : ∀ i, i < w.heap.size → B ≤ i → S i) : Upd S w w' :=
  ⟨h.os, h.tape, h.output, h.size, fun i hi hs => h.block i (Nat.lt_of_not_le fun hk => hs (hS i hi hk))⟩
theorem of_grown {row : Option Nat} (h : w.grownBy w' row) : Upd (fun k => some k = row) w w' := ⟨h.os, h.tape, h.output, h.size, h.block⟩
theorem below (h : Upd S w w') {B : Nat} (hS : ∀ i, S i → B ≤ i) (hB : B ≤ w.heap.size) : Below B w w' :=
  ⟨h.os, h.tape, h.output, h.size, fun i hi => h.block i (by omega) (fun hk => by have := hS i hk; omega)⟩
theorem blk (h : Upd S w w') {g : Nat} {o : Obj} (hb : w.heap[g]? = some o) (hg : ¬ S g) : w'.heap[g]? = some o :=
  (h.block g (Array.getElem?_eq_some_iff.1 hb).1 hg).trans hb
theorem keep (h : Upd S w w') {g : Nat} (hS : ∀ k, S k → k = g) : KeepBut w w' g none := ⟨h.size, fun i hi hg _ => h.block i hi (fun hk => hg (hS i hk))⟩
end Upd
theorem heap_set {w : World} {g : Nat} {cs : Array Value} {t : TypeId} (h : w.heap[g]? = some (.cells cs t (0, 0))) (j : Nat) (u : Value) :
    (w.setCell ⟨g, j, none⟩ u).heap[g]? = some (.cells (cs.setIfInBounds j u) t (0, 0)) := by
  simp [World.setCell, Array.getElem?_modify, h]
theorem size_set (w : World) (p : Addr) (u : Value) : (w.setCell p u).heap.size = w.heap.size := by simp [World.setCell]
theorem froz {w : World} {g : Nat} {cs : Array Value} {t : TypeId} (h : w.heap[g]? = some (.cells cs t (0, 0))) (j : Nat) : w.frozen? ⟨g, j, none⟩ = false := by simp [World.frozen?, h]
theorem cellAt {w : World} {g : Nat} {cs : Array Value} {t : TypeId} (h : w.heap[g]? = some (.cells cs t (0, 0))) (j : Nat) (u : Value) (hu : cs[j]? = some u) : w.cell? ⟨g, j, none⟩ = some u := by
  rw [cell_of_row w g j _ _ _ h, hu]
theorem blk_lt' {w : World} {g : Nat} {o : Obj} (h : w.heap[g]? = some o) : g < w.heap.size := (Array.getElem?_eq_some_iff.1 h).1
section
variable {α : Type} {d : Kd α} {e base : Nat} {w w' : World} {ok S : Nat → Prop} {v : Value} {xs : List α}
theorem R_upd (h : d.R e w base ok v xs) (hu : Upd S w w') (hS : ∀ k, k < w.heap.size → base ≤ k → ok k → ¬ S k) : d.R e w' base ok v xs :=
  Kd.R_mono (Kd.R_step (Kd.R_bound h) (fun k hk hlt => hu.block k hlt (hS k hlt hk.2.1 hk.1))) (fun _ hk => hk.1)
theorem S_upd (h : Kd.S d e w base ok v xs) (hu : Upd S w w') (hS : ∀ k, k < w.heap.size → base ≤ k → ok k → ¬ S k) : Kd.S d e w' base ok v xs :=
  Kd.S_mono (Kd.S_step (Kd.S_bound h) (fun k hk hlt => hu.block k hlt (hS k hlt hk.2.1 hk.1))) (fun _ hk => hk.1)
theorem M_upd {x : α} {cs : List Value} (h : d.M w base ok x cs) (hu : Upd S w w') (hS : ∀ k, k < w.heap.size → base ≤ k → ok k → ¬ S k) : d.M w' base ok x cs :=
  d.M_mono (fun _ hk => hk.1) (Kd.M_step (d.M_bound h) (fun k hk hlt => hu.block k hlt (hS k hlt hk.2.1 hk.1)))
end
theorem upd7_own {w : World} {g : Nat} (b0 b1 b2 b3 b4 b5 b6 : Value) :
    Upd (· = g) w (((((((w.setCell ⟨g, 0, none⟩ b0).setCell ⟨g, 1, none⟩ b1).setCell ⟨g, 2, none⟩ b2).setCell ⟨g, 3, none⟩ b3).setCell ⟨g, 4, none⟩ b4).setCell ⟨g, 5, none⟩ b5).setCell ⟨g, 6, none⟩ b6) :=
  ((((((Upd.set1 w g 0 b0).trans (Upd.set1 _ g 1 b1)).trans (Upd.set1 _ g 2 b2)).trans (Upd.set1 _ g 3 b3)).trans (Upd.set1 _ g 4 b4)).trans (Upd.set1 _ g 5 b5)).trans (Upd.set1 _ g 6 b6)
theorem ints_ne {k : IntKind} {e t : Nat} (h : e ≠ t) : ∀ q, q ∈ e :: (Kd.int k).E → q ≠ t := by
  intro q hq
  rcases List.mem_cons.1 hq with rfl | hq
  · exact h
  · cases hq
/-- seven cells of one block are stored -/
theorem set7 {w : World} {g : Nat} {t : TypeId} {a0 a1 a2 a3 a4 a5 a6 : Value} (h : w.heap[g]? = some (.cells #[a0, a1, a2, a3, a4, a5, a6] t (0, 0))) (b0 b1 b2 b3 b4 b5 b6 : Value) :
    (((((((w.setCell ⟨g, 0, none⟩ b0).setCell ⟨g, 1, none⟩ b1).setCell ⟨g, 2, none⟩ b2).setCell ⟨g, 3, none⟩ b3).setCell ⟨g, 4, none⟩ b4).setCell ⟨g, 5, none⟩ b5).setCell ⟨g, 6, none⟩ b6).heap[g]? = some (.cells #[b0, b1, b2, b3, b4, b5, b6] t (0, 0)) := by
  have := heap_set (heap_set (heap_set (heap_set (heap_set (heap_set (heap_set h 0 b0) 1 b1) 2 b2) 3 b3) 4 b4) 5 b5) 6 b6
  simpa using this
theorem upd7 {S : Nat → Prop} {w w' : World} (h : Upd S w w') {g : Nat} (hp : S g ∨ w.heap.size ≤ g) (b0 b1 b2 b3 b4 b5 b6 : Value) :
    Upd S w (((((((w'.setCell ⟨g, 0, none⟩ b0).setCell ⟨g, 1, none⟩ b1).setCell ⟨g, 2, none⟩ b2).setCell ⟨g, 3, none⟩ b3).setCell ⟨g, 4, none⟩ b4).setCell ⟨g, 5, none⟩ b5).setCell ⟨g, 6, none⟩ b6) :=
  ((((((h.set_ (p := ⟨g, 0, none⟩) hp b0).set_ (p := ⟨g, 1, none⟩) hp b1).set_ (p := ⟨g, 2, none⟩) hp b2).set_ (p := ⟨g, 3, none⟩) hp b3).set_ (p := ⟨g, 4, none⟩) hp b4).set_ (p := ⟨g, 5, none⟩) hp b5).set_ (p := ⟨g, 6, none⟩) hp b6
end Go.Proofs.Ytdmplkegjjbodaa
