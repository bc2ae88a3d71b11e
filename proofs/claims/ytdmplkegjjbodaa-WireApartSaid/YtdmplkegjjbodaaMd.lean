/- outworkerlaw04.Made: what it makes, and its walk. -/
import Derived.Test.YtdmplkegjjbodaaMk2
import Derived.Test.YtdmplkegjjbodaaWMore
namespace Go.Proofs.Ytdmplkegjjbodaa
set_option linter.unusedSimpArgs false
set_option linter.unusedVariables false
open Go.RowKit Go.Proofs.YtdmplkegjjbodaaW.PrintWords Go.Proofs.YtdmplkegjjbodaaW.PrintLast Go.Proofs.YtdmplkegjjbodaaW.PrintMore

theorem max2_mx (k k' : IntKind) (x y : Int) : Builtin.max2 (.int k x) (.int k' y) = pure (.int k (mx x y)) := max2_int k k' x y
theorem min2_mn (k k' : IntKind) (x y : Int) : Builtin.min2 (.int k x) (.int k' y) = pure (.int k (mn x y)) := min2_int k k' x y
def insN (v : Int) : Nat → List Int → List Ins × List Int
  | 0, xs => ([], xs)
  | m + 1, xs => ((insN v m xs).1 ++ [(mkIns (insN v m xs).2 v).1], (mkIns (insN v m xs).2 v).2)
def mkEnd (xs : List Int) (v n : Int) : End × List Int :=
  if nx xs 4 = 1 then (⟨1, 0, nx xs.tail n, 0⟩, xs.tail.tail)
  else if nx xs 4 = 2 ∨ nx xs 4 = 3 then (⟨2, nx xs.tail v, nx xs.tail.tail n, nx xs.tail.tail.tail n⟩, xs.tail.tail.tail.tail)
  else (⟨3, nx xs.tail v, 0, 0⟩, xs.tail.tail)
def mkBlock (xs : List Int) (v n : Int) : Block × List Int :=
  (⟨(insN v (nx xs 9).toNat xs.tail).1, (mkEnd (insN v (nx xs 9).toNat xs.tail).2 v n).1⟩, (mkEnd (insN v (nx xs 9).toNat xs.tail).2 v n).2)
def blocksN (v n : Int) : Nat → List Int → List Block × List Int
  | 0, xs => ([], xs)
  | m + 1, xs => ((blocksN v n m xs).1 ++ [(mkBlock (blocksN v n m xs).2 v n).1], (mkBlock (blocksN v n m xs).2 v n).2)
structure Fn where
  params : Int
  vregs : Int
  blocks : List Block
  deriving DecidableEq, Inhabited
def made (p v b : Int) (xs : List Int) : Fn :=
  ⟨p % 5, mx (p % 5) 1 + v % 28, (blocksN (mx (p % 5) 1 + v % 28) (1 + b % 7) (1 + b % 7).toNat xs).1⟩

theorem insN_length (v : Int) (m : Nat) (xs : List Int) : (insN v m xs).1.length = m := by
  induction m with
  | zero => rfl
  | succ m ih => simp [insN, ih]
theorem blocksN_length (v n : Int) (m : Nat) (xs : List Int) : (blocksN v n m xs).1.length = m := by
  induction m with
  | zero => rfl
  | succ m ih => simp [blocksN, ih]

theorem infoIns : (Try.prog.info? 82).map (fun i => (i.zero, i.size, i.bytes)) = some (some (.agg #[.int .u8 0, .int .u8 0, .int .i64 0, .int .i64 0, .int .i64 0, .int .i64 0, .slice none 0 0]), 7, 64) := by kernel_rfl
theorem infoBlock : (Try.prog.info? 77).map (fun i => (i.zero, i.size, i.bytes)) = some (some (.agg #[.slice none 0 0, .int .u8 0, .int .i64 0, .int .i64 0, .int .i64 0]), 5, 56) := by kernel_rfl

theorem R_from {α : Type} {d : Kd α} {e base base' : Nat} {w : World} {ok : Nat → Prop} {v : Value} {xs : List α} (h : d.R e w base ok v xs) (hb : base' ≤ base) : d.R e w base' (fun k => base ≤ k) v xs :=
  Kd.R_lower (Kd.R_mono (Kd.R_bound h) (fun _ hk => hk.2.1)) hb
theorem S_from {α : Type} {d : Kd α} {e base base' : Nat} {w : World} {ok : Nat → Prop} {v : Value} {xs : List α} (h : Kd.S d e w base ok v xs) (hb : base' ≤ base) : Kd.S d e w base' (fun k => base ≤ k) v xs :=
  Kd.S_lower (Kd.S_mono (Kd.S_bound h) (fun _ hk => hk.2.1)) hb
/-- none of its blocks is new -/
theorem S_to {α : Type} {d : Kd α} {e base : Nat} {w : World} {ok : Nat → Prop} {v : Value} {xs : List α} (h : Kd.S d e w base ok v xs) : Kd.S d e w base (fun k => ok k ∧ ¬ w.heap.size ≤ k) v xs :=
  Kd.S_mono (Kd.S_bound h) (fun k hk => ⟨hk.1, by have := hk.2.2.1; omega⟩)

end Go.Proofs.Ytdmplkegjjbodaa
