/- Gathered by a program of this session (shake.py): what the claim's theorem needs. -/
import Derived.Test.YtlglbpjccpdloaaGreatDoorOz0
import Derived.Test.YtlglbpjccpdloaaGreatDoorOz1
import Derived.Test.YtlglbpjccpdloaaGreatDoorOz2
import Derived.Test.YtlglbpjccpdloaaGreatDoorOz3
import Derived.Test.YtlglbpjccpdloaaGreatDoorOz4
import Derived.Defers
import Derived.Laws.Pointers
import Derived.Laws.LoneSync
import Derived.RegionTactic
import Derived.RegionCalls
import Derived.ChangeAlike
import Derived.Laws.NewBlocks
import Derived.LoopN
import Derived.Deep.WholeRow
import Derived.Below
import Derived.Deep.Draws
import Derived.Deep.AppendLies
import Derived.Maps.AppendAt
import Derived.OwnWalk
import Derived.Laws.BytesArg
import Derived.Laws.MakeOwn
import Derived.Laws.OwnMore
import Derived.Deep.OwnRows
import Derived.Tactics
import Derived.Lib.ConvBytes
import Derived.Laws.Slices
import Derived.WalkKit
import Derived.KernelRfl
import Derived.RowKit3
import Derived.Deep.LoopGhost
import Derived.Deep.QuietTactic
import Derived.BigQuiet
import Derived.WideLaws
import Derived.Deep.DeepCutAuto
import Derived.Deep.CutBlock
import Derived.Deep.RegionHeld3
import Derived.Laws.Rows
import Derived.Lib.AppendStr
import Derived.ArgAppend
import Derived.Laws.IdiomCopy
import Derived.OrdersHeld
import Derived.Laws.BitsLemmas
import Derived.RowKit
import Derived.Test.YtlglbpjccpdloaaGreatDoorProg
set_option linter.unusedVariables false
set_option linter.unusedSimpArgs false
namespace Go.Proofs.YtlglbpjccpdloaaGreatDoor.Ext
end Go.Proofs.YtlglbpjccpdloaaGreatDoor.Ext
namespace Go.Proofs.YtlglbpjccpdloaaGreatDoor.PToxR
end Go.Proofs.YtlglbpjccpdloaaGreatDoor.PToxR
namespace Go.Proofs.YtlglbpjccpdloaaGreatDoor.PWrdA
end Go.Proofs.YtlglbpjccpdloaaGreatDoor.PWrdA
namespace Go.Proofs.YtlglbpjccpdloaaGreatDoor.Tox
end Go.Proofs.YtlglbpjccpdloaaGreatDoor.Tox
namespace Go.Proofs.YtlglbpjccpdloaaGreatDoor.ToxPlain
end Go.Proofs.YtlglbpjccpdloaaGreatDoor.ToxPlain
namespace Go.Proofs.YtlglbpjccpdloaaGreatDoor.ToxRef
end Go.Proofs.YtlglbpjccpdloaaGreatDoor.ToxRef
namespace Go.Proofs.YtlglbpjccpdloaaGreatDoor.ToxZ
end Go.Proofs.YtlglbpjccpdloaaGreatDoor.ToxZ
namespace Go.Proofs.YtlglbpjccpdloaaGreatDoorW.PrintLast
end Go.Proofs.YtlglbpjccpdloaaGreatDoorW.PrintLast
namespace Go.Proofs.YtlglbpjccpdloaaGreatDoorW.PrintMore
end Go.Proofs.YtlglbpjccpdloaaGreatDoorW.PrintMore
namespace Go.Proofs.YtlglbpjccpdloaaGreatDoorW.PrintWords
end Go.Proofs.YtlglbpjccpdloaaGreatDoorW.PrintWords
namespace Go.Proofs.YtlglbpjccpdloaaGreatDoor.POrdT
open Go.Proofs.YtlglbpjccpdloaaGreatDoor.Ext Go.Proofs.YtlglbpjccpdloaaGreatDoor.ToxZ Go.RowKit Go.Proofs.YtlglbpjccpdloaaGreatDoorW.PrintWords Go.Proofs.YtlglbpjccpdloaaGreatDoorW.PrintLast Go.Proofs.YtlglbpjccpdloaaGreatDoorW.PrintMore
attribute [local go_sem] max2_int min2_int max_two min_two max_three min_three max_four min_four   -- for this text's walks alone
set_option linter.unusedVariables false
set_option linter.unusedSimpArgs false
def IsS27 (w0 W : World) (g : Nat) (f0 : Int) (f1 : ByteArray) (f2 : ByteArray) (f3 : Int) (f4 : ByteArray) (f5 : Int) (f6 : Bool) (f7 : Int) (f8 : Int) (f9 : Int) : Prop := W.heap[g]? = some (.cells #[.int .i64 f0, .string f1, .string f2, .int .i64 f3, .string f4, .int .i64 f5, .bool f6, .int .i64 f7, .int .i64 f8, .int .i64 f9] 27 (0, 0)) ∧ w0.heap.size ≤ g
theorem IsS27.grown {w0 W : World} {g : Nat} {f0 : Int} {f1 : ByteArray} {f2 : ByteArray} {f3 : Int} {f4 : ByteArray} {f5 : Int} {f6 : Bool} {f7 : Int} {f8 : Int} {f9 : Int} {W1 : World} {row : Option Nat} (h : IsS27 w0 W g f0 f1 f2 f3 f4 f5 f6 f7 f8 f9) (hw : W.grownBy W1 row) (hne : some g ≠ row) : IsS27 w0 W1 g f0 f1 f2 f3 f4 f5 f6 f7 f8 f9 := by
 obtain ⟨hb, hg⟩ := h
 exact ⟨blk_grown hb hw hne, hg⟩
theorem IsS27.kept {w0 W : World} {g : Nat} {f0 : Int} {f1 : ByteArray} {f2 : ByteArray} {f3 : Int} {f4 : ByteArray} {f5 : Int} {f6 : Bool} {f7 : Int} {f8 : Int} {f9 : Int} {W1 : World} {S : Nat → Prop} (h : IsS27 w0 W g f0 f1 f2 f3 f4 f5 f6 f7 f8 f9) (hk : Kept W W1 S) (hne : ¬ S g) : IsS27 w0 W1 g f0 f1 f2 f3 f4 f5 f6 f7 f8 f9 := by
 obtain ⟨hb, hg⟩ := h
 exact ⟨blk_kept hb hk hne, hg⟩
theorem IsS27.below {w0 W : World} {g : Nat} {f0 : Int} {f1 : ByteArray} {f2 : ByteArray} {f3 : Int} {f4 : ByteArray} {f5 : Int} {f6 : Bool} {f7 : Int} {f8 : Int} {f9 : Int} {W1 : World} (h : IsS27 w0 W g f0 f1 f2 f3 f4 f5 f6 f7 f8 f9) (hw : Below W.heap.size W W1) : IsS27 w0 W1 g f0 f1 f2 f3 f4 f5 f6 f7 f8 f9 := h.grown (grown_of_below hw none) (by simp)
theorem IsS27.alloc {w0 W : World} {g : Nat} {f0 : Int} {f1 : ByteArray} {f2 : ByteArray} {f3 : Int} {f4 : ByteArray} {f5 : Int} {f6 : Bool} {f7 : Int} {f8 : Int} {f9 : Int} (h : IsS27 w0 W g f0 f1 f2 f3 f4 f5 f6 f7 f8 f9) (o : Obj) : IsS27 w0 (W.alloc o) g f0 f1 f2 f3 f4 f5 f6 f7 f8 f9 := h.below (below_alloc (Below.refl _ _) o)
theorem IsS27.drewN {w0 W : World} {g : Nat} {f0 : Int} {f1 : ByteArray} {f2 : ByteArray} {f3 : Int} {f4 : ByteArray} {f5 : Int} {f6 : Bool} {f7 : Int} {f8 : Int} {f9 : Int} (h : IsS27 w0 W g f0 f1 f2 f3 f4 f5 f6 f7 f8 f9) (m : Nat) : IsS27 w0 (W.drewN m) g f0 f1 f2 f3 f4 f5 f6 f7 f8 f9 := h
theorem IsS27.drew {w0 W : World} {g : Nat} {f0 : Int} {f1 : ByteArray} {f2 : ByteArray} {f3 : Int} {f4 : ByteArray} {f5 : Int} {f6 : Bool} {f7 : Int} {f8 : Int} {f9 : Int} (h : IsS27 w0 W g f0 f1 f2 f3 f4 f5 f6 f7 f8 f9) : IsS27 w0 W.drew g f0 f1 f2 f3 f4 f5 f6 f7 f8 f9 := h
theorem IsS27.at_ {w0 W : World} {g : Nat} {f0 : Int} {f1 : ByteArray} {f2 : ByteArray} {f3 : Int} {f4 : ByteArray} {f5 : Int} {f6 : Bool} {f7 : Int} {f8 : Int} {f9 : Int} {w' : World} {m : Nat} (hq : W.drewN m = w') (h : IsS27 w0 W g f0 f1 f2 f3 f4 f5 f6 f7 f8 f9) : IsS27 w0 w' g f0 f1 f2 f3 f4 f5 f6 f7 f8 f9 := by subst hq; exact IsS27.drewN h m
theorem IsS27.apart {w0 W : World} {g : Nat} {f0 : Int} {f1 : ByteArray} {f2 : ByteArray} {f3 : Int} {f4 : ByteArray} {f5 : Int} {f6 : Bool} {f7 : Int} {f8 : Int} {f9 : Int} {α : Type} {d : Kd α} {e : Nat} {base : Nat} {ok : Nat → Prop} {v : Value} {xs : List α} (h : IsS27 w0 W g f0 f1 f2 f3 f4 f5 f6 f7 f8 f9) (ho : d.R e W base ok v xs) (ht : ∀ q, q ∈ e :: d.E → q ≠ 27) : d.R e W base (fun k => ok k ∧ k ≠ g) v xs := by
 obtain ⟨hb, hg⟩ := h
 exact Kd.R_types ho hb ht
theorem IsS27.own_ne {w0 W : World} {g : Nat} {f0 : Int} {f1 : ByteArray} {f2 : ByteArray} {f3 : Int} {f4 : ByteArray} {f5 : Int} {f6 : Bool} {f7 : Int} {f8 : Int} {f9 : Int} {α : Type} {d : Kd α} {e : Nat} {base : Nat} {ok : Nat → Prop} {v : Value} {xs : List α} (h : IsS27 w0 W g f0 f1 f2 f3 f4 f5 f6 f7 f8 f9) (ho : d.R e W base ok v xs) (ht : e ≠ 27) : some g ≠ v.ownBlock := by
 obtain ⟨hb, hg⟩ := h
 exact Kd.R_ne ho hb ht
theorem IsS27.lt {w0 W : World} {g : Nat} {f0 : Int} {f1 : ByteArray} {f2 : ByteArray} {f3 : Int} {f4 : ByteArray} {f5 : Int} {f6 : Bool} {f7 : Int} {f8 : Int} {f9 : Int} (h : IsS27 w0 W g f0 f1 f2 f3 f4 f5 f6 f7 f8 f9) : g < W.heap.size := by
 obtain ⟨hb, hg⟩ := h
 exact blk_lt hb
theorem IsS27.ge {w0 W : World} {g : Nat} {f0 : Int} {f1 : ByteArray} {f2 : ByteArray} {f3 : Int} {f4 : ByteArray} {f5 : Int} {f6 : Bool} {f7 : Int} {f8 : Int} {f9 : Int} (h : IsS27 w0 W g f0 f1 f2 f3 f4 f5 f6 f7 f8 f9) : w0.heap.size ≤ g := by
 obtain ⟨hb, hg⟩ := h
 exact hg
theorem IsS27.far {w0 W : World} {g : Nat} {f0 : Int} {f1 : ByteArray} {f2 : ByteArray} {f3 : Int} {f4 : ByteArray} {f5 : Int} {f6 : Bool} {f7 : Int} {f8 : Int} {f9 : Int} {p : Addr} (h : IsS27 w0 W g f0 f1 f2 f3 f4 f5 f6 f7 f8 f9) (hne : g ≠ p.block) (u : Value) : IsS27 w0 (W.setCell p u) g f0 f1 f2 f3 f4 f5 f6 f7 f8 f9 := by
 obtain ⟨hb, hg⟩ := h
 exact ⟨blk_far hb hne u, hg⟩
theorem cellS27_0 {W : World} {g : Nat} {f0 : Int} {f1 : ByteArray} {f2 : ByteArray} {f3 : Int} {f4 : ByteArray} {f5 : Int} {f6 : Bool} {f7 : Int} {f8 : Int} {f9 : Int} (h : W.heap[g]? = some (.cells #[.int .i64 f0, .string f1, .string f2, .int .i64 f3, .string f4, .int .i64 f5, .bool f6, .int .i64 f7, .int .i64 f8, .int .i64 f9] 27 (0, 0))) : W.cell? ⟨g, 0, none⟩ = some (.int .i64 f0) := (blk_cell h 0).trans rfl
theorem IsS27.set_0 {w0 W : World} {g : Nat} {f0 : Int} {f1 : ByteArray} {f2 : ByteArray} {f3 : Int} {f4 : ByteArray} {f5 : Int} {f6 : Bool} {f7 : Int} {f8 : Int} {f9 : Int} (h : IsS27 w0 W g f0 f1 f2 f3 f4 f5 f6 f7 f8 f9) (x : Int) : IsS27 w0 (W.setCell ⟨g, 0, none⟩ (.int .i64 x)) g x f1 f2 f3 f4 f5 f6 f7 f8 f9 := by
 obtain ⟨hb, hg⟩ := h
 exact ⟨by simpa using blk_set hb 0 (.int .i64 x), hg⟩
theorem cellS27_1 {W : World} {g : Nat} {f0 : Int} {f1 : ByteArray} {f2 : ByteArray} {f3 : Int} {f4 : ByteArray} {f5 : Int} {f6 : Bool} {f7 : Int} {f8 : Int} {f9 : Int} (h : W.heap[g]? = some (.cells #[.int .i64 f0, .string f1, .string f2, .int .i64 f3, .string f4, .int .i64 f5, .bool f6, .int .i64 f7, .int .i64 f8, .int .i64 f9] 27 (0, 0))) : W.cell? ⟨g, 1, none⟩ = some (.string f1) := (blk_cell h 1).trans rfl
theorem IsS27.set_1 {w0 W : World} {g : Nat} {f0 : Int} {f1 : ByteArray} {f2 : ByteArray} {f3 : Int} {f4 : ByteArray} {f5 : Int} {f6 : Bool} {f7 : Int} {f8 : Int} {f9 : Int} (h : IsS27 w0 W g f0 f1 f2 f3 f4 f5 f6 f7 f8 f9) (x : ByteArray) : IsS27 w0 (W.setCell ⟨g, 1, none⟩ (.string x)) g f0 x f2 f3 f4 f5 f6 f7 f8 f9 := by
 obtain ⟨hb, hg⟩ := h
 exact ⟨by simpa using blk_set hb 1 (.string x), hg⟩
theorem cellS27_2 {W : World} {g : Nat} {f0 : Int} {f1 : ByteArray} {f2 : ByteArray} {f3 : Int} {f4 : ByteArray} {f5 : Int} {f6 : Bool} {f7 : Int} {f8 : Int} {f9 : Int} (h : W.heap[g]? = some (.cells #[.int .i64 f0, .string f1, .string f2, .int .i64 f3, .string f4, .int .i64 f5, .bool f6, .int .i64 f7, .int .i64 f8, .int .i64 f9] 27 (0, 0))) : W.cell? ⟨g, 2, none⟩ = some (.string f2) := (blk_cell h 2).trans rfl
theorem IsS27.set_2 {w0 W : World} {g : Nat} {f0 : Int} {f1 : ByteArray} {f2 : ByteArray} {f3 : Int} {f4 : ByteArray} {f5 : Int} {f6 : Bool} {f7 : Int} {f8 : Int} {f9 : Int} (h : IsS27 w0 W g f0 f1 f2 f3 f4 f5 f6 f7 f8 f9) (x : ByteArray) : IsS27 w0 (W.setCell ⟨g, 2, none⟩ (.string x)) g f0 f1 x f3 f4 f5 f6 f7 f8 f9 := by
 obtain ⟨hb, hg⟩ := h
 exact ⟨by simpa using blk_set hb 2 (.string x), hg⟩
theorem cellS27_3 {W : World} {g : Nat} {f0 : Int} {f1 : ByteArray} {f2 : ByteArray} {f3 : Int} {f4 : ByteArray} {f5 : Int} {f6 : Bool} {f7 : Int} {f8 : Int} {f9 : Int} (h : W.heap[g]? = some (.cells #[.int .i64 f0, .string f1, .string f2, .int .i64 f3, .string f4, .int .i64 f5, .bool f6, .int .i64 f7, .int .i64 f8, .int .i64 f9] 27 (0, 0))) : W.cell? ⟨g, 3, none⟩ = some (.int .i64 f3) := (blk_cell h 3).trans rfl
theorem IsS27.set_3 {w0 W : World} {g : Nat} {f0 : Int} {f1 : ByteArray} {f2 : ByteArray} {f3 : Int} {f4 : ByteArray} {f5 : Int} {f6 : Bool} {f7 : Int} {f8 : Int} {f9 : Int} (h : IsS27 w0 W g f0 f1 f2 f3 f4 f5 f6 f7 f8 f9) (x : Int) : IsS27 w0 (W.setCell ⟨g, 3, none⟩ (.int .i64 x)) g f0 f1 f2 x f4 f5 f6 f7 f8 f9 := by
 obtain ⟨hb, hg⟩ := h
 exact ⟨by simpa using blk_set hb 3 (.int .i64 x), hg⟩
theorem cellS27_4 {W : World} {g : Nat} {f0 : Int} {f1 : ByteArray} {f2 : ByteArray} {f3 : Int} {f4 : ByteArray} {f5 : Int} {f6 : Bool} {f7 : Int} {f8 : Int} {f9 : Int} (h : W.heap[g]? = some (.cells #[.int .i64 f0, .string f1, .string f2, .int .i64 f3, .string f4, .int .i64 f5, .bool f6, .int .i64 f7, .int .i64 f8, .int .i64 f9] 27 (0, 0))) : W.cell? ⟨g, 4, none⟩ = some (.string f4) := (blk_cell h 4).trans rfl
theorem IsS27.set_4 {w0 W : World} {g : Nat} {f0 : Int} {f1 : ByteArray} {f2 : ByteArray} {f3 : Int} {f4 : ByteArray} {f5 : Int} {f6 : Bool} {f7 : Int} {f8 : Int} {f9 : Int} (h : IsS27 w0 W g f0 f1 f2 f3 f4 f5 f6 f7 f8 f9) (x : ByteArray) : IsS27 w0 (W.setCell ⟨g, 4, none⟩ (.string x)) g f0 f1 f2 f3 x f5 f6 f7 f8 f9 := by
 obtain ⟨hb, hg⟩ := h
 exact ⟨by simpa using blk_set hb 4 (.string x), hg⟩
theorem cellS27_5 {W : World} {g : Nat} {f0 : Int} {f1 : ByteArray} {f2 : ByteArray} {f3 : Int} {f4 : ByteArray} {f5 : Int} {f6 : Bool} {f7 : Int} {f8 : Int} {f9 : Int} (h : W.heap[g]? = some (.cells #[.int .i64 f0, .string f1, .string f2, .int .i64 f3, .string f4, .int .i64 f5, .bool f6, .int .i64 f7, .int .i64 f8, .int .i64 f9] 27 (0, 0))) : W.cell? ⟨g, 5, none⟩ = some (.int .i64 f5) := (blk_cell h 5).trans rfl
theorem IsS27.set_5 {w0 W : World} {g : Nat} {f0 : Int} {f1 : ByteArray} {f2 : ByteArray} {f3 : Int} {f4 : ByteArray} {f5 : Int} {f6 : Bool} {f7 : Int} {f8 : Int} {f9 : Int} (h : IsS27 w0 W g f0 f1 f2 f3 f4 f5 f6 f7 f8 f9) (x : Int) : IsS27 w0 (W.setCell ⟨g, 5, none⟩ (.int .i64 x)) g f0 f1 f2 f3 f4 x f6 f7 f8 f9 := by
 obtain ⟨hb, hg⟩ := h
 exact ⟨by simpa using blk_set hb 5 (.int .i64 x), hg⟩
theorem cellS27_6 {W : World} {g : Nat} {f0 : Int} {f1 : ByteArray} {f2 : ByteArray} {f3 : Int} {f4 : ByteArray} {f5 : Int} {f6 : Bool} {f7 : Int} {f8 : Int} {f9 : Int} (h : W.heap[g]? = some (.cells #[.int .i64 f0, .string f1, .string f2, .int .i64 f3, .string f4, .int .i64 f5, .bool f6, .int .i64 f7, .int .i64 f8, .int .i64 f9] 27 (0, 0))) : W.cell? ⟨g, 6, none⟩ = some (.bool f6) := (blk_cell h 6).trans rfl
theorem IsS27.set_6 {w0 W : World} {g : Nat} {f0 : Int} {f1 : ByteArray} {f2 : ByteArray} {f3 : Int} {f4 : ByteArray} {f5 : Int} {f6 : Bool} {f7 : Int} {f8 : Int} {f9 : Int} (h : IsS27 w0 W g f0 f1 f2 f3 f4 f5 f6 f7 f8 f9) (x : Bool) : IsS27 w0 (W.setCell ⟨g, 6, none⟩ (.bool x)) g f0 f1 f2 f3 f4 f5 x f7 f8 f9 := by
 obtain ⟨hb, hg⟩ := h
 exact ⟨by simpa using blk_set hb 6 (.bool x), hg⟩
theorem cellS27_7 {W : World} {g : Nat} {f0 : Int} {f1 : ByteArray} {f2 : ByteArray} {f3 : Int} {f4 : ByteArray} {f5 : Int} {f6 : Bool} {f7 : Int} {f8 : Int} {f9 : Int} (h : W.heap[g]? = some (.cells #[.int .i64 f0, .string f1, .string f2, .int .i64 f3, .string f4, .int .i64 f5, .bool f6, .int .i64 f7, .int .i64 f8, .int .i64 f9] 27 (0, 0))) : W.cell? ⟨g, 7, none⟩ = some (.int .i64 f7) := (blk_cell h 7).trans rfl
theorem IsS27.set_7 {w0 W : World} {g : Nat} {f0 : Int} {f1 : ByteArray} {f2 : ByteArray} {f3 : Int} {f4 : ByteArray} {f5 : Int} {f6 : Bool} {f7 : Int} {f8 : Int} {f9 : Int} (h : IsS27 w0 W g f0 f1 f2 f3 f4 f5 f6 f7 f8 f9) (x : Int) : IsS27 w0 (W.setCell ⟨g, 7, none⟩ (.int .i64 x)) g f0 f1 f2 f3 f4 f5 f6 x f8 f9 := by
 obtain ⟨hb, hg⟩ := h
 exact ⟨by simpa using blk_set hb 7 (.int .i64 x), hg⟩
theorem cellS27_8 {W : World} {g : Nat} {f0 : Int} {f1 : ByteArray} {f2 : ByteArray} {f3 : Int} {f4 : ByteArray} {f5 : Int} {f6 : Bool} {f7 : Int} {f8 : Int} {f9 : Int} (h : W.heap[g]? = some (.cells #[.int .i64 f0, .string f1, .string f2, .int .i64 f3, .string f4, .int .i64 f5, .bool f6, .int .i64 f7, .int .i64 f8, .int .i64 f9] 27 (0, 0))) : W.cell? ⟨g, 8, none⟩ = some (.int .i64 f8) := (blk_cell h 8).trans rfl
theorem IsS27.set_8 {w0 W : World} {g : Nat} {f0 : Int} {f1 : ByteArray} {f2 : ByteArray} {f3 : Int} {f4 : ByteArray} {f5 : Int} {f6 : Bool} {f7 : Int} {f8 : Int} {f9 : Int} (h : IsS27 w0 W g f0 f1 f2 f3 f4 f5 f6 f7 f8 f9) (x : Int) : IsS27 w0 (W.setCell ⟨g, 8, none⟩ (.int .i64 x)) g f0 f1 f2 f3 f4 f5 f6 f7 x f9 := by
 obtain ⟨hb, hg⟩ := h
 exact ⟨by simpa using blk_set hb 8 (.int .i64 x), hg⟩
theorem cellS27_9 {W : World} {g : Nat} {f0 : Int} {f1 : ByteArray} {f2 : ByteArray} {f3 : Int} {f4 : ByteArray} {f5 : Int} {f6 : Bool} {f7 : Int} {f8 : Int} {f9 : Int} (h : W.heap[g]? = some (.cells #[.int .i64 f0, .string f1, .string f2, .int .i64 f3, .string f4, .int .i64 f5, .bool f6, .int .i64 f7, .int .i64 f8, .int .i64 f9] 27 (0, 0))) : W.cell? ⟨g, 9, none⟩ = some (.int .i64 f9) := (blk_cell h 9).trans rfl
theorem IsS27.set_9 {w0 W : World} {g : Nat} {f0 : Int} {f1 : ByteArray} {f2 : ByteArray} {f3 : Int} {f4 : ByteArray} {f5 : Int} {f6 : Bool} {f7 : Int} {f8 : Int} {f9 : Int} (h : IsS27 w0 W g f0 f1 f2 f3 f4 f5 f6 f7 f8 f9) (x : Int) : IsS27 w0 (W.setCell ⟨g, 9, none⟩ (.int .i64 x)) g f0 f1 f2 f3 f4 f5 f6 f7 f8 x := by
 obtain ⟨hb, hg⟩ := h
 exact ⟨by simpa using blk_set hb 9 (.int .i64 x), hg⟩
def order_Order_toxic.l0 : Nat → List ByteArray → List ByteArray → Int → Int → Int → ByteArray → ByteArray → Int → ByteArray → Int → Bool → Int → Int → Int → Option (Int × Int × ByteArray × ByteArray × Int × ByteArray × Int × Bool × Int × Int × Int)
 | 0, _, _, _, _, _, _, _, _, _, _, _, _, _, _ => none
 | k + 1, x1, x9, x10, x11, x1000, x1001, x1002, x1003, x1004, x1005, x1006, x1007, x1008, x1009 => if x11 < x10 then (if 0 ≤ x11 then (if x11 < (x9.length : Int) then (if (rdOf ByteArray.empty x9 x11).toList = ([] : List UInt8) then (some (90, x1000, x1001, x1002, x1003, x1004, x1005, x1006, x1007, x1008, x1009)) else ((strings_ContainsAny.f (rdOf ByteArray.empty x9 x11) (⟨#[32, 9]⟩ : ByteArray)).bind fun t102 => (if t102 = true then (some (90, x1000, x1001, x1002, x1003, x1004, x1005, x1006, x1007, x1008, x1009)) else (order_Order_toxic.l0 k x1 x9 x10 (wrap64 (x11 + 1)) x1000 x1001 x1002 x1003 x1004 x1005 x1006 x1007 x1008 x1009)))) else (none)) else (none)) else ((strings_Join.f x1 (⟨#[32]⟩ : ByteArray)).bind fun t103 => ((toxic_Parse.f t103).bind fun bt104 => (some (bt104.2.2.2.2.2.2, x1000, x1001, x1002, x1003, bt104.1, bt104.2.1, bt104.2.2.1, bt104.2.2.2.1, bt104.2.2.2.2.1, bt104.2.2.2.2.2.1))))
def order_Order_toxic.f (k : Nat) (s0_0 : Int) (s0_1 : ByteArray) (s0_2 : ByteArray) (s0_3 : Int) (s0_4 : ByteArray) (s0_5 : Int) (s0_6 : Bool) (s0_7 : Int) (s0_8 : Int) (s0_9 : Int) (l1 : List ByteArray) : Option (Int × Int × ByteArray × ByteArray × Int × ByteArray × Int × Bool × Int × Int × Int) := order_Order_toxic.l0 k l1 l1 (l1.length : Int) 0 s0_0 s0_1 s0_2 s0_3 s0_4 s0_5 s0_6 s0_7 s0_8 s0_9
theorem order_Order_toxic.mono_l : ∀ k, (∀ y0 y1 y2 y3 y4 y5 y6 y7 y8 y9 y10 y11 y12 y13, LeO (order_Order_toxic.l0 k y0 y1 y2 y3 y4 y5 y6 y7 y8 y9 y10 y11 y12 y13) (order_Order_toxic.l0 (k + 1) y0 y1 y2 y3 y4 y5 y6 y7 y8 y9 y10 y11 y12 y13))
 | 0 => fun _ _ _ _ _ _ _ _ _ _ _ _ _ _ r h => by simp [order_Order_toxic.l0] at h
 | k + 1 => by
  have ih0 := order_Order_toxic.mono_l k
  ·intro y0 y1 y2 y3 y4 y5 y6 y7 y8 y9 y10 y11 y12 y13
   unfold order_Order_toxic.l0
   repeat' first
   | (with_reducible exact ih0 _ _ _ _ _ _ _ _ _ _ _ _ _ _)
   | (with_reducible exact LeO.refl _)
   | (with_reducible exact LeO.none _)
   | (with_reducible refine LeO.ite ?_ ?_)
   | (with_reducible refine LeO.bind ?_ (fun _ => ?_))
   | exact ih0 _ _ _ _ _ _ _ _ _ _ _ _ _ _
   | exact LeO.none _
   | refine LeO.ite ?_ ?_
   | refine LeO.bind ?_ (fun _ => ?_)
theorem order_Order_toxic.mono : ∀ a0 a1 a2 a3 a4 a5 a6 a7 a8 a9 a10 k, LeO (order_Order_toxic.f k a0 a1 a2 a3 a4 a5 a6 a7 a8 a9 a10) (order_Order_toxic.f (k + 1) a0 a1 a2 a3 a4 a5 a6 a7 a8 a9 a10) := by
 intro a0 a1 a2 a3 a4 a5 a6 a7 a8 a9 a10 k
 have ih0 := order_Order_toxic.mono_l k
 unfold order_Order_toxic.f
 repeat' first
   | (with_reducible exact ih0 _ _ _ _ _ _ _ _ _ _ _ _ _ _)
   | (with_reducible exact LeO.refl _)
   | (with_reducible exact LeO.none _)
   | (with_reducible refine LeO.ite ?_ ?_)
   | (with_reducible refine LeO.bind ?_ (fun _ => ?_))
   | exact ih0 _ _ _ _ _ _ _ _ _ _ _ _ _ _
   | exact LeO.none _
   | refine LeO.ite ?_ ?_
   | refine LeO.bind ?_ (fun _ => ?_)
set_option maxHeartbeats 8000000 in
set_option maxRecDepth 100000 in
theorem order_Order_toxic.calls (k : Nat) (g : Nat) (s0_0 : Int) (s0_1 : ByteArray) (s0_2 : ByteArray) (s0_3 : Int) (s0_4 : ByteArray) (s0_5 : Int) (s0_6 : Bool) (s0_7 : Int) (s0_8 : Int) (s0_9 : Int) (A1 : Option Addr) (c1 : Nat) (l1 : List ByteArray) (r1 : Int) (r2 : Int) (r3 : ByteArray) (r4 : ByteArray) (r5 : Int) (r6 : ByteArray) (r7 : Int) (r8 : Bool) (r9 : Int) (r10 : Int) (r11 : Int) (w0 w : World) (hI : IsS27 w0 w g s0_0 s0_1 s0_2 s0_3 s0_4 s0_5 s0_6 s0_7 s0_8 s0_9) (hB : Below w0.heap.size w0 w) (hr1 : Kd.C Kd.string w A1 l1.length l1) (hc1 : l1.length ≤ c1) (hf1 : ∀ ad, A1 = some ad → 0 < l1.length → ad.block ≠ g) (h : order_Order_toxic.f k s0_0 s0_1 s0_2 s0_3 s0_4 s0_5 s0_6 s0_7 s0_8 s0_9 l1 = some (r1, r2, r3, r4, r5, r6, r7, r8, r9, r10, r11)) :
  Calls Tryz.prog 29 #[.pointer (some ⟨g, 0, none⟩), .slice A1 l1.length c1] w fun e w' => e = .returned (.int .i64 r1) ∧ IsS27 w0 w' g r2 r3 r4 r5 r6 r7 r8 r9 r10 r11 ∧ Below w0.heap.size w0 w' ∧ KeepBut w w' g none := by
 have hu25 := Tryz.underlying25
 have HR1 := Aside0.mk hr1
 have HC1 := Aside0.mk hc1
 clear hr1 hc1
 have HI0 := Aside0.mk hI
 have HK := Aside0.mk (KeepBut.refl w g none)
 have HL := Aside0.mk hB.size
 clear hI
 have HW0 := Aside0.mk hB.size
 have HB := Aside0.mk hB
 clear hB
 have H : (order_Order_toxic.l0 k l1 l1 (l1.length : Int) 0 s0_0 s0_1 s0_2 s0_3 s0_4 s0_5 s0_6 s0_7 s0_8 s0_9) = some (r1, r2, r3, r4, r5, r6, r7, r8, r9, r10, r11) := h
 clear h
 have H' := Aside0.mk H
 clear H
 go_enter Tryz.func29, Tryz.ntmps29
 go_wp2
 go_loopg [11] k (fun kq v11 w' => ∃ (x11_1 : Int), v11 = .int .i64 x11_1 ∧ Aside0 (order_Order_toxic.l0 kq l1 l1 (l1.length : Int) x11_1 s0_0 s0_1 s0_2 s0_3 s0_4 s0_5 s0_6 s0_7 s0_8 s0_9 = some (r1, r2, r3, r4, r5, r6, r7, r8, r9, r10, r11)) ∧ Aside0 (kq ≤ k) ∧ Aside0 (IsS27 w0 w' g s0_0 s0_1 s0_2 s0_3 s0_4 s0_5 s0_6 s0_7 s0_8 s0_9) ∧ Aside0 (KeepBut w w' g none) ∧ Aside0 (Below w0.heap.size w0 w'))
 case atStart => exact ⟨(0), (by first | rfl | (simp; done) | (simp [*]; done)), H', ⟨Nat.le_refl _⟩, ⟨by repeat (first | (with_reducible first | exact HI0.out | apply IsS27.alloc | apply IsS27.drewN | apply IsS27.drew | apply IsS27.set_0 | apply IsS27.set_1 | apply IsS27.set_2 | apply IsS27.set_3 | apply IsS27.set_4 | apply IsS27.set_5 | apply IsS27.set_6 | apply IsS27.set_7 | apply IsS27.set_8 | apply IsS27.set_9) | exact HI0.out)⟩, ⟨by repeat (first | (with_reducible first | exact HK.out | apply KeepBut.set_ | apply keep_drewN | apply keep_drew | apply keep_alloc) | exact HK.out)⟩, ⟨by repeat (first | (with_reducible first | exact HB.out | apply below_alloc | apply pw_below_drewN | apply below_drew1 | refine below_set ?_ (IsS27.ge HI0.out)) | exact HB.out)⟩⟩
 case round =>
  clear H'
  try clear c1
  try clear c2
  try clear p2
  obtain ⟨x11_1, rfl, HA, HK1, HI0, HK, HB⟩ := hrel
  cases gk with
  | zero => exact absurd HA.out (by simp [order_Order_toxic.l0])
  | succ k1 =>
   have H := HA.out
   clear HA
   simp only [order_Order_toxic.l0] at H
   by_cases c3 : x11_1 < (l1.length : Int)
   ·rw [if_pos c3] at H
    have c3b0 : decide (x11_1 < (l1.length : Int)) = true := decide_eq_true c3
    clear c3
    by_cases c4 : 0 ≤ x11_1
    ·rw [if_pos c4] at H
     have c4b0 : decide (0 ≤ x11_1) = true := decide_eq_true c4
     clear c4
     by_cases c5 : x11_1 < (l1.length : Int)
     ·rw [if_pos c5] at H
      have c5b0 : decide (x11_1 < (l1.length : Int)) = true := decide_eq_true c5
      clear c5
      by_cases c6 : (rdOf ByteArray.empty l1 x11_1).toList = ([] : List UInt8)
      ·rw [if_pos c6] at H
       have c6b0 : ((rdOf ByteArray.empty l1 x11_1).toList == ([] : List UInt8)) = true := beq_iff_eq.mpr c6
       have c6b1 : ((rdOf ByteArray.empty l1 x11_1).toList != ([] : List UInt8)) = false := bne_eq_false_iff_eq.mpr c6
       clear c6
       simp only [Option.some.injEq, Prod.mk.injEq] at H
       obtain ⟨rfl, rfl, rfl, rfl, rfl, rfl, rfl, rfl, rfl, rfl, rfl⟩ := H
       have p101 : 0 ≤ (x11_1 : Int) := of_decide_eq_true (by first | (with_reducible assumption) | assumption)
       have q101 : x11_1 < (l1.length : Int) := of_decide_eq_true (by first | (with_reducible assumption) | assumption)
       obtain ⟨ad101, e101, hx101_0⟩ := Kd.at_string HR1.out x11_1 p101 q101
       cases e101
       replace hx101_0 := keep_cell HK.out hx101_0 (by first | (rw [add_block]; exact hf1 _ rfl (by omega)) | exact hf1 _ rfl (by omega) | exact hf1 ad101 rfl (by omega))
       replace p101 := eq_true p101
       replace q101 := eq_true q101
       go_wp2
       go_ret
       exact ⟨by first | rfl | (simp [errW_none, errW_some] <;> rfl) | (simp [*, errW_none, errW_some] <;> rfl), by repeat (first | (with_reducible first | exact HI0.out | apply IsS27.alloc | apply IsS27.drewN | apply IsS27.drew | apply IsS27.set_0 | apply IsS27.set_1 | apply IsS27.set_2 | apply IsS27.set_3 | apply IsS27.set_4 | apply IsS27.set_5 | apply IsS27.set_6 | apply IsS27.set_7 | apply IsS27.set_8 | apply IsS27.set_9) | exact HI0.out), by repeat (first | (with_reducible first | exact HB.out | apply below_alloc | apply pw_below_drewN | apply below_drew1 | refine below_set ?_ (IsS27.ge HI0.out)) | exact HB.out), by repeat (first | (with_reducible first | exact HK.out | apply KeepBut.set_ | apply keep_drewN | apply keep_drew | apply keep_alloc) | exact HK.out)⟩
      ·rw [if_neg c6] at H
       have c6b0 : ((rdOf ByteArray.empty l1 x11_1).toList == ([] : List UInt8)) = false := beq_eq_false_iff_ne.mpr c6
       have c6b1 : ((rdOf ByteArray.empty l1 x11_1).toList != ([] : List UInt8)) = true := bne_iff_ne.mpr c6
       replace H := Option.bind_eq_some_iff.mp H
       obtain ⟨t102, A70, H⟩ := H
       replace H : (if t102 = true then (some (90, s0_0, s0_1, s0_2, s0_3, s0_4, s0_5, s0_6, s0_7, s0_8, s0_9)) else (order_Order_toxic.l0 k1 l1 l1 (l1.length : Int) (wrap64 (x11_1 + 1)) s0_0 s0_1 s0_2 s0_3 s0_4 s0_5 s0_6 s0_7 s0_8 s0_9)) = some (r1, r2, r3, r4, r5, r6, r7, r8, r9, r10, r11) := H
       have A7 := Aside0.mk A70
       clear A70
       by_cases c8 : t102 = true
       ·subst c8
        have H1 : (some (90, s0_0, s0_1, s0_2, s0_3, s0_4, s0_5, s0_6, s0_7, s0_8, s0_9)) = some (r1, r2, r3, r4, r5, r6, r7, r8, r9, r10, r11) := by rw [if_pos rfl] at H; exact H
        clear H
        have H := H1
        clear H1
        simp only [Option.some.injEq, Prod.mk.injEq] at H
        obtain ⟨rfl, rfl, rfl, rfl, rfl, rfl, rfl, rfl, rfl, rfl, rfl⟩ := H
        have p101 : 0 ≤ (x11_1 : Int) := of_decide_eq_true (by first | (with_reducible assumption) | assumption)
        have q101 : x11_1 < (l1.length : Int) := of_decide_eq_true (by first | (with_reducible assumption) | assumption)
        obtain ⟨ad101, e101, hx101_0⟩ := Kd.at_string HR1.out x11_1 p101 q101
        cases e101
        replace hx101_0 := keep_cell HK.out hx101_0 (by first | (rw [add_block]; exact hf1 _ rfl (by omega)) | exact hf1 _ rfl (by omega) | exact hf1 ad101 rfl (by omega))
        replace p101 := eq_true p101
        replace q101 := eq_true q101
        go_wp2_with (first | (go_at_call 50; (with_reducible refine (strings_ContainsAny.calls (rdOf ByteArray.empty l1 x11_1) (⟨#[32, 9]⟩ : ByteArray) true _ A7.out).mono ?_); rintro e w9 ⟨rfl, hb⟩; have n0_ := Aside0.mk (IsS27.below (by repeat (first | (with_reducible first | exact HI0.out | apply IsS27.alloc | apply IsS27.drewN | apply IsS27.drew | apply IsS27.set_0 | apply IsS27.set_1 | apply IsS27.set_2 | apply IsS27.set_3 | apply IsS27.set_4 | apply IsS27.set_5 | apply IsS27.set_6 | apply IsS27.set_7 | apply IsS27.set_8 | apply IsS27.set_9) | exact HI0.out)) hb); have n1_ := Aside0.mk (KeepBut.trans (by repeat (first | (with_reducible first | exact HK.out | apply KeepBut.set_ | apply keep_drewN | apply keep_drew | apply keep_alloc) | exact HK.out)) (KeepBut.of_below hb g none) (.inl rfl)); have n2_ := Aside0.mk (below_step (by repeat (first | (with_reducible first | exact HB.out | apply below_alloc | apply pw_below_drewN | apply below_drew1 | refine below_set ?_ (IsS27.ge HI0.out)) | exact HB.out)) hb); clear HI0; clear HK; clear HB; have HI0 := n0_; have HK := n1_; have HB := n2_; clear n0_ n1_ n2_; (try clear hb); (try clear hb2); (try clear hk); (try clear hi)))
        go_ret
        exact ⟨by first | rfl | (simp [errW_none, errW_some] <;> rfl) | (simp [*, errW_none, errW_some] <;> rfl), by repeat (first | (with_reducible first | exact HI0.out | apply IsS27.alloc | apply IsS27.drewN | apply IsS27.drew | apply IsS27.set_0 | apply IsS27.set_1 | apply IsS27.set_2 | apply IsS27.set_3 | apply IsS27.set_4 | apply IsS27.set_5 | apply IsS27.set_6 | apply IsS27.set_7 | apply IsS27.set_8 | apply IsS27.set_9) | exact HI0.out), by repeat (first | (with_reducible first | exact HB.out | apply below_alloc | apply pw_below_drewN | apply below_drew1 | refine below_set ?_ (IsS27.ge HI0.out)) | exact HB.out), by repeat (first | (with_reducible first | exact HK.out | apply KeepBut.set_ | apply keep_drewN | apply keep_drew | apply keep_alloc) | exact HK.out)⟩
       ·replace c8 := Bool.eq_false_iff.mpr c8
        subst c8
        have H1 : (order_Order_toxic.l0 k1 l1 l1 (l1.length : Int) (wrap64 (x11_1 + 1)) s0_0 s0_1 s0_2 s0_3 s0_4 s0_5 s0_6 s0_7 s0_8 s0_9) = some (r1, r2, r3, r4, r5, r6, r7, r8, r9, r10, r11) := by rw [if_neg (show ¬ (false = true) by decide)] at H; exact H
        clear H
        have H := H1
        clear H1
        have H' := Aside0.mk H
        clear H
        have p101 : 0 ≤ (x11_1 : Int) := of_decide_eq_true (by first | (with_reducible assumption) | assumption)
        have q101 : x11_1 < (l1.length : Int) := of_decide_eq_true (by first | (with_reducible assumption) | assumption)
        obtain ⟨ad101, e101, hx101_0⟩ := Kd.at_string HR1.out x11_1 p101 q101
        cases e101
        replace hx101_0 := keep_cell HK.out hx101_0 (by first | (rw [add_block]; exact hf1 _ rfl (by omega)) | exact hf1 _ rfl (by omega) | exact hf1 ad101 rfl (by omega))
        replace p101 := eq_true p101
        replace q101 := eq_true q101
        go_wp2_with (first | (go_at_call 50; (with_reducible refine (strings_ContainsAny.calls (rdOf ByteArray.empty l1 x11_1) (⟨#[32, 9]⟩ : ByteArray) false _ A7.out).mono ?_); rintro e w10 ⟨rfl, hb⟩; have n0_ := Aside0.mk (IsS27.below (by repeat (first | (with_reducible first | exact HI0.out | apply IsS27.alloc | apply IsS27.drewN | apply IsS27.drew | apply IsS27.set_0 | apply IsS27.set_1 | apply IsS27.set_2 | apply IsS27.set_3 | apply IsS27.set_4 | apply IsS27.set_5 | apply IsS27.set_6 | apply IsS27.set_7 | apply IsS27.set_8 | apply IsS27.set_9) | exact HI0.out)) hb); have n1_ := Aside0.mk (KeepBut.trans (by repeat (first | (with_reducible first | exact HK.out | apply KeepBut.set_ | apply keep_drewN | apply keep_drew | apply keep_alloc) | exact HK.out)) (KeepBut.of_below hb g none) (.inl rfl)); have n2_ := Aside0.mk (below_step (by repeat (first | (with_reducible first | exact HB.out | apply below_alloc | apply pw_below_drewN | apply below_drew1 | refine below_set ?_ (IsS27.ge HI0.out)) | exact HB.out)) hb); clear HI0; clear HK; clear HB; have HI0 := n0_; have HK := n1_; have HB := n2_; clear n0_ n1_ n2_; (try clear hb); (try clear hb2); (try clear hk); (try clear hi)))
        go_roundg k1
        case measure => have := HK1.out; omega
        case rel => exact ⟨(wrap64 (x11_1 + 1)), (by first | rfl | (simp; done) | (simp [*]; done)), H', ⟨by have := HK1.out; omega⟩, ⟨by repeat (first | (with_reducible first | exact HI0.out | apply IsS27.alloc | apply IsS27.drewN | apply IsS27.drew | apply IsS27.set_0 | apply IsS27.set_1 | apply IsS27.set_2 | apply IsS27.set_3 | apply IsS27.set_4 | apply IsS27.set_5 | apply IsS27.set_6 | apply IsS27.set_7 | apply IsS27.set_8 | apply IsS27.set_9) | exact HI0.out)⟩, ⟨by repeat (first | (with_reducible first | exact HK.out | apply KeepBut.set_ | apply keep_drewN | apply keep_drew | apply keep_alloc) | exact HK.out)⟩, ⟨by repeat (first | (with_reducible first | exact HB.out | apply below_alloc | apply pw_below_drewN | apply below_drew1 | refine below_set ?_ (IsS27.ge HI0.out)) | exact HB.out)⟩⟩
     ·rw [if_neg c5] at H
      exact absurd H (by simp)
    ·rw [if_neg c4] at H
     exact absurd H (by simp)
   ·rw [if_neg c3] at H
    have c3b0 : decide (x11_1 < (l1.length : Int)) = false := decide_eq_false c3
    clear c3
    replace H := Option.bind_eq_some_iff.mp H
    obtain ⟨t103, A110, H⟩ := H
    replace H : ((toxic_Parse.f t103).bind fun bt104 => (some (bt104.2.2.2.2.2.2, s0_0, s0_1, s0_2, s0_3, bt104.1, bt104.2.1, bt104.2.2.1, bt104.2.2.2.1, bt104.2.2.2.2.1, bt104.2.2.2.2.2.1))) = some (r1, r2, r3, r4, r5, r6, r7, r8, r9, r10, r11) := H
    have A11 := Aside0.mk A110
    clear A110
    replace H := Option.bind_eq_some_iff.mp H
    obtain ⟨⟨t104, t105, t106, t107, t108, t109, t110⟩, A120, H⟩ := H
    replace H : (some (t110, s0_0, s0_1, s0_2, s0_3, t104, t105, t106, t107, t108, t109)) = some (r1, r2, r3, r4, r5, r6, r7, r8, r9, r10, r11) := H
    have A12 := Aside0.mk A120
    clear A120
    simp only [Option.some.injEq, Prod.mk.injEq] at H
    obtain ⟨rfl, rfl, rfl, rfl, rfl, rfl, rfl, rfl, rfl, rfl, rfl⟩ := H
    go_wp2_with (first | ((with_reducible refine gate_callee (f := 52) rfl ?_); refine goesL_ (some 24) rfl rfl Tryz.func52 (by kernel_rfl) rfl #[.slice A1 l1.length c1, .string (⟨#[32]⟩ : ByteArray)] rfl (by (try simp only [List.map_toArray, List.map_cons, List.map_nil]); first | done | rfl | (simp only [List.length_drop, List.length_take]; rfl)) ?_; (with_reducible refine (strings_Join.calls _ _ l1 (⟨#[32]⟩ : ByteArray) t103 _ ?side1 ?side2 A11.out).mono ?_); (case side1 => exact Kd.C_keep (⟨#[]⟩ : ByteArray) HR1.out (by repeat (first | (with_reducible first | exact HK.out | apply KeepBut.set_ | apply keep_drewN | apply keep_drew | apply keep_alloc) | exact HK.out)) hf1); (case side2 => exact HC1.out); rintro e w13 ⟨rfl, hb⟩; refine ⟨_, rfl, ?_⟩; have n0_ := Aside0.mk (IsS27.below (by repeat (first | (with_reducible first | exact HI0.out | apply IsS27.alloc | apply IsS27.drewN | apply IsS27.drew | apply IsS27.set_0 | apply IsS27.set_1 | apply IsS27.set_2 | apply IsS27.set_3 | apply IsS27.set_4 | apply IsS27.set_5 | apply IsS27.set_6 | apply IsS27.set_7 | apply IsS27.set_8 | apply IsS27.set_9) | exact HI0.out)) hb); have n1_ := Aside0.mk (KeepBut.trans (by repeat (first | (with_reducible first | exact HK.out | apply KeepBut.set_ | apply keep_drewN | apply keep_drew | apply keep_alloc) | exact HK.out)) (KeepBut.of_below hb g none) (.inl rfl)); have n2_ := Aside0.mk (below_step (by repeat (first | (with_reducible first | exact HB.out | apply below_alloc | apply pw_below_drewN | apply below_drew1 | refine below_set ?_ (IsS27.ge HI0.out)) | exact HB.out)) hb); clear HI0; clear HK; clear HB; have HI0 := n0_; have HK := n1_; have HB := n2_; clear n0_ n1_ n2_; (try clear hb); (try clear hb2); (try clear hk); (try clear hi)) | ((with_reducible refine gate_callee (f := 51) rfl ?_); refine goesL_ (some 25) rfl rfl Tryz.func51 (by kernel_rfl) rfl #[.string t103] rfl (by (try simp only [List.map_toArray, List.map_cons, List.map_nil]); first | done | rfl | (simp only [List.length_drop, List.length_take]; rfl)) ?_; (with_reducible refine (toxic_Parse.calls t103 t104 t105 t106 t107 t108 t109 t110 _ A12.out).mono ?_); rintro e w14 ⟨rfl, hb⟩; refine ⟨_, rfl, ?_⟩; have n0_ := Aside0.mk (IsS27.below (by repeat (first | (with_reducible first | exact HI0.out | apply IsS27.alloc | apply IsS27.drewN | apply IsS27.drew | apply IsS27.set_0 | apply IsS27.set_1 | apply IsS27.set_2 | apply IsS27.set_3 | apply IsS27.set_4 | apply IsS27.set_5 | apply IsS27.set_6 | apply IsS27.set_7 | apply IsS27.set_8 | apply IsS27.set_9) | exact HI0.out)) hb); have n1_ := Aside0.mk (KeepBut.trans (by repeat (first | (with_reducible first | exact HK.out | apply KeepBut.set_ | apply keep_drewN | apply keep_drew | apply keep_alloc) | exact HK.out)) (KeepBut.of_below hb g none) (.inl rfl)); have n2_ := Aside0.mk (below_step (by repeat (first | (with_reducible first | exact HB.out | apply below_alloc | apply pw_below_drewN | apply below_drew1 | refine below_set ?_ (IsS27.ge HI0.out)) | exact HB.out)) hb); clear HI0; clear HK; clear HB; have HI0 := n0_; have HK := n1_; have HB := n2_; clear n0_ n1_ n2_; (try clear hb); (try clear hb2); (try clear hk); (try clear hi)) | ((with_reducible refine gate_dst (N := 7) rfl ?_); refine box_event ?hg (N := 7) ?hd (cs := #[.string (⟨#[]⟩ : ByteArray), .int .i64 0, .bool false, .int .i64 0, .int .i64 0, .int .i64 0]) (t := 25) ?hr ?_; (case hd => rfl); (case hg => rfl); (case hr => first | (go_simp; done) | (go_simp; rfl)); intro gb111 hg w15 hbox hb; have n0_ := Aside0.mk (IsS27.below (by repeat (first | (with_reducible first | exact HI0.out | apply IsS27.alloc | apply IsS27.drewN | apply IsS27.drew | apply IsS27.set_0 | apply IsS27.set_1 | apply IsS27.set_2 | apply IsS27.set_3 | apply IsS27.set_4 | apply IsS27.set_5 | apply IsS27.set_6 | apply IsS27.set_7 | apply IsS27.set_8 | apply IsS27.set_9) | exact HI0.out)) hb); have n1_ := Aside0.mk (KeepBut.trans (by repeat (first | (with_reducible first | exact HK.out | apply KeepBut.set_ | apply keep_drewN | apply keep_drew | apply keep_alloc) | exact HK.out)) (KeepBut.of_below hb g none) (.inl rfl)); have n2_ := Aside0.mk (below_step (by repeat (first | (with_reducible first | exact HB.out | apply below_alloc | apply pw_below_drewN | apply below_drew1 | refine below_set ?_ (IsS27.ge HI0.out)) | exact HB.out)) hb); have n3_ := Aside0.mk (hbox); have n4_ := Aside0.mk ((by rw [hg]; exact (keep_size (w := w) (g := g) (row := none) (by repeat (first | (with_reducible first | exact HK.out | apply KeepBut.set_ | apply keep_drewN | apply keep_drew | apply keep_alloc) | exact HK.out))) : w.heap.size ≤ gb111)); have n5_ := Aside0.mk ((Nat.le_trans HW0.out (by rw [hg]; exact (keep_size (w := w) (g := g) (row := none) (by repeat (first | (with_reducible first | exact HK.out | apply KeepBut.set_ | apply keep_drewN | apply keep_drew | apply keep_alloc) | exact HK.out))) : w.heap.size ≤ gb111) : w0.heap.size ≤ gb111)); have n6_ := Aside0.mk ((by rw [hg]; exact Nat.ne_of_lt (IsS27.lt (show IsS27 w0 _ g s0_0 s0_1 s0_2 s0_3 s0_4 s0_5 s0_6 s0_7 s0_8 s0_9 from by repeat (first | (with_reducible first | exact HI0.out | apply IsS27.alloc | apply IsS27.drewN | apply IsS27.drew | apply IsS27.set_0 | apply IsS27.set_1 | apply IsS27.set_2 | apply IsS27.set_3 | apply IsS27.set_4 | apply IsS27.set_5 | apply IsS27.set_6 | apply IsS27.set_7 | apply IsS27.set_8 | apply IsS27.set_9) | exact HI0.out))) : g ≠ gb111)); have n7_ := Aside0.mk ((by rw [hg]; exact Nat.ne_of_gt (IsS27.lt (show IsS27 w0 _ g s0_0 s0_1 s0_2 s0_3 s0_4 s0_5 s0_6 s0_7 s0_8 s0_9 from by repeat (first | (with_reducible first | exact HI0.out | apply IsS27.alloc | apply IsS27.drewN | apply IsS27.drew | apply IsS27.set_0 | apply IsS27.set_1 | apply IsS27.set_2 | apply IsS27.set_3 | apply IsS27.set_4 | apply IsS27.set_5 | apply IsS27.set_6 | apply IsS27.set_7 | apply IsS27.set_8 | apply IsS27.set_9) | exact HI0.out))) : gb111 ≠ g)); clear HI0; clear HK; clear HB; have HI0 := n0_; have HK := n1_; have HB := n2_; have BK111 := n3_; have GW111 := n4_; have GE111 := n5_; have NB0_111 := n6_; have NB111_0 := n7_; clear n0_ n1_ n2_ n3_ n4_ n5_ n6_ n7_; clear hb hbox hg; have hnb16 := NB111_0.out; have hnc16 := NB0_111.out; have hcz17_0 : w15.cell? ⟨gb111, 0, none⟩ = some (.string (⟨#[]⟩ : ByteArray)) := (blk_cell BK111.out 0).trans rfl; have hcz17_1 : w15.cell? ⟨gb111, 1, none⟩ = some (.int .i64 0) := (blk_cell BK111.out 1).trans rfl; have hcz17_2 : w15.cell? ⟨gb111, 2, none⟩ = some (.bool false) := (blk_cell BK111.out 2).trans rfl; have hcz17_3 : w15.cell? ⟨gb111, 3, none⟩ = some (.int .i64 0) := (blk_cell BK111.out 3).trans rfl; have hcz17_4 : w15.cell? ⟨gb111, 4, none⟩ = some (.int .i64 0) := (blk_cell BK111.out 4).trans rfl; have hcz17_5 : w15.cell? ⟨gb111, 5, none⟩ = some (.int .i64 0) := (blk_cell BK111.out 5).trans rfl; have hfz17_0 := blk_frozen BK111.out 0; have hfz17_1 := blk_frozen BK111.out 1; have hfz17_2 := blk_frozen BK111.out 2; have hfz17_3 := blk_frozen BK111.out 3; have hfz17_4 := blk_frozen BK111.out 4; have hfz17_5 := blk_frozen BK111.out 5; obtain ⟨HGz18, hgz18⟩ := HI0.out; have hcz18_0 := cellS27_0 HGz18; have hcz18_1 := cellS27_1 HGz18; have hcz18_2 := cellS27_2 HGz18; have hcz18_3 := cellS27_3 HGz18; have hcz18_4 := cellS27_4 HGz18; have hcz18_5 := cellS27_5 HGz18; have hcz18_6 := cellS27_6 HGz18; have hcz18_7 := cellS27_7 HGz18; have hcz18_8 := cellS27_8 HGz18; have hcz18_9 := cellS27_9 HGz18; have hfz18_0 := blk_frozen HGz18 0; have hfz18_1 := blk_frozen HGz18 1; have hfz18_2 := blk_frozen HGz18 2; have hfz18_3 := blk_frozen HGz18 3; have hfz18_4 := blk_frozen HGz18 4; have hfz18_5 := blk_frozen HGz18 5; have hfz18_6 := blk_frozen HGz18 6; have hfz18_7 := blk_frozen HGz18 7; have hfz18_8 := blk_frozen HGz18 8; have hfz18_9 := blk_frozen HGz18 9; clear HGz18 hgz18))
    go_ret
    exact ⟨by first | rfl | (simp [errW_none, errW_some] <;> rfl) | (simp [*, errW_none, errW_some] <;> rfl), (IsS27.set_9 (IsS27.set_8 (IsS27.set_7 (IsS27.set_6 (IsS27.set_5 (IsS27.set_4 (IsS27.far (p := ⟨gb111, 5, none⟩) (IsS27.far (p := ⟨gb111, 4, none⟩) (IsS27.far (p := ⟨gb111, 3, none⟩) (IsS27.far (p := ⟨gb111, 2, none⟩) (IsS27.far (p := ⟨gb111, 1, none⟩) (IsS27.far (p := ⟨gb111, 0, none⟩) HI0.out NB0_111.out _) NB0_111.out _) NB0_111.out _) NB0_111.out _) NB0_111.out _) NB0_111.out _) _) _) _) _) _) _), by repeat (first | (with_reducible first | exact HB.out | apply below_alloc | apply pw_below_drewN | apply below_drew1 | refine below_set ?_ (IsS27.ge HI0.out) | refine below_set ?_ GE111.out) | exact HB.out), by repeat (first | (with_reducible first | exact HK.out | apply KeepBut.set_ | apply keep_drewN | apply keep_drew | apply keep_alloc | refine keep_far ?_ GW111.out _) | exact HK.out)⟩
end Go.Proofs.YtlglbpjccpdloaaGreatDoor.POrdT
set_option linter.unusedVariables false
set_option linter.unusedSimpArgs false
namespace Go.Proofs.YtlglbpjccpdloaaGreatDoor.Ext
open Go.RowKit Go.Shelf Go.Proofs.YtlglbpjccpdloaaGreatDoorW.PrintWords Go.Proofs.YtlglbpjccpdloaaGreatDoorW.PrintLast Go.Proofs.YtlglbpjccpdloaaGreatDoor.PWrdA Go.Proofs.YtlglbpjccpdloaaGreatDoor.ToxZ Go.Proofs.YtlglbpjccpdloaaGreatDoor.Tox
theorem alloc_blk (w : World) (cs : Array Value) (t : TypeId) : (w.alloc (.cells cs t)).heap[w.heap.size]? = some (.cells cs t (0, 0)) := by
  show (w.heap.push _)[w.heap.size]? = _
  simp
set_option maxRecDepth 100000 in
theorem from_nil (A0 : Option Addr) (c0 : Nat) (w : World) :
    Calls Tryz.prog 9 #[.slice A0 0 c0] w fun e w' => e = .returned (.tuple #[.agg (ordC 0 ⟨#[]⟩ ⟨#[]⟩ 0 ⟨#[]⟩ 0 false 0 0 0), .int .i64 160]) ∧ Below w.heap.size w w' := by
  unfold ordC
  go_enter Tryz.func9, Tryz.ntmps9
  go_wp2
  refine bodyPost_ret (results_ct rfl _ _ w.heap.size 27 _ (0, 0) _ rfl (alloc_blk _ _ _) Tryz.underlying27 rfl (by kernel_rfl)) rfl ?_
  exact ⟨rfl, by repeat (first | exact Below.refl _ _ | apply below_alloc)⟩
def setOrd (W : World) (g : Nat) (y0 : Int) (y1 : ByteArray) (y2 : ByteArray) (y3 : Int) (y4 : ByteArray) (y5 : Int) (y6 : Bool) (y7 : Int) (y8 : Int) (y9 : Int) : World := ((((((((((W.setCell ⟨g, 0, none⟩ (.int .i64 y0)).setCell ⟨g, 1, none⟩ (.string y1)).setCell ⟨g, 2, none⟩ (.string y2)).setCell ⟨g, 3, none⟩ (.int .i64 y3)).setCell ⟨g, 4, none⟩ (.string y4)).setCell ⟨g, 5, none⟩ (.int .i64 y5)).setCell ⟨g, 6, none⟩ (.bool y6)).setCell ⟨g, 7, none⟩ (.int .i64 y7)).setCell ⟨g, 8, none⟩ (.int .i64 y8)).setCell ⟨g, 9, none⟩ (.int .i64 y9))
theorem ord_put (W : World) (g : Nat) (x0 : Int) (x1 : ByteArray) (x2 : ByteArray) (x3 : Int) (x4 : ByteArray) (x5 : Int) (x6 : Bool) (x7 : Int) (x8 : Int) (x9 : Int) (y0 : Int) (y1 : ByteArray) (y2 : ByteArray) (y3 : Int) (y4 : ByteArray) (y5 : Int) (y6 : Bool) (y7 : Int) (y8 : Int) (y9 : Int) (t : TypeId) (h : W.heap[g]? = some (.cells (ordC x0 x1 x2 x3 x4 x5 x6 x7 x8 x9) t (0, 0))) : (setOrd W g y0 y1 y2 y3 y4 y5 y6 y7 y8 y9).heap[g]? = some (.cells (ordC y0 y1 y2 y3 y4 y5 y6 y7 y8 y9) t (0, 0)) := by
  unfold setOrd ordC
  unfold ordC at h
  refine blk_put (cs := #[.int .i64 y0, .string y1, .string y2, .int .i64 y3, .string y4, .int .i64 y5, .bool y6, .int .i64 y7, .int .i64 y8, .int .i64 x9]) ?_ 9 (.int .i64 y9) rfl
  refine blk_put (cs := #[.int .i64 y0, .string y1, .string y2, .int .i64 y3, .string y4, .int .i64 y5, .bool y6, .int .i64 y7, .int .i64 x8, .int .i64 x9]) ?_ 8 (.int .i64 y8) rfl
  refine blk_put (cs := #[.int .i64 y0, .string y1, .string y2, .int .i64 y3, .string y4, .int .i64 y5, .bool y6, .int .i64 x7, .int .i64 x8, .int .i64 x9]) ?_ 7 (.int .i64 y7) rfl
  refine blk_put (cs := #[.int .i64 y0, .string y1, .string y2, .int .i64 y3, .string y4, .int .i64 y5, .bool x6, .int .i64 x7, .int .i64 x8, .int .i64 x9]) ?_ 6 (.bool y6) rfl
  refine blk_put (cs := #[.int .i64 y0, .string y1, .string y2, .int .i64 y3, .string y4, .int .i64 x5, .bool x6, .int .i64 x7, .int .i64 x8, .int .i64 x9]) ?_ 5 (.int .i64 y5) rfl
  refine blk_put (cs := #[.int .i64 y0, .string y1, .string y2, .int .i64 y3, .string x4, .int .i64 x5, .bool x6, .int .i64 x7, .int .i64 x8, .int .i64 x9]) ?_ 4 (.string y4) rfl
  refine blk_put (cs := #[.int .i64 y0, .string y1, .string y2, .int .i64 x3, .string x4, .int .i64 x5, .bool x6, .int .i64 x7, .int .i64 x8, .int .i64 x9]) ?_ 3 (.int .i64 y3) rfl
  refine blk_put (cs := #[.int .i64 y0, .string y1, .string x2, .int .i64 x3, .string x4, .int .i64 x5, .bool x6, .int .i64 x7, .int .i64 x8, .int .i64 x9]) ?_ 2 (.string y2) rfl
  refine blk_put (cs := #[.int .i64 y0, .string x1, .string x2, .int .i64 x3, .string x4, .int .i64 x5, .bool x6, .int .i64 x7, .int .i64 x8, .int .i64 x9]) ?_ 1 (.string y1) rfl
  refine blk_put (cs := #[.int .i64 x0, .string x1, .string x2, .int .i64 x3, .string x4, .int .i64 x5, .bool x6, .int .i64 x7, .int .i64 x8, .int .i64 x9]) ?_ 0 (.int .i64 y0) rfl
  exact h
theorem ord_below (w W : World) (g : Nat) (y0 : Int) (y1 : ByteArray) (y2 : ByteArray) (y3 : Int) (y4 : ByteArray) (y5 : Int) (y6 : Bool) (y7 : Int) (y8 : Int) (y9 : Int) (h : Below w.heap.size w W) (hg : w.heap.size ≤ g) : Below w.heap.size w (setOrd W g y0 y1 y2 y3 y4 y5 y6 y7 y8 y9) := by
  unfold setOrd
  repeat (first | (with_reducible exact h) | (with_reducible refine below_set ?_ hg))
set_option maxRecDepth 100000 in
theorem from_short (A0 : Option Addr) (c0 : Nat) (l0 : List ByteArray) (hl : l0 ≠ []) (w : World) (hT : Aside0 (Tab w)) (hr0 : Kd.C Kd.string w A0 l0.length l0) (hc0 : l0.length ≤ c0) (hm0 : l0.length ≤ 4611686018427387904)
    (hv : (verbOf l0).1 = 0) :
    Calls Tryz.prog 9 #[.slice A0 l0.length c0] w fun e w' => e = .returned (.tuple #[.agg (ordC 0 ⟨#[]⟩ ⟨#[]⟩ 0 ⟨#[]⟩ 0 false 0 0 0), .int .i64 162]) ∧ Below w.heap.size w w' := by
  unfold ordC
  have q0 : ((l0.length : Int) == 0) = false := by rw [beq_eq_false_iff_ne]; intro h; exact hl (List.length_eq_zero_iff.1 (by omega))
  have HC := Lib.hid (fun W (hb : Below w.heap.size w W) => verb_is A0 c0 l0 W ⟨tab_below hT.out hb⟩ (Kd.C_below hr0 hb) hc0 hm0)
  obtain ⟨v, hvv⟩ : ∃ v, (verbOf l0).1 = v := ⟨_, rfl⟩
  obtain ⟨r, hrr⟩ : ∃ r, (verbOf l0).2 = r := ⟨_, rfl⟩
  rw [hvv, hrr] at HC
  have hv0 : v = 0 := by rw [← hvv]; exact hv
  subst hv0
  clear hl hr0 hc0 hm0 hv hvv hrr
  have hmost : order_most.f 0 = some (1, 1) := rfl
  have HB0 := Lib.hid (below_alloc (Below.refl w.heap.size w) (.cells #[.int .i64 0, .string ⟨#[]⟩, .string ⟨#[]⟩, .int .i64 0, .string ⟨#[]⟩, .int .i64 0, .bool false, .int .i64 0, .int .i64 0, .int .i64 0] 27))
  have HBK := Lib.hid (alloc_blk w #[.int .i64 0, .string ⟨#[]⟩, .string ⟨#[]⟩, .int .i64 0, .string ⟨#[]⟩, .int .i64 0, .bool false, .int .i64 0, .int .i64 0, .int .i64 0] 27)
  go_enter Tryz.func9, Tryz.ntmps9
  go_wp2_with (first | (go_at_call 22; refine (HC.out _ HB0.out).mono ?_; rintro e w1 ⟨⟨A, c, rfl, hr, hc⟩, hb⟩; have HB1 := Lib.hid (below_step HB0.out hb); have HBK1 := Lib.hid (blk_below HBK.out hb); clear hr hc hb; have z0 : w1.cell? ⟨w.heap.size, 0, none⟩ = some (.int .i64 0) := (blk_cell HBK1.out 0).trans rfl; have f0 := blk_frozen HBK1.out 0; have z1 : w1.cell? ⟨w.heap.size, 1, none⟩ = some (.string ⟨#[]⟩) := (blk_cell HBK1.out 1).trans rfl; have f1 := blk_frozen HBK1.out 1; have z2 : w1.cell? ⟨w.heap.size, 2, none⟩ = some (.string ⟨#[]⟩) := (blk_cell HBK1.out 2).trans rfl; have f2 := blk_frozen HBK1.out 2; have z3 : w1.cell? ⟨w.heap.size, 3, none⟩ = some (.int .i64 0) := (blk_cell HBK1.out 3).trans rfl; have f3 := blk_frozen HBK1.out 3; have z4 : w1.cell? ⟨w.heap.size, 4, none⟩ = some (.string ⟨#[]⟩) := (blk_cell HBK1.out 4).trans rfl; have f4 := blk_frozen HBK1.out 4; have z5 : w1.cell? ⟨w.heap.size, 5, none⟩ = some (.int .i64 0) := (blk_cell HBK1.out 5).trans rfl; have f5 := blk_frozen HBK1.out 5; have z6 : w1.cell? ⟨w.heap.size, 6, none⟩ = some (.bool false) := (blk_cell HBK1.out 6).trans rfl; have f6 := blk_frozen HBK1.out 6; have z7 : w1.cell? ⟨w.heap.size, 7, none⟩ = some (.int .i64 0) := (blk_cell HBK1.out 7).trans rfl; have f7 := blk_frozen HBK1.out 7; have z8 : w1.cell? ⟨w.heap.size, 8, none⟩ = some (.int .i64 0) := (blk_cell HBK1.out 8).trans rfl; have f8 := blk_frozen HBK1.out 8; have z9 : w1.cell? ⟨w.heap.size, 9, none⟩ = some (.int .i64 0) := (blk_cell HBK1.out 9).trans rfl; have f9 := blk_frozen HBK1.out 9) | (go_at_call 23; refine (order_most.calls 0 1 1 _ hmost).mono ?_; rintro e w' ⟨rfl, ⟨nd, rfl⟩⟩))
  refine bodyPost_ret (results_ct rfl _ _ w.heap.size 27 _ (0, 0) _ rfl (ord_put (w1.drewN nd) w.heap.size 0 ⟨#[]⟩ ⟨#[]⟩ 0 ⟨#[]⟩ 0 false 0 0 0 0 ⟨#[]⟩ ⟨#[]⟩ 0 ⟨#[]⟩ 0 false 0 0 0 _ HBK1.out) Tryz.underlying27 rfl (by kernel_rfl)) rfl ?_
  exact ⟨rfl, ord_below w (w1.drewN nd) w.heap.size 0 ⟨#[]⟩ ⟨#[]⟩ 0 ⟨#[]⟩ 0 false 0 0 0 (by repeat (first | exact HB1.out | apply pw_below_drewN)) (Nat.le_refl _)⟩
set_option maxRecDepth 100000 in
theorem from_many (A0 : Option Addr) (c0 : Nat) (l0 : List ByteArray) (hl : l0 ≠ []) (w : World) (hT : Aside0 (Tab w)) (hr0 : Kd.C Kd.string w A0 l0.length l0) (hc0 : l0.length ≤ c0) (hm0 : l0.length ≤ 4611686018427387904)
    (v : Int) (r : List ByteArray) (hvv : (verbOf l0).1 = v) (hrr : (verbOf l0).2 = r) (hv0 : v ≠ 0) (lo hi : Int) (hmost : order_most.f v = some (lo, hi)) (hbad : (r.length : Int) < lo ∨ (¬ (r.length : Int) < lo ∧ hi < (r.length : Int))) :
    Calls Tryz.prog 9 #[.slice A0 l0.length c0] w fun e w' => e = .returned (.tuple #[.agg (ordC 0 ⟨#[]⟩ ⟨#[]⟩ 0 ⟨#[]⟩ 0 false 0 0 0), .int .i64 161]) ∧ Below w.heap.size w w' := by
  unfold ordC
  have q0 : ((l0.length : Int) == 0) = false := by rw [beq_eq_false_iff_ne]; intro h; exact hl (List.length_eq_zero_iff.1 (by omega))
  have HC := Lib.hid (fun W (hb : Below w.heap.size w W) => verb_is A0 c0 l0 W ⟨tab_below hT.out hb⟩ (Kd.C_below hr0 hb) hc0 hm0)
  rw [hvv, hrr] at HC
  have hv1 : (v == 0) = false := by rw [beq_eq_false_iff_ne]; exact hv0
  have HM := Lib.hid (fun W => order_most.calls v lo hi W hmost)
  clear hl hr0 hc0 hm0 hv0 hvv hrr hmost
  have HB0 := Lib.hid (below_alloc (Below.refl w.heap.size w) (.cells #[.int .i64 0, .string ⟨#[]⟩, .string ⟨#[]⟩, .int .i64 0, .string ⟨#[]⟩, .int .i64 0, .bool false, .int .i64 0, .int .i64 0, .int .i64 0] 27))
  have HBK := Lib.hid (alloc_blk w #[.int .i64 0, .string ⟨#[]⟩, .string ⟨#[]⟩, .int .i64 0, .string ⟨#[]⟩, .int .i64 0, .bool false, .int .i64 0, .int .i64 0, .int .i64 0] 27)
  rcases hbad with hbad | ⟨hb0, hbad⟩
  · go_enter Tryz.func9, Tryz.ntmps9
    go_wp2_with (first | (go_at_call 22; refine (HC.out _ HB0.out).mono ?_; rintro e w1 ⟨⟨A, c, rfl, hr, hc⟩, hb⟩; have HB1 := Lib.hid (below_step HB0.out hb); have HBK1 := Lib.hid (blk_below HBK.out hb); clear hr hc hb; have z0 : w1.cell? ⟨w.heap.size, 0, none⟩ = some (.int .i64 0) := (blk_cell HBK1.out 0).trans rfl; have f0 := blk_frozen HBK1.out 0; have z1 : w1.cell? ⟨w.heap.size, 1, none⟩ = some (.string ⟨#[]⟩) := (blk_cell HBK1.out 1).trans rfl; have f1 := blk_frozen HBK1.out 1; have z2 : w1.cell? ⟨w.heap.size, 2, none⟩ = some (.string ⟨#[]⟩) := (blk_cell HBK1.out 2).trans rfl; have f2 := blk_frozen HBK1.out 2; have z3 : w1.cell? ⟨w.heap.size, 3, none⟩ = some (.int .i64 0) := (blk_cell HBK1.out 3).trans rfl; have f3 := blk_frozen HBK1.out 3; have z4 : w1.cell? ⟨w.heap.size, 4, none⟩ = some (.string ⟨#[]⟩) := (blk_cell HBK1.out 4).trans rfl; have f4 := blk_frozen HBK1.out 4; have z5 : w1.cell? ⟨w.heap.size, 5, none⟩ = some (.int .i64 0) := (blk_cell HBK1.out 5).trans rfl; have f5 := blk_frozen HBK1.out 5; have z6 : w1.cell? ⟨w.heap.size, 6, none⟩ = some (.bool false) := (blk_cell HBK1.out 6).trans rfl; have f6 := blk_frozen HBK1.out 6; have z7 : w1.cell? ⟨w.heap.size, 7, none⟩ = some (.int .i64 0) := (blk_cell HBK1.out 7).trans rfl; have f7 := blk_frozen HBK1.out 7; have z8 : w1.cell? ⟨w.heap.size, 8, none⟩ = some (.int .i64 0) := (blk_cell HBK1.out 8).trans rfl; have f8 := blk_frozen HBK1.out 8; have z9 : w1.cell? ⟨w.heap.size, 9, none⟩ = some (.int .i64 0) := (blk_cell HBK1.out 9).trans rfl; have f9 := blk_frozen HBK1.out 9) | (go_at_call 23; refine (HM.out _).mono ?_; rintro e w' ⟨rfl, ⟨nd, rfl⟩⟩))
    refine bodyPost_ret (results_ct rfl _ _ w.heap.size 27 _ (0, 0) _ rfl (ord_put (w1.drewN nd) w.heap.size 0 ⟨#[]⟩ ⟨#[]⟩ 0 ⟨#[]⟩ 0 false 0 0 0 0 ⟨#[]⟩ ⟨#[]⟩ 0 ⟨#[]⟩ 0 false 0 0 0 _ HBK1.out) Tryz.underlying27 rfl (by kernel_rfl)) rfl ?_
    exact ⟨rfl, ord_below w (w1.drewN nd) w.heap.size 0 ⟨#[]⟩ ⟨#[]⟩ 0 ⟨#[]⟩ 0 false 0 0 0 (by repeat (first | exact HB1.out | apply pw_below_drewN)) (Nat.le_refl _)⟩
  · go_enter Tryz.func9, Tryz.ntmps9
    go_wp2_with (first | (go_at_call 22; refine (HC.out _ HB0.out).mono ?_; rintro e w1 ⟨⟨A, c, rfl, hr, hc⟩, hb⟩; have HB1 := Lib.hid (below_step HB0.out hb); have HBK1 := Lib.hid (blk_below HBK.out hb); clear hr hc hb; have z0 : w1.cell? ⟨w.heap.size, 0, none⟩ = some (.int .i64 0) := (blk_cell HBK1.out 0).trans rfl; have f0 := blk_frozen HBK1.out 0; have z1 : w1.cell? ⟨w.heap.size, 1, none⟩ = some (.string ⟨#[]⟩) := (blk_cell HBK1.out 1).trans rfl; have f1 := blk_frozen HBK1.out 1; have z2 : w1.cell? ⟨w.heap.size, 2, none⟩ = some (.string ⟨#[]⟩) := (blk_cell HBK1.out 2).trans rfl; have f2 := blk_frozen HBK1.out 2; have z3 : w1.cell? ⟨w.heap.size, 3, none⟩ = some (.int .i64 0) := (blk_cell HBK1.out 3).trans rfl; have f3 := blk_frozen HBK1.out 3; have z4 : w1.cell? ⟨w.heap.size, 4, none⟩ = some (.string ⟨#[]⟩) := (blk_cell HBK1.out 4).trans rfl; have f4 := blk_frozen HBK1.out 4; have z5 : w1.cell? ⟨w.heap.size, 5, none⟩ = some (.int .i64 0) := (blk_cell HBK1.out 5).trans rfl; have f5 := blk_frozen HBK1.out 5; have z6 : w1.cell? ⟨w.heap.size, 6, none⟩ = some (.bool false) := (blk_cell HBK1.out 6).trans rfl; have f6 := blk_frozen HBK1.out 6; have z7 : w1.cell? ⟨w.heap.size, 7, none⟩ = some (.int .i64 0) := (blk_cell HBK1.out 7).trans rfl; have f7 := blk_frozen HBK1.out 7; have z8 : w1.cell? ⟨w.heap.size, 8, none⟩ = some (.int .i64 0) := (blk_cell HBK1.out 8).trans rfl; have f8 := blk_frozen HBK1.out 8; have z9 : w1.cell? ⟨w.heap.size, 9, none⟩ = some (.int .i64 0) := (blk_cell HBK1.out 9).trans rfl; have f9 := blk_frozen HBK1.out 9) | (go_at_call 23; refine (HM.out _).mono ?_; rintro e w' ⟨rfl, ⟨nd, rfl⟩⟩))
    refine bodyPost_ret (results_ct rfl _ _ w.heap.size 27 _ (0, 0) _ rfl (ord_put (w1.drewN nd) w.heap.size 0 ⟨#[]⟩ ⟨#[]⟩ 0 ⟨#[]⟩ 0 false 0 0 0 0 ⟨#[]⟩ ⟨#[]⟩ 0 ⟨#[]⟩ 0 false 0 0 0 _ HBK1.out) Tryz.underlying27 rfl (by kernel_rfl)) rfl ?_
    exact ⟨rfl, ord_below w (w1.drewN nd) w.heap.size 0 ⟨#[]⟩ ⟨#[]⟩ 0 ⟨#[]⟩ 0 false 0 0 0 (by repeat (first | exact HB1.out | apply pw_below_drewN)) (Nat.le_refl _)⟩
set_option maxRecDepth 100000 in
theorem from_alone (A0 : Option Addr) (c0 : Nat) (l0 : List ByteArray) (hl : l0 ≠ []) (w : World) (hT : Aside0 (Tab w)) (hr0 : Kd.C Kd.string w A0 l0.length l0) (hc0 : l0.length ≤ c0) (hm0 : l0.length ≤ 4611686018427387904)
    (v : Int) (r : List ByteArray) (hvv : (verbOf l0).1 = v) (hrr : (verbOf l0).2 = r) (hv0 : v ≠ 0) (lo hi : Int) (hmost : order_most.f v = some (lo, hi)) (hb1 : ¬ (r.length : Int) < lo) (hb2 : ¬ hi < (r.length : Int)) (hnp : order_noProxy.f v = some true) :
    Calls Tryz.prog 9 #[.slice A0 l0.length c0] w fun e w' => e = .returned (.tuple #[.agg (ordC v ⟨#[]⟩ ⟨#[]⟩ 0 ⟨#[]⟩ 0 false 0 0 0), .int .i64 0]) ∧ Below w.heap.size w w' := by
  unfold ordC
  have q0 : ((l0.length : Int) == 0) = false := by rw [beq_eq_false_iff_ne]; intro h; exact hl (List.length_eq_zero_iff.1 (by omega))
  have HC := Lib.hid (fun W (hb : Below w.heap.size w W) => verb_is A0 c0 l0 W ⟨tab_below hT.out hb⟩ (Kd.C_below hr0 hb) hc0 hm0)
  rw [hvv, hrr] at HC
  have hv1 : (v == 0) = false := by rw [beq_eq_false_iff_ne]; exact hv0
  have HM := Lib.hid (fun W => order_most.calls v lo hi W hmost)
  have HN := Lib.hid (fun W => order_noProxy.calls v true W hnp)
  clear hnp hl hr0 hc0 hm0 hv0 hvv hrr hmost
  have HB0 := Lib.hid (below_alloc (Below.refl w.heap.size w) (.cells #[.int .i64 0, .string ⟨#[]⟩, .string ⟨#[]⟩, .int .i64 0, .string ⟨#[]⟩, .int .i64 0, .bool false, .int .i64 0, .int .i64 0, .int .i64 0] 27))
  have HBK := Lib.hid (alloc_blk w #[.int .i64 0, .string ⟨#[]⟩, .string ⟨#[]⟩, .int .i64 0, .string ⟨#[]⟩, .int .i64 0, .bool false, .int .i64 0, .int .i64 0, .int .i64 0] 27)
  go_enter Tryz.func9, Tryz.ntmps9
  go_wp2_with (first | (go_at_call 22; refine (HC.out _ HB0.out).mono ?_; rintro e w1 ⟨⟨A, c, rfl, hr, hc⟩, hb⟩; have HB1 := Lib.hid (below_step HB0.out hb); have HBK1 := Lib.hid (blk_below HBK.out hb); clear hr hc hb; have z0 : w1.cell? ⟨w.heap.size, 0, none⟩ = some (.int .i64 0) := (blk_cell HBK1.out 0).trans rfl; have f0 := blk_frozen HBK1.out 0; have z1 : w1.cell? ⟨w.heap.size, 1, none⟩ = some (.string ⟨#[]⟩) := (blk_cell HBK1.out 1).trans rfl; have f1 := blk_frozen HBK1.out 1; have z2 : w1.cell? ⟨w.heap.size, 2, none⟩ = some (.string ⟨#[]⟩) := (blk_cell HBK1.out 2).trans rfl; have f2 := blk_frozen HBK1.out 2; have z3 : w1.cell? ⟨w.heap.size, 3, none⟩ = some (.int .i64 0) := (blk_cell HBK1.out 3).trans rfl; have f3 := blk_frozen HBK1.out 3; have z4 : w1.cell? ⟨w.heap.size, 4, none⟩ = some (.string ⟨#[]⟩) := (blk_cell HBK1.out 4).trans rfl; have f4 := blk_frozen HBK1.out 4; have z5 : w1.cell? ⟨w.heap.size, 5, none⟩ = some (.int .i64 0) := (blk_cell HBK1.out 5).trans rfl; have f5 := blk_frozen HBK1.out 5; have z6 : w1.cell? ⟨w.heap.size, 6, none⟩ = some (.bool false) := (blk_cell HBK1.out 6).trans rfl; have f6 := blk_frozen HBK1.out 6; have z7 : w1.cell? ⟨w.heap.size, 7, none⟩ = some (.int .i64 0) := (blk_cell HBK1.out 7).trans rfl; have f7 := blk_frozen HBK1.out 7; have z8 : w1.cell? ⟨w.heap.size, 8, none⟩ = some (.int .i64 0) := (blk_cell HBK1.out 8).trans rfl; have f8 := blk_frozen HBK1.out 8; have z9 : w1.cell? ⟨w.heap.size, 9, none⟩ = some (.int .i64 0) := (blk_cell HBK1.out 9).trans rfl; have f9 := blk_frozen HBK1.out 9) | (go_at_call 23; refine (HM.out _).mono ?_; rintro e w' ⟨rfl, ⟨nd, rfl⟩⟩) | (go_at_call 24; refine (HN.out _).mono ?_; rintro e w' ⟨rfl, ⟨ne, rfl⟩⟩))
  refine bodyPost_ret (results_ct rfl _ _ w.heap.size 27 _ (0, 0) _ rfl (ord_put (w1.drewN (nd + ne)) w.heap.size 0 ⟨#[]⟩ ⟨#[]⟩ 0 ⟨#[]⟩ 0 false 0 0 0 v ⟨#[]⟩ ⟨#[]⟩ 0 ⟨#[]⟩ 0 false 0 0 0 _ HBK1.out) Tryz.underlying27 rfl (by kernel_rfl)) rfl ?_
  exact ⟨rfl, ord_below w (w1.drewN (nd + ne)) w.heap.size v ⟨#[]⟩ ⟨#[]⟩ 0 ⟨#[]⟩ 0 false 0 0 0 (by repeat (first | exact HB1.out | apply pw_below_drewN)) (Nat.le_refl _)⟩
set_option maxRecDepth 100000 in
theorem from_plain (A0 : Option Addr) (c0 : Nat) (l0 : List ByteArray) (hl : l0 ≠ []) (w : World) (hT : Aside0 (Tab w)) (hr0 : Kd.C Kd.string w A0 l0.length l0) (hc0 : l0.length ≤ c0) (hm0 : l0.length ≤ 4611686018427387904)
    (v : Int) (r : List ByteArray) (hvv : (verbOf l0).1 = v) (hrr : (verbOf l0).2 = r) (hv0 : v ≠ 0) (lo hi : Int) (hmost : order_most.f v = some (lo, hi)) (hb1 : ¬ (r.length : Int) < lo) (hb2 : ¬ hi < (r.length : Int)) (hnp : order_noProxy.f v = some false) (htx : order_toxical.f v = some false) (hv1' : v ≠ 1) (hv6 : v ≠ 6) (p : ByteArray) (rs : List ByteArray) (hrp : r = p :: rs) :
    Calls Tryz.prog 9 #[.slice A0 l0.length c0] w fun e w' => e = .returned (.tuple #[.agg (ordC v p ⟨#[]⟩ 0 ⟨#[]⟩ 0 false 0 0 0), .int .i64 0]) ∧ Below w.heap.size w w' := by
  unfold ordC
  have q0 : ((l0.length : Int) == 0) = false := by rw [beq_eq_false_iff_ne]; intro h; exact hl (List.length_eq_zero_iff.1 (by omega))
  have HC := Lib.hid (fun W (hb : Below w.heap.size w W) => verb_is A0 c0 l0 W ⟨tab_below hT.out hb⟩ (Kd.C_below hr0 hb) hc0 hm0)
  rw [hvv, hrr] at HC
  have hv1 : (v == 0) = false := by rw [beq_eq_false_iff_ne]; exact hv0
  have HM := Lib.hid (fun W => order_most.calls v lo hi W hmost)
  have HN := Lib.hid (fun W => order_noProxy.calls v false W hnp)
  have HX := Lib.hid (fun W => order_toxical.calls v false W htx)
  have hq1 : (v == 1) = false := by rw [beq_eq_false_iff_ne]; exact hv1'
  have hq6 : (v == 6) = false := by rw [beq_eq_false_iff_ne]; exact hv6
  have HRL := Lib.hid (show r.length = rs.length + 1 by rw [hrp]; rfl)
  have HRP := Lib.hid hrp
  clear hnp htx hv1' hv6 hrp hl hr0 hc0 hm0 hv0 hvv hrr hmost
  have HB0 := Lib.hid (below_alloc (Below.refl w.heap.size w) (.cells #[.int .i64 0, .string ⟨#[]⟩, .string ⟨#[]⟩, .int .i64 0, .string ⟨#[]⟩, .int .i64 0, .bool false, .int .i64 0, .int .i64 0, .int .i64 0] 27))
  have HBK := Lib.hid (alloc_blk w #[.int .i64 0, .string ⟨#[]⟩, .string ⟨#[]⟩, .int .i64 0, .string ⟨#[]⟩, .int .i64 0, .bool false, .int .i64 0, .int .i64 0, .int .i64 0] 27)
  go_enter Tryz.func9, Tryz.ntmps9
  go_wp2_with (first | (go_at_call 22; refine (HC.out _ HB0.out).mono ?_; rintro e w1 ⟨⟨A, c, rfl, hr, hc⟩, hb⟩; have HB1 := Lib.hid (below_step HB0.out hb); have HBK1 := Lib.hid (blk_below HBK.out hb); obtain ⟨ad, ha, hx⟩ := Kd.at_string hr 0 (by omega) (by rw [HRL.out]; omega); cases ha; obtain ⟨A', hcut, -, -⟩ := cut_from (A := some ad) (n := 1) (l := r) (by rw [HRL.out]; omega) hc; have hcut1 : ∀ W : World, (Instr.slice 22 (.slice (some ad) r.length c) (some (.int .i64 1)) none none).run Tryz.prog W = .ok (.slice A' (r.drop 1).length (c - 1)) W := hcut; generalize (r.drop 1).length = nr at hcut1; clear hcut; have hx1 : w1.cell? ad = some (.string p) := (by have h9 := hx; rw [show ad.add (0 : Int).toNat = ad by simp [Addr.add]] at h9; rw [h9, show rdOf ByteArray.empty r 0 = p by rw [HRP.out]; rfl]); have q7 : (0 : Int) < (r.length : Int) := (by rw [HRL.out]; omega); clear hx hr hc hb; have z0 : w1.cell? ⟨w.heap.size, 0, none⟩ = some (.int .i64 0) := (blk_cell HBK1.out 0).trans rfl; have f0 := blk_frozen HBK1.out 0; have z1 : w1.cell? ⟨w.heap.size, 1, none⟩ = some (.string ⟨#[]⟩) := (blk_cell HBK1.out 1).trans rfl; have f1 := blk_frozen HBK1.out 1; have z2 : w1.cell? ⟨w.heap.size, 2, none⟩ = some (.string ⟨#[]⟩) := (blk_cell HBK1.out 2).trans rfl; have f2 := blk_frozen HBK1.out 2; have z3 : w1.cell? ⟨w.heap.size, 3, none⟩ = some (.int .i64 0) := (blk_cell HBK1.out 3).trans rfl; have f3 := blk_frozen HBK1.out 3; have z4 : w1.cell? ⟨w.heap.size, 4, none⟩ = some (.string ⟨#[]⟩) := (blk_cell HBK1.out 4).trans rfl; have f4 := blk_frozen HBK1.out 4; have z5 : w1.cell? ⟨w.heap.size, 5, none⟩ = some (.int .i64 0) := (blk_cell HBK1.out 5).trans rfl; have f5 := blk_frozen HBK1.out 5; have z6 : w1.cell? ⟨w.heap.size, 6, none⟩ = some (.bool false) := (blk_cell HBK1.out 6).trans rfl; have f6 := blk_frozen HBK1.out 6; have z7 : w1.cell? ⟨w.heap.size, 7, none⟩ = some (.int .i64 0) := (blk_cell HBK1.out 7).trans rfl; have f7 := blk_frozen HBK1.out 7; have z8 : w1.cell? ⟨w.heap.size, 8, none⟩ = some (.int .i64 0) := (blk_cell HBK1.out 8).trans rfl; have f8 := blk_frozen HBK1.out 8; have z9 : w1.cell? ⟨w.heap.size, 9, none⟩ = some (.int .i64 0) := (blk_cell HBK1.out 9).trans rfl; have f9 := blk_frozen HBK1.out 9) | (go_at_call 23; refine (HM.out _).mono ?_; rintro e w' ⟨rfl, ⟨nd, rfl⟩⟩) | (go_at_call 24; refine (HN.out _).mono ?_; rintro e w' ⟨rfl, ⟨ne, rfl⟩⟩) | (go_at_call 28; refine (HX.out _).mono ?_; rintro e w' ⟨rfl, ⟨nx, rfl⟩⟩) | (go_at_call 25; refine (nothing_is _ _ _).mono ?_; rintro e w5 ⟨rfl, hw⟩; have hb5 : w5.heap[w1.heap.size]? = some (.cells #[.int .i64 v, .string p, .string ⟨#[]⟩, .int .i64 0, .string ⟨#[]⟩, .int .i64 0, .bool false, .int .i64 0, .int .i64 0, .int .i64 0] 27 (0, 0)) := (by rw [hw]; exact alloc_blk (w1.drewN _) _ _); have hr5 : w5.heap[w.heap.size]? = some (.cells #[.int .i64 0, .string ⟨#[]⟩, .string ⟨#[]⟩, .int .i64 0, .string ⟨#[]⟩, .int .i64 0, .bool false, .int .i64 0, .int .i64 0, .int .i64 0] 27 (0, 0)) := (by rw [hw]; exact blk_alloc (o := .cells _ _) HBK1.out _); have HR5 := Lib.hid hr5; have HB5 := Lib.hid (show Below w.heap.size w w5 by rw [hw]; repeat (first | exact HB1.out | apply pw_below_drewN | apply below_alloc)); clear hw; have y0 : w5.cell? ⟨w1.heap.size, 0, none⟩ = some (.int .i64 v) := (blk_cell hb5 0).trans rfl; have u0_ : w5.cell? ⟨w.heap.size, 0, none⟩ = some (.int .i64 0) := (blk_cell hr5 0).trans rfl; have g0_ := blk_frozen hr5 0; have y1 : w5.cell? ⟨w1.heap.size, 1, none⟩ = some (.string p) := (blk_cell hb5 1).trans rfl; have u1_ : w5.cell? ⟨w.heap.size, 1, none⟩ = some (.string ⟨#[]⟩) := (blk_cell hr5 1).trans rfl; have g1_ := blk_frozen hr5 1; have y2 : w5.cell? ⟨w1.heap.size, 2, none⟩ = some (.string ⟨#[]⟩) := (blk_cell hb5 2).trans rfl; have u2_ : w5.cell? ⟨w.heap.size, 2, none⟩ = some (.string ⟨#[]⟩) := (blk_cell hr5 2).trans rfl; have g2_ := blk_frozen hr5 2; have y3 : w5.cell? ⟨w1.heap.size, 3, none⟩ = some (.int .i64 0) := (blk_cell hb5 3).trans rfl; have u3_ : w5.cell? ⟨w.heap.size, 3, none⟩ = some (.int .i64 0) := (blk_cell hr5 3).trans rfl; have g3_ := blk_frozen hr5 3; have y4 : w5.cell? ⟨w1.heap.size, 4, none⟩ = some (.string ⟨#[]⟩) := (blk_cell hb5 4).trans rfl; have u4_ : w5.cell? ⟨w.heap.size, 4, none⟩ = some (.string ⟨#[]⟩) := (blk_cell hr5 4).trans rfl; have g4_ := blk_frozen hr5 4; have y5 : w5.cell? ⟨w1.heap.size, 5, none⟩ = some (.int .i64 0) := (blk_cell hb5 5).trans rfl; have u5_ : w5.cell? ⟨w.heap.size, 5, none⟩ = some (.int .i64 0) := (blk_cell hr5 5).trans rfl; have g5_ := blk_frozen hr5 5; have y6 : w5.cell? ⟨w1.heap.size, 6, none⟩ = some (.bool false) := (blk_cell hb5 6).trans rfl; have u6_ : w5.cell? ⟨w.heap.size, 6, none⟩ = some (.bool false) := (blk_cell hr5 6).trans rfl; have g6_ := blk_frozen hr5 6; have y7 : w5.cell? ⟨w1.heap.size, 7, none⟩ = some (.int .i64 0) := (blk_cell hb5 7).trans rfl; have u7_ : w5.cell? ⟨w.heap.size, 7, none⟩ = some (.int .i64 0) := (blk_cell hr5 7).trans rfl; have g7_ := blk_frozen hr5 7; have y8 : w5.cell? ⟨w1.heap.size, 8, none⟩ = some (.int .i64 0) := (blk_cell hb5 8).trans rfl; have u8_ : w5.cell? ⟨w.heap.size, 8, none⟩ = some (.int .i64 0) := (blk_cell hr5 8).trans rfl; have g8_ := blk_frozen hr5 8; have y9 : w5.cell? ⟨w1.heap.size, 9, none⟩ = some (.int .i64 0) := (blk_cell hb5 9).trans rfl; have u9_ : w5.cell? ⟨w.heap.size, 9, none⟩ = some (.int .i64 0) := (blk_cell hr5 9).trans rfl; have g9_ := blk_frozen hr5 9; clear hb5 hr5))
  refine bodyPost_ret (results_ct rfl _ _ w.heap.size 27 _ (0, 0) _ rfl (ord_put w5 w.heap.size 0 ⟨#[]⟩ ⟨#[]⟩ 0 ⟨#[]⟩ 0 false 0 0 0 v p ⟨#[]⟩ 0 ⟨#[]⟩ 0 false 0 0 0 _ HR5.out) Tryz.underlying27 rfl (by kernel_rfl)) rfl ?_
  exact ⟨rfl, ord_below w w5 w.heap.size v p ⟨#[]⟩ 0 ⟨#[]⟩ 0 false 0 0 0 HB5.out (Nat.le_refl _)⟩
set_option maxRecDepth 100000 in
theorem from_name (A0 : Option Addr) (c0 : Nat) (l0 : List ByteArray) (hl : l0 ≠ []) (w : World) (hT : Aside0 (Tab w)) (hr0 : Kd.C Kd.string w A0 l0.length l0) (hc0 : l0.length ≤ c0) (hm0 : l0.length ≤ 4611686018427387904)
    (v : Int) (r : List ByteArray) (hvv : (verbOf l0).1 = v) (hrr : (verbOf l0).2 = r) (hv0 : v ≠ 0) (lo hi : Int) (hmost : order_most.f v = some (lo, hi)) (hb1 : ¬ (r.length : Int) < lo) (hb2 : ¬ hi < (r.length : Int)) (hnp : order_noProxy.f v = some false) (hv1' : v ≠ 1) (hv6 : v = 6) (p q : ByteArray) (hrp : r = [p, q]) :
    Calls Tryz.prog 9 #[.slice A0 l0.length c0] w fun e w' => e = .returned (.tuple #[.agg (ordC v p q 0 ⟨#[]⟩ 0 false 0 0 0), .int .i64 0]) ∧ Below w.heap.size w w' := by
  unfold ordC
  have q0 : ((l0.length : Int) == 0) = false := by rw [beq_eq_false_iff_ne]; intro h; exact hl (List.length_eq_zero_iff.1 (by omega))
  have HC := Lib.hid (fun W (hb : Below w.heap.size w W) => verb_is A0 c0 l0 W ⟨tab_below hT.out hb⟩ (Kd.C_below hr0 hb) hc0 hm0)
  rw [hvv, hrr] at HC
  have hv1 : (v == 0) = false := by rw [beq_eq_false_iff_ne]; exact hv0
  have HM := Lib.hid (fun W => order_most.calls v lo hi W hmost)
  have HN := Lib.hid (fun W => order_noProxy.calls v false W hnp)
  have hq1 : (v == 1) = false := by rw [beq_eq_false_iff_ne]; exact hv1'
  have hq6 : (v == 6) = true := by rw [beq_iff_eq]; exact hv6
  have HRL := Lib.hid (show r.length = 2 by rw [hrp]; rfl)
  have HRP := Lib.hid hrp
  clear hnp hv1' hv6 hrp hl hr0 hc0 hm0 hv0 hvv hrr hmost
  have HB0 := Lib.hid (below_alloc (Below.refl w.heap.size w) (.cells #[.int .i64 0, .string ⟨#[]⟩, .string ⟨#[]⟩, .int .i64 0, .string ⟨#[]⟩, .int .i64 0, .bool false, .int .i64 0, .int .i64 0, .int .i64 0] 27))
  have HBK := Lib.hid (alloc_blk w #[.int .i64 0, .string ⟨#[]⟩, .string ⟨#[]⟩, .int .i64 0, .string ⟨#[]⟩, .int .i64 0, .bool false, .int .i64 0, .int .i64 0, .int .i64 0] 27)
  go_enter Tryz.func9, Tryz.ntmps9
  go_wp2_with (first | (go_at_call 22; refine (HC.out _ HB0.out).mono ?_; rintro e w1 ⟨⟨A, c, rfl, hr, hc⟩, hb⟩; have HB1 := Lib.hid (below_step HB0.out hb); have HBK1 := Lib.hid (blk_below HBK.out hb); obtain ⟨ad, ha, hx⟩ := Kd.at_string hr 0 (by omega) (by rw [HRL.out]; omega); cases ha; obtain ⟨A', hcut, hcr, hcl⟩ := cut_from (A := some ad) (n := 1) (l := r) (by rw [HRL.out]; omega) hc; have hcut1 : ∀ W : World, (Instr.slice 22 (.slice (some ad) r.length c) (some (.int .i64 1)) none none).run Tryz.prog W = .ok (.slice A' (r.drop 1).length (c - 1)) W := hcut; have HCR := Lib.hid (hcr _ hr); have HCL := Lib.hid hcl; clear hcr hcl; have hnr : (r.drop 1).length = 1 := (by rw [List.length_drop, HRL.out]); rw [hnr] at hcut1; have HNR := Lib.hid hnr; clear hnr hcut; have hx1 : w1.cell? ad = some (.string p) := (by have h9 := hx; rw [show ad.add (0 : Int).toNat = ad by simp [Addr.add]] at h9; rw [h9, show rdOf ByteArray.empty r 0 = p by rw [HRP.out]; rfl]); have q7 : (0 : Int) < (r.length : Int) := (by rw [HRL.out]; omega); clear hx hr hc hb; have z0 : w1.cell? ⟨w.heap.size, 0, none⟩ = some (.int .i64 0) := (blk_cell HBK1.out 0).trans rfl; have f0 := blk_frozen HBK1.out 0; have z1 : w1.cell? ⟨w.heap.size, 1, none⟩ = some (.string ⟨#[]⟩) := (blk_cell HBK1.out 1).trans rfl; have f1 := blk_frozen HBK1.out 1; have z2 : w1.cell? ⟨w.heap.size, 2, none⟩ = some (.string ⟨#[]⟩) := (blk_cell HBK1.out 2).trans rfl; have f2 := blk_frozen HBK1.out 2; have z3 : w1.cell? ⟨w.heap.size, 3, none⟩ = some (.int .i64 0) := (blk_cell HBK1.out 3).trans rfl; have f3 := blk_frozen HBK1.out 3; have z4 : w1.cell? ⟨w.heap.size, 4, none⟩ = some (.string ⟨#[]⟩) := (blk_cell HBK1.out 4).trans rfl; have f4 := blk_frozen HBK1.out 4; have z5 : w1.cell? ⟨w.heap.size, 5, none⟩ = some (.int .i64 0) := (blk_cell HBK1.out 5).trans rfl; have f5 := blk_frozen HBK1.out 5; have z6 : w1.cell? ⟨w.heap.size, 6, none⟩ = some (.bool false) := (blk_cell HBK1.out 6).trans rfl; have f6 := blk_frozen HBK1.out 6; have z7 : w1.cell? ⟨w.heap.size, 7, none⟩ = some (.int .i64 0) := (blk_cell HBK1.out 7).trans rfl; have f7 := blk_frozen HBK1.out 7; have z8 : w1.cell? ⟨w.heap.size, 8, none⟩ = some (.int .i64 0) := (blk_cell HBK1.out 8).trans rfl; have f8 := blk_frozen HBK1.out 8; have z9 : w1.cell? ⟨w.heap.size, 9, none⟩ = some (.int .i64 0) := (blk_cell HBK1.out 9).trans rfl; have f9 := blk_frozen HBK1.out 9) | (go_at_call 23; refine (HM.out _).mono ?_; rintro e w' ⟨rfl, ⟨nd, rfl⟩⟩) | (go_at_call 24; refine (HN.out _).mono ?_; rintro e w' ⟨rfl, ⟨ne, rfl⟩⟩) | (go_at_call 27; have hbx := alloc_blk (w1.drewN (nd + ne)) (ordC v p ⟨#[]⟩ 0 ⟨#[]⟩ 0 false 0 0 0) 27; have hc4 : Kd.C Kd.string ((w1.drewN (nd + ne)).alloc (.cells (ordC v p ⟨#[]⟩ 0 ⟨#[]⟩ 0 false 0 0 0) 27)) A' (r.drop 1).length (r.drop 1) := Kd.C_alloc (Kd.C_drewN HCR.out _) _; have hq : (r.drop 1).length = 1 := HNR.out; have hd : r.drop 1 = [q] := (by rw [HRP.out]; rfl); rw [hd] at hc4; have hcl4 : [q].length ≤ c - 1 := (by have := HCL.out; rw [hd] at this; exact this); refine (name_is w1.heap.size v p A' (c - 1) [q] (by simp) _ hbx hc4 hcl4).mono ?_; rintro e w5 ⟨rfl, hw⟩; have hgl : w.heap.size < w1.heap.size := blk_lt HBK1.out; have hb5 : w5.heap[w1.heap.size]? = some (.cells #[.int .i64 v, .string p, .string q, .int .i64 0, .string ⟨#[]⟩, .int .i64 0, .bool false, .int .i64 0, .int .i64 0, .int .i64 0] 27 (0, 0)) := (by rw [hw]; exact blk_put (cs := ordC v p ⟨#[]⟩ 0 ⟨#[]⟩ 0 false 0 0 0) hbx 2 _ rfl); have hr5 : w5.heap[w.heap.size]? = some (.cells #[.int .i64 0, .string ⟨#[]⟩, .string ⟨#[]⟩, .int .i64 0, .string ⟨#[]⟩, .int .i64 0, .bool false, .int .i64 0, .int .i64 0, .int .i64 0] 27 (0, 0)) := (by rw [hw]; exact blk_far (blk_alloc (o := .cells _ _) HBK1.out _) (Nat.ne_of_lt hgl) _); have HR5 := Lib.hid hr5; have HB5 := Lib.hid (show Below w.heap.size w w5 by rw [hw]; refine below_set ?_ (Nat.le_of_lt hgl); repeat (first | exact HB1.out | apply pw_below_drewN | apply below_alloc)); clear hw hbx hc4 hq hd hcl4 hgl; have y0 : w5.cell? ⟨w1.heap.size, 0, none⟩ = some (.int .i64 v) := (blk_cell hb5 0).trans rfl; have u0_ : w5.cell? ⟨w.heap.size, 0, none⟩ = some (.int .i64 0) := (blk_cell hr5 0).trans rfl; have g0_ := blk_frozen hr5 0; have y1 : w5.cell? ⟨w1.heap.size, 1, none⟩ = some (.string p) := (blk_cell hb5 1).trans rfl; have u1_ : w5.cell? ⟨w.heap.size, 1, none⟩ = some (.string ⟨#[]⟩) := (blk_cell hr5 1).trans rfl; have g1_ := blk_frozen hr5 1; have y2 : w5.cell? ⟨w1.heap.size, 2, none⟩ = some (.string q) := (blk_cell hb5 2).trans rfl; have u2_ : w5.cell? ⟨w.heap.size, 2, none⟩ = some (.string ⟨#[]⟩) := (blk_cell hr5 2).trans rfl; have g2_ := blk_frozen hr5 2; have y3 : w5.cell? ⟨w1.heap.size, 3, none⟩ = some (.int .i64 0) := (blk_cell hb5 3).trans rfl; have u3_ : w5.cell? ⟨w.heap.size, 3, none⟩ = some (.int .i64 0) := (blk_cell hr5 3).trans rfl; have g3_ := blk_frozen hr5 3; have y4 : w5.cell? ⟨w1.heap.size, 4, none⟩ = some (.string ⟨#[]⟩) := (blk_cell hb5 4).trans rfl; have u4_ : w5.cell? ⟨w.heap.size, 4, none⟩ = some (.string ⟨#[]⟩) := (blk_cell hr5 4).trans rfl; have g4_ := blk_frozen hr5 4; have y5 : w5.cell? ⟨w1.heap.size, 5, none⟩ = some (.int .i64 0) := (blk_cell hb5 5).trans rfl; have u5_ : w5.cell? ⟨w.heap.size, 5, none⟩ = some (.int .i64 0) := (blk_cell hr5 5).trans rfl; have g5_ := blk_frozen hr5 5; have y6 : w5.cell? ⟨w1.heap.size, 6, none⟩ = some (.bool false) := (blk_cell hb5 6).trans rfl; have u6_ : w5.cell? ⟨w.heap.size, 6, none⟩ = some (.bool false) := (blk_cell hr5 6).trans rfl; have g6_ := blk_frozen hr5 6; have y7 : w5.cell? ⟨w1.heap.size, 7, none⟩ = some (.int .i64 0) := (blk_cell hb5 7).trans rfl; have u7_ : w5.cell? ⟨w.heap.size, 7, none⟩ = some (.int .i64 0) := (blk_cell hr5 7).trans rfl; have g7_ := blk_frozen hr5 7; have y8 : w5.cell? ⟨w1.heap.size, 8, none⟩ = some (.int .i64 0) := (blk_cell hb5 8).trans rfl; have u8_ : w5.cell? ⟨w.heap.size, 8, none⟩ = some (.int .i64 0) := (blk_cell hr5 8).trans rfl; have g8_ := blk_frozen hr5 8; have y9 : w5.cell? ⟨w1.heap.size, 9, none⟩ = some (.int .i64 0) := (blk_cell hb5 9).trans rfl; have u9_ : w5.cell? ⟨w.heap.size, 9, none⟩ = some (.int .i64 0) := (blk_cell hr5 9).trans rfl; have g9_ := blk_frozen hr5 9; clear hb5 hr5))
  refine bodyPost_ret (results_ct rfl _ _ w.heap.size 27 _ (0, 0) _ rfl (ord_put w5 w.heap.size 0 ⟨#[]⟩ ⟨#[]⟩ 0 ⟨#[]⟩ 0 false 0 0 0 v p q 0 ⟨#[]⟩ 0 false 0 0 0 _ HR5.out) Tryz.underlying27 rfl (by kernel_rfl)) rfl ?_
  exact ⟨rfl, ord_below w w5 w.heap.size v p q 0 ⟨#[]⟩ 0 false 0 0 0 HB5.out (Nat.le_refl _)⟩
set_option maxRecDepth 100000 in
theorem from_number (A0 : Option Addr) (c0 : Nat) (l0 : List ByteArray) (hl : l0 ≠ []) (w : World) (hT : Aside0 (Tab w)) (hr0 : Kd.C Kd.string w A0 l0.length l0) (hc0 : l0.length ≤ c0) (hm0 : l0.length ≤ 4611686018427387904)
    (v : Int) (r : List ByteArray) (hvv : (verbOf l0).1 = v) (hrr : (verbOf l0).2 = r) (hv0 : v ≠ 0) (lo hi : Int) (hmost : order_most.f v = some (lo, hi)) (hb1 : ¬ (r.length : Int) < lo) (hb2 : ¬ hi < (r.length : Int)) (hnp : order_noProxy.f v = some false) (hv1' : v = 1) (p q : ByteArray) (n : Int) (htp : tickParse q = (n, 0)) (hrp : r = [p, q]) :
    Calls Tryz.prog 9 #[.slice A0 l0.length c0] w fun e w' => e = .returned (.tuple #[.agg (ordC v p ⟨#[]⟩ n ⟨#[]⟩ 0 false 0 0 0), .int .i64 0]) ∧ Below w.heap.size w w' := by
  unfold ordC
  have q0 : ((l0.length : Int) == 0) = false := by rw [beq_eq_false_iff_ne]; intro h; exact hl (List.length_eq_zero_iff.1 (by omega))
  have HC := Lib.hid (fun W (hb : Below w.heap.size w W) => verb_is A0 c0 l0 W ⟨tab_below hT.out hb⟩ (Kd.C_below hr0 hb) hc0 hm0)
  rw [hvv, hrr] at HC
  have hv1 : (v == 0) = false := by rw [beq_eq_false_iff_ne]; exact hv0
  have HM := Lib.hid (fun W => order_most.calls v lo hi W hmost)
  have HN := Lib.hid (fun W => order_noProxy.calls v false W hnp)
  have hq1 : (v == 1) = true := by rw [beq_iff_eq]; exact hv1'
  have HTP := Lib.hid htp
  have HRL := Lib.hid (show r.length = 2 by rw [hrp]; rfl)
  have HRP := Lib.hid hrp
  clear hnp hv1' htp hrp hl hr0 hc0 hm0 hv0 hvv hrr hmost
  have HB0 := Lib.hid (below_alloc (Below.refl w.heap.size w) (.cells #[.int .i64 0, .string ⟨#[]⟩, .string ⟨#[]⟩, .int .i64 0, .string ⟨#[]⟩, .int .i64 0, .bool false, .int .i64 0, .int .i64 0, .int .i64 0] 27))
  have HBK := Lib.hid (alloc_blk w #[.int .i64 0, .string ⟨#[]⟩, .string ⟨#[]⟩, .int .i64 0, .string ⟨#[]⟩, .int .i64 0, .bool false, .int .i64 0, .int .i64 0, .int .i64 0] 27)
  go_enter Tryz.func9, Tryz.ntmps9
  go_wp2_with (first | (go_at_call 22; refine (HC.out _ HB0.out).mono ?_; rintro e w1 ⟨⟨A, c, rfl, hr, hc⟩, hb⟩; have HB1 := Lib.hid (below_step HB0.out hb); have HBK1 := Lib.hid (blk_below HBK.out hb); obtain ⟨ad, ha, hx⟩ := Kd.at_string hr 0 (by omega) (by rw [HRL.out]; omega); cases ha; obtain ⟨A', hcut, hcr, hcl⟩ := cut_from (A := some ad) (n := 1) (l := r) (by rw [HRL.out]; omega) hc; have hcut1 : ∀ W : World, (Instr.slice 22 (.slice (some ad) r.length c) (some (.int .i64 1)) none none).run Tryz.prog W = .ok (.slice A' (r.drop 1).length (c - 1)) W := hcut; have HCR := Lib.hid (hcr _ hr); have HCL := Lib.hid hcl; clear hcr hcl; have hnr : (r.drop 1).length = 1 := (by rw [List.length_drop, HRL.out]); rw [hnr] at hcut1; have HNR := Lib.hid hnr; clear hnr hcut; have hx1 : w1.cell? ad = some (.string p) := (by have h9 := hx; rw [show ad.add (0 : Int).toNat = ad by simp [Addr.add]] at h9; rw [h9, show rdOf ByteArray.empty r 0 = p by rw [HRP.out]; rfl]); have q7 : (0 : Int) < (r.length : Int) := (by rw [HRL.out]; omega); clear hx hr hc hb; have z0 : w1.cell? ⟨w.heap.size, 0, none⟩ = some (.int .i64 0) := (blk_cell HBK1.out 0).trans rfl; have f0 := blk_frozen HBK1.out 0; have z1 : w1.cell? ⟨w.heap.size, 1, none⟩ = some (.string ⟨#[]⟩) := (blk_cell HBK1.out 1).trans rfl; have f1 := blk_frozen HBK1.out 1; have z2 : w1.cell? ⟨w.heap.size, 2, none⟩ = some (.string ⟨#[]⟩) := (blk_cell HBK1.out 2).trans rfl; have f2 := blk_frozen HBK1.out 2; have z3 : w1.cell? ⟨w.heap.size, 3, none⟩ = some (.int .i64 0) := (blk_cell HBK1.out 3).trans rfl; have f3 := blk_frozen HBK1.out 3; have z4 : w1.cell? ⟨w.heap.size, 4, none⟩ = some (.string ⟨#[]⟩) := (blk_cell HBK1.out 4).trans rfl; have f4 := blk_frozen HBK1.out 4; have z5 : w1.cell? ⟨w.heap.size, 5, none⟩ = some (.int .i64 0) := (blk_cell HBK1.out 5).trans rfl; have f5 := blk_frozen HBK1.out 5; have z6 : w1.cell? ⟨w.heap.size, 6, none⟩ = some (.bool false) := (blk_cell HBK1.out 6).trans rfl; have f6 := blk_frozen HBK1.out 6; have z7 : w1.cell? ⟨w.heap.size, 7, none⟩ = some (.int .i64 0) := (blk_cell HBK1.out 7).trans rfl; have f7 := blk_frozen HBK1.out 7; have z8 : w1.cell? ⟨w.heap.size, 8, none⟩ = some (.int .i64 0) := (blk_cell HBK1.out 8).trans rfl; have f8 := blk_frozen HBK1.out 8; have z9 : w1.cell? ⟨w.heap.size, 9, none⟩ = some (.int .i64 0) := (blk_cell HBK1.out 9).trans rfl; have f9 := blk_frozen HBK1.out 9) | (go_at_call 23; refine (HM.out _).mono ?_; rintro e w' ⟨rfl, ⟨nd, rfl⟩⟩) | (go_at_call 24; refine (HN.out _).mono ?_; rintro e w' ⟨rfl, ⟨ne, rfl⟩⟩) | (go_at_call 26; have hbx := alloc_blk (w1.drewN (nd + ne)) (ordC v p ⟨#[]⟩ 0 ⟨#[]⟩ 0 false 0 0 0) 27; have hc4 : Kd.C Kd.string ((w1.drewN (nd + ne)).alloc (.cells (ordC v p ⟨#[]⟩ 0 ⟨#[]⟩ 0 false 0 0 0) 27)) A' (r.drop 1).length (r.drop 1) := Kd.C_alloc (Kd.C_drewN HCR.out _) _; have hq : (r.drop 1).length = 1 := HNR.out; have hd : r.drop 1 = [q] := (by rw [HRP.out]; rfl); rw [hd] at hc4; have hcl4 : [q].length ≤ c - 1 := (by have := HCL.out; rw [hd] at this; exact this); refine (number_is w1.heap.size v p A' (c - 1) [q] (by simp) _ hbx hc4 hcl4 n 0 HTP.out).mono ?_; rintro e w5 ⟨W1, hb6, h6⟩; obtain ⟨-, rfl, hw⟩ := h6.resolve_right (fun hh => hh.1 rfl); have hgl : w.heap.size < w1.heap.size := blk_lt HBK1.out; have hb5 : w5.heap[w1.heap.size]? = some (.cells #[.int .i64 v, .string p, .string ⟨#[]⟩, .int .i64 n, .string ⟨#[]⟩, .int .i64 0, .bool false, .int .i64 0, .int .i64 0, .int .i64 0] 27 (0, 0)) := (by rw [hw]; exact blk_put (cs := ordC v p ⟨#[]⟩ 0 ⟨#[]⟩ 0 false 0 0 0) (blk_below hbx hb6) 3 _ rfl); have hr5 : w5.heap[w.heap.size]? = some (.cells #[.int .i64 0, .string ⟨#[]⟩, .string ⟨#[]⟩, .int .i64 0, .string ⟨#[]⟩, .int .i64 0, .bool false, .int .i64 0, .int .i64 0, .int .i64 0] 27 (0, 0)) := (by rw [hw]; exact blk_far (blk_below (blk_alloc (w := w1.drewN (nd + ne)) (o := .cells _ _) HBK1.out _) hb6) (Nat.ne_of_lt hgl) _); have HR5 := Lib.hid hr5; have HB5 := Lib.hid (show Below w.heap.size w w5 by rw [hw]; refine below_set ?_ (Nat.le_of_lt hgl); refine below_step ?_ hb6; repeat (first | exact HB1.out | apply pw_below_drewN | apply below_alloc)); clear hw hb6 h6 hbx hc4 hq hd hcl4 hgl; have y0 : w5.cell? ⟨w1.heap.size, 0, none⟩ = some (.int .i64 v) := (blk_cell hb5 0).trans rfl; have u0_ : w5.cell? ⟨w.heap.size, 0, none⟩ = some (.int .i64 0) := (blk_cell hr5 0).trans rfl; have g0_ := blk_frozen hr5 0; have y1 : w5.cell? ⟨w1.heap.size, 1, none⟩ = some (.string p) := (blk_cell hb5 1).trans rfl; have u1_ : w5.cell? ⟨w.heap.size, 1, none⟩ = some (.string ⟨#[]⟩) := (blk_cell hr5 1).trans rfl; have g1_ := blk_frozen hr5 1; have y2 : w5.cell? ⟨w1.heap.size, 2, none⟩ = some (.string ⟨#[]⟩) := (blk_cell hb5 2).trans rfl; have u2_ : w5.cell? ⟨w.heap.size, 2, none⟩ = some (.string ⟨#[]⟩) := (blk_cell hr5 2).trans rfl; have g2_ := blk_frozen hr5 2; have y3 : w5.cell? ⟨w1.heap.size, 3, none⟩ = some (.int .i64 n) := (blk_cell hb5 3).trans rfl; have u3_ : w5.cell? ⟨w.heap.size, 3, none⟩ = some (.int .i64 0) := (blk_cell hr5 3).trans rfl; have g3_ := blk_frozen hr5 3; have y4 : w5.cell? ⟨w1.heap.size, 4, none⟩ = some (.string ⟨#[]⟩) := (blk_cell hb5 4).trans rfl; have u4_ : w5.cell? ⟨w.heap.size, 4, none⟩ = some (.string ⟨#[]⟩) := (blk_cell hr5 4).trans rfl; have g4_ := blk_frozen hr5 4; have y5 : w5.cell? ⟨w1.heap.size, 5, none⟩ = some (.int .i64 0) := (blk_cell hb5 5).trans rfl; have u5_ : w5.cell? ⟨w.heap.size, 5, none⟩ = some (.int .i64 0) := (blk_cell hr5 5).trans rfl; have g5_ := blk_frozen hr5 5; have y6 : w5.cell? ⟨w1.heap.size, 6, none⟩ = some (.bool false) := (blk_cell hb5 6).trans rfl; have u6_ : w5.cell? ⟨w.heap.size, 6, none⟩ = some (.bool false) := (blk_cell hr5 6).trans rfl; have g6_ := blk_frozen hr5 6; have y7 : w5.cell? ⟨w1.heap.size, 7, none⟩ = some (.int .i64 0) := (blk_cell hb5 7).trans rfl; have u7_ : w5.cell? ⟨w.heap.size, 7, none⟩ = some (.int .i64 0) := (blk_cell hr5 7).trans rfl; have g7_ := blk_frozen hr5 7; have y8 : w5.cell? ⟨w1.heap.size, 8, none⟩ = some (.int .i64 0) := (blk_cell hb5 8).trans rfl; have u8_ : w5.cell? ⟨w.heap.size, 8, none⟩ = some (.int .i64 0) := (blk_cell hr5 8).trans rfl; have g8_ := blk_frozen hr5 8; have y9 : w5.cell? ⟨w1.heap.size, 9, none⟩ = some (.int .i64 0) := (blk_cell hb5 9).trans rfl; have u9_ : w5.cell? ⟨w.heap.size, 9, none⟩ = some (.int .i64 0) := (blk_cell hr5 9).trans rfl; have g9_ := blk_frozen hr5 9; clear hb5 hr5))
  refine bodyPost_ret (results_ct rfl _ _ w.heap.size 27 _ (0, 0) _ rfl (ord_put w5 w.heap.size 0 ⟨#[]⟩ ⟨#[]⟩ 0 ⟨#[]⟩ 0 false 0 0 0 v p ⟨#[]⟩ n ⟨#[]⟩ 0 false 0 0 0 _ HR5.out) Tryz.underlying27 rfl (by kernel_rfl)) rfl ?_
  exact ⟨rfl, ord_below w w5 w.heap.size v p ⟨#[]⟩ n ⟨#[]⟩ 0 false 0 0 0 HB5.out (Nat.le_refl _)⟩
set_option maxRecDepth 100000 in
theorem from_numbad (A0 : Option Addr) (c0 : Nat) (l0 : List ByteArray) (hl : l0 ≠ []) (w : World) (hT : Aside0 (Tab w)) (hr0 : Kd.C Kd.string w A0 l0.length l0) (hc0 : l0.length ≤ c0) (hm0 : l0.length ≤ 4611686018427387904)
    (v : Int) (r : List ByteArray) (hvv : (verbOf l0).1 = v) (hrr : (verbOf l0).2 = r) (hv0 : v ≠ 0) (lo hi : Int) (hmost : order_most.f v = some (lo, hi)) (hb1 : ¬ (r.length : Int) < lo) (hb2 : ¬ hi < (r.length : Int)) (hnp : order_noProxy.f v = some false) (hv1' : v = 1) (p q : ByteArray) (n er : Int) (htp : tickParse q = (n, er)) (her : er ≠ 0) (hrp : r = [p, q]) :
    Calls Tryz.prog 9 #[.slice A0 l0.length c0] w fun e w' => e = .returned (.tuple #[.agg (ordC 0 ⟨#[]⟩ ⟨#[]⟩ 0 ⟨#[]⟩ 0 false 0 0 0), .int .i64 162]) ∧ Below w.heap.size w w' := by
  unfold ordC
  have q0 : ((l0.length : Int) == 0) = false := by rw [beq_eq_false_iff_ne]; intro h; exact hl (List.length_eq_zero_iff.1 (by omega))
  have HC := Lib.hid (fun W (hb : Below w.heap.size w W) => verb_is A0 c0 l0 W ⟨tab_below hT.out hb⟩ (Kd.C_below hr0 hb) hc0 hm0)
  rw [hvv, hrr] at HC
  have hv1 : (v == 0) = false := by rw [beq_eq_false_iff_ne]; exact hv0
  have HM := Lib.hid (fun W => order_most.calls v lo hi W hmost)
  have HN := Lib.hid (fun W => order_noProxy.calls v false W hnp)
  have hq1 : (v == 1) = true := by rw [beq_iff_eq]; exact hv1'
  have HTP := Lib.hid htp
  have HER := Lib.hid her
  have HRL := Lib.hid (show r.length = 2 by rw [hrp]; rfl)
  have HRP := Lib.hid hrp
  clear hnp hv1' htp her hrp hl hr0 hc0 hm0 hv0 hvv hrr hmost
  have HB0 := Lib.hid (below_alloc (Below.refl w.heap.size w) (.cells #[.int .i64 0, .string ⟨#[]⟩, .string ⟨#[]⟩, .int .i64 0, .string ⟨#[]⟩, .int .i64 0, .bool false, .int .i64 0, .int .i64 0, .int .i64 0] 27))
  have HBK := Lib.hid (alloc_blk w #[.int .i64 0, .string ⟨#[]⟩, .string ⟨#[]⟩, .int .i64 0, .string ⟨#[]⟩, .int .i64 0, .bool false, .int .i64 0, .int .i64 0, .int .i64 0] 27)
  go_enter Tryz.func9, Tryz.ntmps9
  go_wp2_with (first | (go_at_call 22; refine (HC.out _ HB0.out).mono ?_; rintro e w1 ⟨⟨A, c, rfl, hr, hc⟩, hb⟩; have HB1 := Lib.hid (below_step HB0.out hb); have HBK1 := Lib.hid (blk_below HBK.out hb); obtain ⟨ad, ha, hx⟩ := Kd.at_string hr 0 (by omega) (by rw [HRL.out]; omega); cases ha; obtain ⟨A', hcut, hcr, hcl⟩ := cut_from (A := some ad) (n := 1) (l := r) (by rw [HRL.out]; omega) hc; have hcut1 : ∀ W : World, (Instr.slice 22 (.slice (some ad) r.length c) (some (.int .i64 1)) none none).run Tryz.prog W = .ok (.slice A' (r.drop 1).length (c - 1)) W := hcut; have HCR := Lib.hid (hcr _ hr); have HCL := Lib.hid hcl; clear hcr hcl; have hnr : (r.drop 1).length = 1 := (by rw [List.length_drop, HRL.out]); rw [hnr] at hcut1; have HNR := Lib.hid hnr; clear hnr hcut; have hx1 : w1.cell? ad = some (.string p) := (by have h9 := hx; rw [show ad.add (0 : Int).toNat = ad by simp [Addr.add]] at h9; rw [h9, show rdOf ByteArray.empty r 0 = p by rw [HRP.out]; rfl]); have q7 : (0 : Int) < (r.length : Int) := (by rw [HRL.out]; omega); clear hx hr hc hb; have z0 : w1.cell? ⟨w.heap.size, 0, none⟩ = some (.int .i64 0) := (blk_cell HBK1.out 0).trans rfl; have f0 := blk_frozen HBK1.out 0; have z1 : w1.cell? ⟨w.heap.size, 1, none⟩ = some (.string ⟨#[]⟩) := (blk_cell HBK1.out 1).trans rfl; have f1 := blk_frozen HBK1.out 1; have z2 : w1.cell? ⟨w.heap.size, 2, none⟩ = some (.string ⟨#[]⟩) := (blk_cell HBK1.out 2).trans rfl; have f2 := blk_frozen HBK1.out 2; have z3 : w1.cell? ⟨w.heap.size, 3, none⟩ = some (.int .i64 0) := (blk_cell HBK1.out 3).trans rfl; have f3 := blk_frozen HBK1.out 3; have z4 : w1.cell? ⟨w.heap.size, 4, none⟩ = some (.string ⟨#[]⟩) := (blk_cell HBK1.out 4).trans rfl; have f4 := blk_frozen HBK1.out 4; have z5 : w1.cell? ⟨w.heap.size, 5, none⟩ = some (.int .i64 0) := (blk_cell HBK1.out 5).trans rfl; have f5 := blk_frozen HBK1.out 5; have z6 : w1.cell? ⟨w.heap.size, 6, none⟩ = some (.bool false) := (blk_cell HBK1.out 6).trans rfl; have f6 := blk_frozen HBK1.out 6; have z7 : w1.cell? ⟨w.heap.size, 7, none⟩ = some (.int .i64 0) := (blk_cell HBK1.out 7).trans rfl; have f7 := blk_frozen HBK1.out 7; have z8 : w1.cell? ⟨w.heap.size, 8, none⟩ = some (.int .i64 0) := (blk_cell HBK1.out 8).trans rfl; have f8 := blk_frozen HBK1.out 8; have z9 : w1.cell? ⟨w.heap.size, 9, none⟩ = some (.int .i64 0) := (blk_cell HBK1.out 9).trans rfl; have f9 := blk_frozen HBK1.out 9) | (go_at_call 23; refine (HM.out _).mono ?_; rintro e w' ⟨rfl, ⟨nd, rfl⟩⟩) | (go_at_call 24; refine (HN.out _).mono ?_; rintro e w' ⟨rfl, ⟨ne, rfl⟩⟩) | (go_at_call 26; have hbx := alloc_blk (w1.drewN (nd + ne)) (ordC v p ⟨#[]⟩ 0 ⟨#[]⟩ 0 false 0 0 0) 27; have hc4 : Kd.C Kd.string ((w1.drewN (nd + ne)).alloc (.cells (ordC v p ⟨#[]⟩ 0 ⟨#[]⟩ 0 false 0 0 0) 27)) A' (r.drop 1).length (r.drop 1) := Kd.C_alloc (Kd.C_drewN HCR.out _) _; have hq : (r.drop 1).length = 1 := HNR.out; have hd : r.drop 1 = [q] := (by rw [HRP.out]; rfl); rw [hd] at hc4; have hcl4 : [q].length ≤ c - 1 := (by have := HCL.out; rw [hd] at this; exact this); refine (number_is w1.heap.size v p A' (c - 1) [q] (by simp) _ hbx hc4 hcl4 n er HTP.out).mono ?_; rintro e w5 ⟨W1, hb6, h6⟩; obtain ⟨-, rfl, hw⟩ := h6.resolve_left (fun hh => HER.out hh.1); have hgl : w.heap.size < w1.heap.size := blk_lt HBK1.out; have hr5 : w5.heap[w.heap.size]? = some (.cells #[.int .i64 0, .string ⟨#[]⟩, .string ⟨#[]⟩, .int .i64 0, .string ⟨#[]⟩, .int .i64 0, .bool false, .int .i64 0, .int .i64 0, .int .i64 0] 27 (0, 0)) := (by rw [hw]; exact blk_below (blk_alloc (w := w1.drewN (nd + ne)) (o := .cells _ _) HBK1.out _) hb6); have HR5 := Lib.hid hr5; have HB5 := Lib.hid (show Below w.heap.size w w5 by rw [hw]; refine below_step ?_ hb6; repeat (first | exact HB1.out | apply pw_below_drewN | apply below_alloc)); clear hw hb6 h6 hbx hc4 hq hd hcl4 hgl; have u0_ : w5.cell? ⟨w.heap.size, 0, none⟩ = some (.int .i64 0) := (blk_cell hr5 0).trans rfl; have g0_ := blk_frozen hr5 0; have u1_ : w5.cell? ⟨w.heap.size, 1, none⟩ = some (.string ⟨#[]⟩) := (blk_cell hr5 1).trans rfl; have g1_ := blk_frozen hr5 1; have u2_ : w5.cell? ⟨w.heap.size, 2, none⟩ = some (.string ⟨#[]⟩) := (blk_cell hr5 2).trans rfl; have g2_ := blk_frozen hr5 2; have u3_ : w5.cell? ⟨w.heap.size, 3, none⟩ = some (.int .i64 0) := (blk_cell hr5 3).trans rfl; have g3_ := blk_frozen hr5 3; have u4_ : w5.cell? ⟨w.heap.size, 4, none⟩ = some (.string ⟨#[]⟩) := (blk_cell hr5 4).trans rfl; have g4_ := blk_frozen hr5 4; have u5_ : w5.cell? ⟨w.heap.size, 5, none⟩ = some (.int .i64 0) := (blk_cell hr5 5).trans rfl; have g5_ := blk_frozen hr5 5; have u6_ : w5.cell? ⟨w.heap.size, 6, none⟩ = some (.bool false) := (blk_cell hr5 6).trans rfl; have g6_ := blk_frozen hr5 6; have u7_ : w5.cell? ⟨w.heap.size, 7, none⟩ = some (.int .i64 0) := (blk_cell hr5 7).trans rfl; have g7_ := blk_frozen hr5 7; have u8_ : w5.cell? ⟨w.heap.size, 8, none⟩ = some (.int .i64 0) := (blk_cell hr5 8).trans rfl; have g8_ := blk_frozen hr5 8; have u9_ : w5.cell? ⟨w.heap.size, 9, none⟩ = some (.int .i64 0) := (blk_cell hr5 9).trans rfl; have g9_ := blk_frozen hr5 9; clear hr5))
  refine bodyPost_ret (results_ct rfl _ _ w.heap.size 27 _ (0, 0) _ rfl (ord_put w5 w.heap.size 0 ⟨#[]⟩ ⟨#[]⟩ 0 ⟨#[]⟩ 0 false 0 0 0 0 ⟨#[]⟩ ⟨#[]⟩ 0 ⟨#[]⟩ 0 false 0 0 0 _ HR5.out) Tryz.underlying27 rfl (by kernel_rfl)) rfl ?_
  exact ⟨rfl, ord_below w w5 w.heap.size 0 ⟨#[]⟩ ⟨#[]⟩ 0 ⟨#[]⟩ 0 false 0 0 0 HB5.out (Nat.le_refl _)⟩
end Go.Proofs.YtlglbpjccpdloaaGreatDoor.Ext
namespace Go.Proofs.YtlglbpjccpdloaaGreatDoor.PToxR
open Go.Proofs.YtlglbpjccpdloaaGreatDoor.Ext Go.RowKit Go.Proofs.YtlglbpjccpdloaaGreatDoorW.PrintWords Go.Proofs.YtlglbpjccpdloaaGreatDoorW.PrintLast Go.Proofs.YtlglbpjccpdloaaGreatDoorW.PrintMore
attribute [local go_sem] max2_int min2_int max_two min_two max_three min_three max_four min_four   -- for this text's walks alone
set_option linter.unusedVariables false
set_option linter.unusedSimpArgs false
def errW : Option Int → Value
 | none => .nilIface
 | some c => .iface 0 (.int .i64 c)
theorem errW_none : errW none = .nilIface := rfl
theorem errW_some (c : Int) : errW (some c) = .iface 0 (.int .i64 c) := rfl
end Go.Proofs.YtlglbpjccpdloaaGreatDoor.PToxR
namespace Go.Proofs.YtlglbpjccpdloaaGreatDoor.PToxR
open Go.Proofs.YtlglbpjccpdloaaGreatDoor.Ext Go.RowKit Go.Proofs.YtlglbpjccpdloaaGreatDoorW.PrintWords Go.Proofs.YtlglbpjccpdloaaGreatDoorW.PrintLast Go.Proofs.YtlglbpjccpdloaaGreatDoorW.PrintMore
attribute [local go_sem] max2_int min2_int max_two min_two max_three min_three max_four min_four   -- for this text's walks alone
set_option linter.unusedVariables false
set_option linter.unusedSimpArgs false
def chicaneref09_Name.l0 : Nat → ByteArray → Int → Option (Bool)
 | 0, _, _ => none
 | k + 1, x0, x3 => if x3 < (x0.size : Int) then (if 0 ≤ x3 then (if (bt x0 x3) ≥ 97 then (if (bt x0 x3) ≥ 48 then (if ((bt x0 x3) ≤ 122) then (chicaneref09_Name.l0 k x0 (wrap64 (x3 + 1))) else (if ((bt x0 x3) ≤ 57) then (chicaneref09_Name.l0 k x0 (wrap64 (x3 + 1))) else (if (bt x0 x3) = 95 then (chicaneref09_Name.l0 k x0 (wrap64 (x3 + 1))) else (if (bt x0 x3) = 45 then (chicaneref09_Name.l0 k x0 (wrap64 (x3 + 1))) else (some false))))) else (if ((bt x0 x3) ≤ 122) then (chicaneref09_Name.l0 k x0 (wrap64 (x3 + 1))) else (if (bt x0 x3) = 95 then (chicaneref09_Name.l0 k x0 (wrap64 (x3 + 1))) else (if (bt x0 x3) = 45 then (chicaneref09_Name.l0 k x0 (wrap64 (x3 + 1))) else (some false))))) else (if (bt x0 x3) ≥ 48 then (if ((bt x0 x3) ≤ 57) then (chicaneref09_Name.l0 k x0 (wrap64 (x3 + 1))) else (if (bt x0 x3) = 95 then (chicaneref09_Name.l0 k x0 (wrap64 (x3 + 1))) else (if (bt x0 x3) = 45 then (chicaneref09_Name.l0 k x0 (wrap64 (x3 + 1))) else (some false)))) else (if (bt x0 x3) = 95 then (chicaneref09_Name.l0 k x0 (wrap64 (x3 + 1))) else (if (bt x0 x3) = 45 then (chicaneref09_Name.l0 k x0 (wrap64 (x3 + 1))) else (some false))))) else (none)) else (if (x0.size : Int) > 0 then (some (decide ((x0.size : Int) ≤ 16))) else (some false))
def chicaneref09_Name.f (k : Nat) (a0 : ByteArray) : Option (Bool) := chicaneref09_Name.l0 k a0 0
theorem chicaneref09_Name.mono_l : ∀ k, (∀ y0 y1, LeO (chicaneref09_Name.l0 k y0 y1) (chicaneref09_Name.l0 (k + 1) y0 y1))
 | 0 => fun _ _ r h => by simp [chicaneref09_Name.l0] at h
 | k + 1 => by
  have ih0 := chicaneref09_Name.mono_l k
  ·intro y0 y1
   unfold chicaneref09_Name.l0
   repeat' first
   | (with_reducible exact ih0 _ _)
   | (with_reducible exact LeO.refl _)
   | (with_reducible exact LeO.none _)
   | (with_reducible refine LeO.ite ?_ ?_)
   | (with_reducible refine LeO.bind ?_ (fun _ => ?_))
   | exact ih0 _ _
   | exact LeO.none _
   | refine LeO.ite ?_ ?_
   | refine LeO.bind ?_ (fun _ => ?_)
theorem chicaneref09_Name.mono : ∀ a0 k, LeO (chicaneref09_Name.f k a0) (chicaneref09_Name.f (k + 1) a0) := by
 intro a0 k
 have ih0 := chicaneref09_Name.mono_l k
 unfold chicaneref09_Name.f
 repeat' first
   | (with_reducible exact ih0 _ _)
   | (with_reducible exact LeO.refl _)
   | (with_reducible exact LeO.none _)
   | (with_reducible refine LeO.ite ?_ ?_)
   | (with_reducible refine LeO.bind ?_ (fun _ => ?_))
   | exact ih0 _ _
   | exact LeO.none _
   | refine LeO.ite ?_ ?_
   | refine LeO.bind ?_ (fun _ => ?_)
def chicaneref01_Top.f  : Option (Int) := some 1099511627776
def chicaneref01_Near.f (a0 : Int) : Option (Int) := if a0 < 0 then (some 0) else ((chicaneref01_Top.f).bind fun t101 => (if a0 > t101 then ((chicaneref01_Top.f).bind fun t102 => (some t102)) else (some a0)))
def chicaneref09_right.f (a0 : Int) : Option (Bool) := (chicaneref01_Near.f a0).bind fun t103 => (some (t103 == a0))
def chicaneref09_numbers.j0 : Nat → Bool → ByteArray → Int → Bool → Int → Int → Int → Option (Bool)
 | 0, _, _, _, _, _, _, _ => none
 | k + 1, x12, x105000, x105001, x105002, x105003, x105004, x105005 => if x12 = true then (some false) else (if x105001 = 1 then (some (decide (x105005 ≤ x105004))) else (if x105001 = 2 then (if x105005 ≥ 1 then (some (decide (x105005 ≤ 4096))) else (some false)) else (if x105001 = 3 then (if x105004 ≥ 1 then (some (decide (x105004 ≤ 4096))) else (some false)) else (if x105001 = 4 then (if x105004 > 0 then (some (x105005 == 0)) else (some false)) else (if x105001 = 5 then (if x105004 > 0 then (some (x105005 == 0)) else (some false)) else (some (x105005 == 0)))))))
def chicaneref09_numbers.f (k : Nat) (a0_0 : ByteArray) (a0_1 : Int) (a0_2 : Bool) (a0_3 : Int) (a0_4 : Int) (a0_5 : Int) : Option (Bool) := (chicaneref09_right.f a0_4).bind fun t105 => (if t105 = true then ((chicaneref09_right.f a0_5).bind fun t106 => (chicaneref09_numbers.j0 k (!t106) a0_0 a0_1 a0_2 a0_3 a0_4 a0_5)) else (chicaneref09_numbers.j0 k true a0_0 a0_1 a0_2 a0_3 a0_4 a0_5))
theorem chicaneref09_numbers.mono_l : ∀ k, (∀ y0 y1 y2 y3 y4 y5 y6, LeO (chicaneref09_numbers.j0 k y0 y1 y2 y3 y4 y5 y6) (chicaneref09_numbers.j0 (k + 1) y0 y1 y2 y3 y4 y5 y6))
 | 0 => fun _ _ _ _ _ _ _ r h => by simp [chicaneref09_numbers.j0] at h
 | k + 1 => by
  have ih0 := chicaneref09_numbers.mono_l k
  ·intro y0 y1 y2 y3 y4 y5 y6
   unfold chicaneref09_numbers.j0
   repeat' first
   | (with_reducible exact ih0 _ _ _ _ _ _ _)
   | (with_reducible exact LeO.refl _)
   | (with_reducible exact LeO.none _)
   | (with_reducible refine LeO.ite ?_ ?_)
   | (with_reducible refine LeO.bind ?_ (fun _ => ?_))
   | exact ih0 _ _ _ _ _ _ _
   | exact LeO.none _
   | refine LeO.ite ?_ ?_
   | refine LeO.bind ?_ (fun _ => ?_)
theorem chicaneref09_numbers.mono : ∀ a0 a1 a2 a3 a4 a5 k, LeO (chicaneref09_numbers.f k a0 a1 a2 a3 a4 a5) (chicaneref09_numbers.f (k + 1) a0 a1 a2 a3 a4 a5) := by
 intro a0 a1 a2 a3 a4 a5 k
 have ih0 := chicaneref09_numbers.mono_l k
 unfold chicaneref09_numbers.f
 repeat' first
   | (with_reducible exact ih0 _ _ _ _ _ _ _)
   | (with_reducible exact LeO.refl _)
   | (with_reducible exact LeO.none _)
   | (with_reducible refine LeO.ite ?_ ?_)
   | (with_reducible refine LeO.bind ?_ (fun _ => ?_))
   | exact ih0 _ _ _ _ _ _ _
   | exact LeO.none _
   | refine LeO.ite ?_ ?_
   | refine LeO.bind ?_ (fun _ => ?_)
end Go.Proofs.YtlglbpjccpdloaaGreatDoor.PToxR
namespace Go.Proofs.YtlglbpjccpdloaaGreatDoor.PToxR
open Go.Proofs.YtlglbpjccpdloaaGreatDoor.Ext Go.RowKit Go.Proofs.YtlglbpjccpdloaaGreatDoorW.PrintWords Go.Proofs.YtlglbpjccpdloaaGreatDoorW.PrintLast Go.Proofs.YtlglbpjccpdloaaGreatDoorW.PrintMore
attribute [local go_sem] max2_int min2_int max_two min_two max_three min_three max_four min_four   -- for this text's walks alone
set_option linter.unusedVariables false
set_option linter.unusedSimpArgs false
def chicaneref09_Check.j0 : Nat → Bool → ByteArray → Int → Bool → Int → Int → Int → Option (Int)
 | 0, _, _, _, _, _, _, _ => none
 | k + 1, x14, x108000, x108001, x108002, x108003, x108004, x108005 => if x14 = true then (some 91) else (if x108003 < 0 then (some 92) else (if x108003 > 100 then (some 92) else ((chicaneref09_numbers.f k x108000 x108001 x108002 x108003 x108004 x108005).bind fun t109 => (if t109 = true then (some 0) else (some 92)))))
def chicaneref09_Check.f (k : Nat) (a0_0 : ByteArray) (a0_1 : Int) (a0_2 : Bool) (a0_3 : Int) (a0_4 : Int) (a0_5 : Int) : Option (Int) := (chicaneref09_Name.f k a0_0).bind fun t108 => (if t108 = true then (if a0_1 < 1 then (chicaneref09_Check.j0 k true a0_0 a0_1 a0_2 a0_3 a0_4 a0_5) else (chicaneref09_Check.j0 k (decide (a0_1 > 7)) a0_0 a0_1 a0_2 a0_3 a0_4 a0_5)) else (some 90))
theorem chicaneref09_Check.mono_l : ∀ k, (∀ y0 y1 y2 y3 y4 y5 y6, LeO (chicaneref09_Check.j0 k y0 y1 y2 y3 y4 y5 y6) (chicaneref09_Check.j0 (k + 1) y0 y1 y2 y3 y4 y5 y6))
 | 0 => fun _ _ _ _ _ _ _ r h => by simp [chicaneref09_Check.j0] at h
 | k + 1 => by
  have ih0 := chicaneref09_Check.mono_l k
  ·intro y0 y1 y2 y3 y4 y5 y6
   unfold chicaneref09_Check.j0
   repeat' first
   | (with_reducible exact ih0 _ _ _ _ _ _ _)
   | (with_reducible exact chicaneref09_Name.mono _ _)
   | (with_reducible exact chicaneref09_numbers.mono _ _ _ _ _ _ _)
   | (with_reducible exact LeO.refl _)
   | (with_reducible exact LeO.none _)
   | (with_reducible refine LeO.ite ?_ ?_)
   | (with_reducible refine LeO.bind ?_ (fun _ => ?_))
   | exact ih0 _ _ _ _ _ _ _
   | exact chicaneref09_Name.mono _ _
   | exact chicaneref09_numbers.mono _ _ _ _ _ _ _
   | exact LeO.none _
   | refine LeO.ite ?_ ?_
   | refine LeO.bind ?_ (fun _ => ?_)
theorem chicaneref09_Check.mono : ∀ a0 a1 a2 a3 a4 a5 k, LeO (chicaneref09_Check.f k a0 a1 a2 a3 a4 a5) (chicaneref09_Check.f (k + 1) a0 a1 a2 a3 a4 a5) := by
 intro a0 a1 a2 a3 a4 a5 k
 have ih0 := chicaneref09_Check.mono_l k
 unfold chicaneref09_Check.f
 repeat' first
   | (with_reducible exact ih0 _ _ _ _ _ _ _)
   | (with_reducible exact chicaneref09_Name.mono _ _)
   | (with_reducible exact chicaneref09_numbers.mono _ _ _ _ _ _ _)
   | (with_reducible exact LeO.refl _)
   | (with_reducible exact LeO.none _)
   | (with_reducible refine LeO.ite ?_ ?_)
   | (with_reducible refine LeO.bind ?_ (fun _ => ?_))
   | exact ih0 _ _ _ _ _ _ _
   | exact chicaneref09_Name.mono _ _
   | exact chicaneref09_numbers.mono _ _ _ _ _ _ _
   | exact LeO.none _
   | refine LeO.ite ?_ ?_
   | refine LeO.bind ?_ (fun _ => ?_)
def chicaneref09_Word.f (a0 : Int) : Option (ByteArray) := if a0 = 1 then (some (⟨#[108, 97, 116, 101, 110, 99, 121]⟩ : ByteArray)) else (if a0 = 2 then (some (⟨#[98, 97, 110, 100, 119, 105, 100, 116, 104]⟩ : ByteArray)) else (if a0 = 3 then (some (⟨#[115, 108, 105, 99, 101, 114]⟩ : ByteArray)) else (if a0 = 4 then (some (⟨#[116, 105, 109, 101, 111, 117, 116]⟩ : ByteArray)) else (if a0 = 5 then (some (⟨#[114, 101, 115, 101, 116, 95, 112, 101, 101, 114]⟩ : ByteArray)) else (if a0 = 6 then (some (⟨#[108, 105, 109, 105, 116, 95, 100, 97, 116, 97]⟩ : ByteArray)) else (if a0 = 7 then (some (⟨#[115, 108, 111, 119, 95, 99, 108, 111, 115, 101]⟩ : ByteArray)) else (some (⟨#[]⟩ : ByteArray))))))))
def chicaneref01_Text.l0 : Nat → Int → ByteArray → Option (ByteArray)
 | 0, _, _ => none
 | k + 1, x0, x3 => if x0 > 0 then (if 0 ≤ (Int.tmod x0 10) then (if (Int.tmod x0 10) ≤ (wrap64 ((Int.tmod x0 10) + 1)) then (if (wrap64 ((Int.tmod x0 10) + 1)) ≤ 10 then (if ((⟨#[48, 49, 50, 51, 52, 53, 54, 55, 56, 57]⟩ : ByteArray).extract ((Int.tmod x0 10) : Int).toNat ((wrap64 ((Int.tmod x0 10) + 1)) : Int).toNat).size + x3.size ≤ 9223372036854775807 then (chicaneref01_Text.l0 k (wrap64 (Int.tdiv x0 10)) (((⟨#[48, 49, 50, 51, 52, 53, 54, 55, 56, 57]⟩ : ByteArray).extract ((Int.tmod x0 10) : Int).toNat ((wrap64 ((Int.tmod x0 10) + 1)) : Int).toNat) ++ x3)) else (none)) else (none)) else (none)) else (none)) else (if x3.toList = ([] : List UInt8) then (if 0 ≤ (Int.tmod x0 10) then (if (Int.tmod x0 10) ≤ (wrap64 ((Int.tmod x0 10) + 1)) then (if (wrap64 ((Int.tmod x0 10) + 1)) ≤ 10 then (if ((⟨#[48, 49, 50, 51, 52, 53, 54, 55, 56, 57]⟩ : ByteArray).extract ((Int.tmod x0 10) : Int).toNat ((wrap64 ((Int.tmod x0 10) + 1)) : Int).toNat).size + x3.size ≤ 9223372036854775807 then (chicaneref01_Text.l0 k (wrap64 (Int.tdiv x0 10)) (((⟨#[48, 49, 50, 51, 52, 53, 54, 55, 56, 57]⟩ : ByteArray).extract ((Int.tmod x0 10) : Int).toNat ((wrap64 ((Int.tmod x0 10) + 1)) : Int).toNat) ++ x3)) else (none)) else (none)) else (none)) else (none)) else (some x3))
def chicaneref01_Text.f (k : Nat) (a0 : Int) : Option (ByteArray) := (chicaneref01_Near.f a0).bind fun t110 => (chicaneref01_Text.l0 k t110 (⟨#[]⟩ : ByteArray))
theorem chicaneref01_Text.mono_l : ∀ k, (∀ y0 y1, LeO (chicaneref01_Text.l0 k y0 y1) (chicaneref01_Text.l0 (k + 1) y0 y1))
 | 0 => fun _ _ r h => by simp [chicaneref01_Text.l0] at h
 | k + 1 => by
  have ih0 := chicaneref01_Text.mono_l k
  ·intro y0 y1
   unfold chicaneref01_Text.l0
   repeat' first
   | (with_reducible exact ih0 _ _)
   | (with_reducible exact LeO.refl _)
   | (with_reducible exact LeO.none _)
   | (with_reducible refine LeO.ite ?_ ?_)
   | (with_reducible refine LeO.bind ?_ (fun _ => ?_))
   | exact ih0 _ _
   | exact LeO.none _
   | refine LeO.ite ?_ ?_
   | refine LeO.bind ?_ (fun _ => ?_)
theorem chicaneref01_Text.mono : ∀ a0 k, LeO (chicaneref01_Text.f k a0) (chicaneref01_Text.f (k + 1) a0) := by
 intro a0 k
 have ih0 := chicaneref01_Text.mono_l k
 unfold chicaneref01_Text.f
 repeat' first
   | (with_reducible exact ih0 _ _)
   | (with_reducible exact LeO.refl _)
   | (with_reducible exact LeO.none _)
   | (with_reducible refine LeO.ite ?_ ?_)
   | (with_reducible refine LeO.bind ?_ (fun _ => ?_))
   | exact ih0 _ _
   | exact LeO.none _
   | refine LeO.ite ?_ ?_
   | refine LeO.bind ?_ (fun _ => ?_)
def chicaneref09_Kind.l0 : Nat → ByteArray → Int → Option (Int)
 | 0, _, _ => none
 | k + 1, x0, x3 => if x3 ≤ 7 then ((chicaneref09_Word.f x3).bind fun t111 => (if t111.toList = x0.toList then (some x3) else (chicaneref09_Kind.l0 k x0 (wrap64 (x3 + 1))))) else (some 0)
def chicaneref09_Kind.f (k : Nat) (a0 : ByteArray) : Option (Int) := chicaneref09_Kind.l0 k a0 1
theorem chicaneref09_Kind.mono_l : ∀ k, (∀ y0 y1, LeO (chicaneref09_Kind.l0 k y0 y1) (chicaneref09_Kind.l0 (k + 1) y0 y1))
 | 0 => fun _ _ r h => by simp [chicaneref09_Kind.l0] at h
 | k + 1 => by
  have ih0 := chicaneref09_Kind.mono_l k
  ·intro y0 y1
   unfold chicaneref09_Kind.l0
   repeat' first
   | (with_reducible exact ih0 _ _)
   | (with_reducible exact LeO.refl _)
   | (with_reducible exact LeO.none _)
   | (with_reducible refine LeO.ite ?_ ?_)
   | (with_reducible refine LeO.bind ?_ (fun _ => ?_))
   | exact ih0 _ _
   | exact LeO.none _
   | refine LeO.ite ?_ ?_
   | refine LeO.bind ?_ (fun _ => ?_)
theorem chicaneref09_Kind.mono : ∀ a0 k, LeO (chicaneref09_Kind.f k a0) (chicaneref09_Kind.f (k + 1) a0) := by
 intro a0 k
 have ih0 := chicaneref09_Kind.mono_l k
 unfold chicaneref09_Kind.f
 repeat' first
   | (with_reducible exact ih0 _ _)
   | (with_reducible exact LeO.refl _)
   | (with_reducible exact LeO.none _)
   | (with_reducible refine LeO.ite ?_ ?_)
   | (with_reducible refine LeO.bind ?_ (fun _ => ?_))
   | exact ih0 _ _
   | exact LeO.none _
   | refine LeO.ite ?_ ?_
   | refine LeO.bind ?_ (fun _ => ?_)
def chicaneref09_Numbers.j0 : Nat → Int → Bool → Option (Int)
 | 0, _, _ => none
 | k + 1, x0, x8 => if x8 = true then (some 0) else (if x0 ≤ 3 then (some 2) else (some 1))
def chicaneref09_Numbers.f (k : Nat) (a0 : Int) : Option (Int) := if a0 < 1 then (chicaneref09_Numbers.j0 k a0 true) else (chicaneref09_Numbers.j0 k a0 (decide (a0 > 7)))
theorem chicaneref09_Numbers.mono_l : ∀ k, (∀ y0 y1, LeO (chicaneref09_Numbers.j0 k y0 y1) (chicaneref09_Numbers.j0 (k + 1) y0 y1))
 | 0 => fun _ _ r h => by simp [chicaneref09_Numbers.j0] at h
 | k + 1 => by
  have ih0 := chicaneref09_Numbers.mono_l k
  ·intro y0 y1
   unfold chicaneref09_Numbers.j0
   repeat' first
   | (with_reducible exact ih0 _ _)
   | (with_reducible exact LeO.refl _)
   | (with_reducible exact LeO.none _)
   | (with_reducible refine LeO.ite ?_ ?_)
   | (with_reducible refine LeO.bind ?_ (fun _ => ?_))
   | exact ih0 _ _
   | exact LeO.none _
   | refine LeO.ite ?_ ?_
   | refine LeO.bind ?_ (fun _ => ?_)
theorem chicaneref09_Numbers.mono : ∀ a0 k, LeO (chicaneref09_Numbers.f k a0) (chicaneref09_Numbers.f (k + 1) a0) := by
 intro a0 k
 have ih0 := chicaneref09_Numbers.mono_l k
 unfold chicaneref09_Numbers.f
 repeat' first
   | (with_reducible exact ih0 _ _)
   | (with_reducible exact LeO.refl _)
   | (with_reducible exact LeO.none _)
   | (with_reducible refine LeO.ite ?_ ?_)
   | (with_reducible refine LeO.bind ?_ (fun _ => ?_))
   | exact ih0 _ _
   | exact LeO.none _
   | refine LeO.ite ?_ ?_
   | refine LeO.bind ?_ (fun _ => ?_)
end Go.Proofs.YtlglbpjccpdloaaGreatDoor.PToxR
namespace Go.Proofs.YtlglbpjccpdloaaGreatDoor.PToxR
open Go.Proofs.YtlglbpjccpdloaaGreatDoor.Ext Go.RowKit Go.Proofs.YtlglbpjccpdloaaGreatDoorW.PrintWords Go.Proofs.YtlglbpjccpdloaaGreatDoorW.PrintLast Go.Proofs.YtlglbpjccpdloaaGreatDoorW.PrintMore
attribute [local go_sem] max2_int min2_int max_two min_two max_three min_three max_four min_four   -- for this text's walks alone
set_option linter.unusedVariables false
set_option linter.unusedSimpArgs false
mutual
def chicaneref01_Parse.l0 : Nat → ByteArray → Int → Int → Option (Int × Int)
 | 0, _, _, _ => none
 | k + 1, x0, x4, x5 => if x5 < (x0.size : Int) then (chicaneref01_Parse.j1 k x0 x4 x5 (decide (x5 < 14))) else (chicaneref01_Parse.j1 k x0 x4 x5 false)
def chicaneref01_Parse.j1 : Nat → ByteArray → Int → Int → Bool → Option (Int × Int)
 | 0, _, _, _, _ => none
 | k + 1, x0, x4, x5, x13 => if x13 = true then (if 0 ≤ x5 then (if x5 < (x0.size : Int) then (if (bt x0 x5) ≥ 48 then (if (bt x0 x5) ≤ 57 then (chicaneref01_Parse.l0 k x0 (wrap64 ((wrap64 ((wrap64 (x4 * 10)) + (wrap64 (bt x0 x5)))) - 48)) (wrap64 (x5 + 1))) else (chicaneref01_Parse.l0 k x0 x4 (wrap64 (x5 + 1)))) else (chicaneref01_Parse.l0 k x0 x4 (wrap64 (x5 + 1)))) else (none)) else (none)) else ((chicaneref01_Top.f).bind fun t112 => (if x4 > t112 then (some (0, 10)) else ((chicaneref01_Text.f k x4).bind fun t113 => (if t113.toList = x0.toList then (some (x4, 0)) else (some (0, 10))))))
end
def chicaneref01_Parse.f (k : Nat) (a0 : ByteArray) : Option (Int × Int) := chicaneref01_Parse.l0 k a0 0 0
theorem chicaneref01_Parse.mono_l : ∀ k, (∀ y0 y1 y2, LeO (chicaneref01_Parse.l0 k y0 y1 y2) (chicaneref01_Parse.l0 (k + 1) y0 y1 y2)) ∧ (∀ y0 y1 y2 y3, LeO (chicaneref01_Parse.j1 k y0 y1 y2 y3) (chicaneref01_Parse.j1 (k + 1) y0 y1 y2 y3))
 | 0 => ⟨fun _ _ _ r h => by simp [chicaneref01_Parse.l0] at h, fun _ _ _ _ r h => by simp [chicaneref01_Parse.j1] at h⟩
 | k + 1 => by
  obtain ⟨ih0, ih1⟩ := chicaneref01_Parse.mono_l k
  refine ⟨?_, ?_⟩
  ·intro y0 y1 y2
   unfold chicaneref01_Parse.l0
   repeat' first
   | (with_reducible exact ih0 _ _ _)
   | (with_reducible exact ih1 _ _ _ _)
   | (with_reducible exact chicaneref01_Text.mono _ _)
   | (with_reducible exact LeO.refl _)
   | (with_reducible exact LeO.none _)
   | (with_reducible refine LeO.ite ?_ ?_)
   | (with_reducible refine LeO.bind ?_ (fun _ => ?_))
   | exact ih0 _ _ _
   | exact ih1 _ _ _ _
   | exact chicaneref01_Text.mono _ _
   | exact LeO.none _
   | refine LeO.ite ?_ ?_
   | refine LeO.bind ?_ (fun _ => ?_)
  ·intro y0 y1 y2 y3
   unfold chicaneref01_Parse.j1
   repeat' first
   | (with_reducible exact ih0 _ _ _)
   | (with_reducible exact ih1 _ _ _ _)
   | (with_reducible exact chicaneref01_Text.mono _ _)
   | (with_reducible exact LeO.refl _)
   | (with_reducible exact LeO.none _)
   | (with_reducible refine LeO.ite ?_ ?_)
   | (with_reducible refine LeO.bind ?_ (fun _ => ?_))
   | exact ih0 _ _ _
   | exact ih1 _ _ _ _
   | exact chicaneref01_Text.mono _ _
   | exact LeO.none _
   | refine LeO.ite ?_ ?_
   | refine LeO.bind ?_ (fun _ => ?_)
theorem chicaneref01_Parse.mono : ∀ a0 k, LeO (chicaneref01_Parse.f k a0) (chicaneref01_Parse.f (k + 1) a0) := by
 intro a0 k
 obtain ⟨ih0, ih1⟩ := chicaneref01_Parse.mono_l k
 unfold chicaneref01_Parse.f
 repeat' first
   | (with_reducible exact ih0 _ _ _)
   | (with_reducible exact ih1 _ _ _ _)
   | (with_reducible exact chicaneref01_Text.mono _ _)
   | (with_reducible exact LeO.refl _)
   | (with_reducible exact LeO.none _)
   | (with_reducible refine LeO.ite ?_ ?_)
   | (with_reducible refine LeO.bind ?_ (fun _ => ?_))
   | exact ih0 _ _ _
   | exact ih1 _ _ _ _
   | exact chicaneref01_Text.mono _ _
   | exact LeO.none _
   | refine LeO.ite ?_ ?_
   | refine LeO.bind ?_ (fun _ => ?_)
end Go.Proofs.YtlglbpjccpdloaaGreatDoor.PToxR
set_option linter.unusedVariables false
set_option linter.unusedSimpArgs false
namespace Go.Proofs.YtlglbpjccpdloaaGreatDoor.ToxRef
open Go.RowKit Go.Proofs.YtlglbpjccpdloaaGreatDoor.Ext Go.Proofs.YtlglbpjccpdloaaGreatDoor.Tox Go.Proofs.YtlglbpjccpdloaaGreatDoor.PToxR Go.Proofs.YtlglbpjccpdloaaGreatDoorW.PrintWords Go.Proofs.YtlglbpjccpdloaaGreatDoorW.PrintLast
theorem bt_bn (s : ByteArray) (i : Nat) : bt s (i : Int) = (bn s i : Int) := by
  unfold bt bn
  rw [Int.toNat_natCast]
  split <;> simp_all
theorem name_l0 (s : ByteArray) (hs : s.size ≤ 9223372036854775807) : ∀ (k i : Nat), s.size - i < k → i ≤ s.size →
    chicaneref09_Name.l0 k s (i : Int) = some (allN (s.size - i) s i && decide (1 ≤ s.size) && decide (s.size ≤ 16)) := by
  intro k
  induction k with
  | zero => intro i h; omega
  | succ k ih =>
    intro i h hi
    unfold chicaneref09_Name.l0
    by_cases hl : i < s.size
    · rw [if_pos (by omega), if_pos (by omega), bt_bn, w64_in _ (by omega) (by omega)]
      have hn : chicaneref09_Name.l0 k s ((i : Int) + 1) = some (allN (s.size - (i + 1)) s (i + 1) && decide (1 ≤ s.size) && decide (s.size ≤ 16)) := ih (i + 1) (by omega) (by omega)
      rw [hn, show s.size - i = (s.size - (i + 1)) + 1 by omega, allN]
      have hok := okN_iff (bn s i)
      by_cases h97 : 97 ≤ bn s i
      · rw [if_pos (by omega), if_pos (by omega)]
        by_cases h122 : bn s i ≤ 122
        · rw [if_pos (by omega), hok.2 (by omega)]; simp
        · have : okN (bn s i) = false := by rw [Bool.eq_false_iff, ne_eq, hok]; omega
          rw [if_neg (by omega), if_neg (by omega), if_neg (by omega), if_neg (by omega), this]; simp
      · rw [if_neg (by omega)]
        by_cases h48 : 48 ≤ bn s i
        · rw [if_pos (by omega)]
          by_cases h57 : bn s i ≤ 57
          · rw [if_pos (by omega), hok.2 (by omega)]; simp
          · rw [if_neg (by omega)]
            by_cases h95 : bn s i = 95
            · rw [if_pos (by omega), hok.2 (by omega)]; simp
            · have : okN (bn s i) = false := by rw [Bool.eq_false_iff, ne_eq, hok]; omega
              rw [if_neg (by omega), if_neg (by omega), this]; simp
        · rw [if_neg (by omega), if_neg (by omega)]
          by_cases h45 : bn s i = 45
          · rw [if_pos (by omega), hok.2 (by omega)]; simp
          · have : okN (bn s i) = false := by rw [Bool.eq_false_iff, ne_eq, hok]; omega
            rw [if_neg (by omega), this]; simp
    · rw [if_neg (by omega), show s.size - i = 0 by omega, allN]
      by_cases h0 : 0 < s.size
      · rw [if_pos (by omega)]
        have h1 : (1 ≤ s.size) := h0
        by_cases h16 : s.size ≤ 16
        · have : (s.size : Int) ≤ 16 := by omega
          simp [h1, h16, this]
        · have : ¬ (s.size : Int) ≤ 16 := by omega
          simp [h1, h16, this]
      · rw [if_neg (by omega)]
        have : ¬ (1 ≤ s.size) := h0
        simp [this]
theorem name_is (s : ByteArray) (hs : s.size ≤ 9223372036854775807) (k : Nat) (hk : s.size < k) : chicaneref09_Name.f k s = some (nameOk s) := by
  have := name_l0 s hs k 0 (by omega) (by omega)
  simpa [chicaneref09_Name.f, nameOk] using this
end Go.Proofs.YtlglbpjccpdloaaGreatDoor.ToxRef
set_option linter.unusedVariables false
set_option linter.unusedSimpArgs false
set_option linter.unusedVariables false
set_option linter.unusedSimpArgs false
namespace Go.Proofs.YtlglbpjccpdloaaGreatDoor.ToxRef
open Go.RowKit Go.Proofs.YtlglbpjccpdloaaGreatDoor.Ext Go.Proofs.YtlglbpjccpdloaaGreatDoor.Tox Go.Proofs.YtlglbpjccpdloaaGreatDoorW.PrintWords Go.Proofs.YtlglbpjccpdloaaGreatDoorW.PrintLast
def spl : Nat → ByteArray → Nat → List ByteArray → List ByteArray
  | 0, _, _, out => out
  | f + 1, s, i, out => if i < s.size then (if bn s i = 32 then spl f s (i + 1) (out ++ [⟨#[]⟩]) else spl f s (i + 1) (out.set (out.length - 1) (out.getD (out.length - 1) ByteArray.empty ++ s.extract i (i + 1)))) else out
end Go.Proofs.YtlglbpjccpdloaaGreatDoor.ToxRef
set_option linter.unusedVariables false
set_option linter.unusedSimpArgs false
namespace Go.Proofs.YtlglbpjccpdloaaGreatDoor.ToxRef
open Go.RowKit Go.Proofs.YtlglbpjccpdloaaGreatDoor.Ext Go.Proofs.YtlglbpjccpdloaaGreatDoor.Tox Go.Proofs.YtlglbpjccpdloaaGreatDoor.PToxR Go.Proofs.YtlglbpjccpdloaaGreatDoorW.PrintWords Go.Proofs.YtlglbpjccpdloaaGreatDoorW.PrintLast
def wayR (up : Bool) : ByteArray := if up then ⟨#[32, 117, 112, 32]⟩ else ⟨#[32, 100, 111, 119, 110, 32]⟩
def blk : ByteArray := ⟨#[32]⟩
def refText (n : ByteArray) (k : Int) (up : Bool) (o a b : Int) : ByteArray :=
  if checkOf n k up o a b = 0 then
    if k ≤ 3 then n ++ blk ++ wordOf k ++ wayR up ++ tickText o ++ blk ++ tickText a ++ blk ++ tickText b
    else n ++ blk ++ wordOf k ++ wayR up ++ tickText o ++ blk ++ tickText a
  else ⟨#[]⟩
end Go.Proofs.YtlglbpjccpdloaaGreatDoor.ToxRef
set_option linter.unusedVariables false
set_option linter.unusedSimpArgs false
namespace Go.Proofs.YtlglbpjccpdloaaGreatDoor.ToxZ
open Go.RowKit Go.Proofs.YtlglbpjccpdloaaGreatDoor.Tox Go.Proofs.YtlglbpjccpdloaaGreatDoor.Ext Go.Proofs.YtlglbpjccpdloaaGreatDoor.ToxRef Go.Proofs.YtlglbpjccpdloaaGreatDoorW.PrintWords Go.Proofs.YtlglbpjccpdloaaGreatDoorW.PrintLast
def chicaneref09_Split.f (a0 : ByteArray) : Option (List ByteArray) := if a0.size ≤ 1000000000 then some (spl a0.size a0 0 [⟨#[]⟩]) else none
def chicaneref09_Text.f (a0_0 : ByteArray) (a0_1 : Int) (a0_2 : Bool) (a0_3 a0_4 a0_5 : Int) : Option ByteArray := if a0_0.size ≤ 9223372036854775807 then some (refText a0_0 a0_1 a0_2 a0_3 a0_4 a0_5) else none
def chicaneref09_Check.f (a0_0 : ByteArray) (a0_1 : Int) (a0_2 : Bool) (a0_3 a0_4 a0_5 : Int) : Option Int := if a0_0.size ≤ 9223372036854775807 then some (checkOf a0_0 a0_1 a0_2 a0_3 a0_4 a0_5) else none
def chicaneref09_Name.f (a0 : ByteArray) : Option Bool := if a0.size ≤ 9223372036854775807 then some (nameOk a0) else none
def chicaneref09_Word.f (a0 : Int) : Option ByteArray := some (wordOf a0)
def chicaneref09_Kind.f (a0 : ByteArray) : Option Int := some (kindOf a0)
def chicaneref09_Numbers.f (a0 : Int) : Option Int := some (numOf a0)
def chicaneref01_Parse.f (a0 : ByteArray) : Option (Int × Int) := if a0.size ≤ 4611686018427387904 then some (tickParse a0) else none
end Go.Proofs.YtlglbpjccpdloaaGreatDoor.ToxZ
set_option linter.unusedVariables false
set_option linter.unusedSimpArgs false
namespace Go.Proofs.YtlglbpjccpdloaaGreatDoor.Cut
open Go.Proofs.YtlglbpjccpdloaaGreatDoor.Ext Go.Proofs.YtlglbpjccpdloaaGreatDoor.ToxRef
theorem joined_data (l : List ByteArray) : (joined l ⟨#[32]⟩).data.toList = Lib.join (l.map (·.data.toList)) [32] := by
  simp [joined]
end Go.Proofs.YtlglbpjccpdloaaGreatDoor.Cut
set_option linter.unusedVariables false
set_option linter.unusedSimpArgs false
namespace Go.Proofs.YtlglbpjccpdloaaGreatDoor.WP
def may (c : UInt8) : Bool := (decide (32 ≤ c.toNat) && decide (c.toNat ≤ 126)) || decide (c.toNat = 9)
def blk (c : UInt8) : Bool := decide (c.toNat = 32) || decide (c.toNat = 9)
inductive Mode
  | btw | rest | quo | esc | fin | pla
abbrev Res := List (List UInt8) × Nat × Nat
def run (m : Mode) (ws : List (List UInt8)) (w : List UInt8) (i : Nat) : List UInt8 → Res
  | [] => match m with
    | .btw | .rest => (ws, i, 0)
    | .pla | .fin => (ws ++ [w], i, 0)
    | .quo | .esc => ([], i, 150)
  | c :: r => match m with
    | .btw => if blk c = true then run .btw ws [] (i + 1) r else if c.toNat = 35 then run .rest ws [] (i + 1) r else if may c = false then ([], i, 150)
        else if ws.length = 16 then ([], i, 151) else if c.toNat = 34 then run .quo ws [] (i + 1) r else if c.toNat = 92 then ([], i, 150) else run .pla ws [c] (i + 1) r
    | .rest => if may c = false then ([], i, 150) else run .rest ws [] (i + 1) r
    | .quo => if may c = false then ([], i, 150) else if c.toNat = 34 then run .fin ws w (i + 1) r else if c.toNat = 92 then run .esc ws w (i + 1) r else run .quo ws (w ++ [c]) (i + 1) r
    | .esc => if c.toNat = 34 ∨ c.toNat = 92 then run .quo ws (w ++ [c]) (i + 1) r else ([], i, 150)
    | .fin => if blk c = true then run .btw (ws ++ [w]) [] (i + 1) r else ([], i, 150)
    | .pla => if blk c = true then run .btw (ws ++ [w]) [] (i + 1) r else if may c = false ∨ c.toNat = 34 ∨ c.toNat = 92 then ([], i, 150) else run .pla ws (w ++ [c]) (i + 1) r
def split (s : List UInt8) : Res := if 256 < s.length then ([], 256, 150) else run .btw [] [] 0 s
def pb (c : UInt8) : Bool := may c && !blk c && !decide (c.toNat = 34) && !decide (c.toNat = 92)
def plain : List UInt8 → Bool
  | [] => false
  | c :: r => !decide (c.toNat = 35) && (c :: r).all pb
def es : List UInt8 → List UInt8
  | [] => []
  | c :: r => if c.toNat = 34 ∨ c.toNat = 92 then 92 :: c :: es r else c :: es r
def qt (s : List UInt8) : List UInt8 := if plain s = true then s else 34 :: (es s ++ [34])
def sep : List (List UInt8) → List UInt8
  | [] => []
  | [a] => a
  | a :: b :: l => a ++ 32 :: sep (b :: l)
def join (l : List (List UInt8)) : List UInt8 :=
  if 16 < l.length then [] else if l.all (·.all may) = false then [] else if 256 < (sep (l.map qt)).length then [] else sep (l.map qt)
theorem run_end (ws : List (List UInt8)) (w : List UInt8) (i : Nat) (m : Mode) (hm : m = .pla ∨ m = .fin) (r : List UInt8) (hr : ∀ c t, r = c :: t → blk c = true) :
    run m ws w i r = run .btw (ws ++ [w]) [] i r := by
  cases r with
  | nil => rcases hm with rfl | rfl <;> rfl
  | cons c t =>
    have h := hr c t rfl
    rcases hm with rfl | rfl <;> simp [run, h]
def sp (c : UInt8) : Bool := decide (c.toNat = 34) || decide (c.toNat = 92)
def cn (l : List UInt8) : Nat := l.countP sp
theorem es_append (l m : List UInt8) : es (l ++ m) = es l ++ es m := by
  induction l with
  | nil => rfl
  | cons c r ih =>
    rw [List.cons_append, es, es, ih]
    split <;> simp
theorem sp_iff (c : UInt8) : sp c = true ↔ c.toNat = 34 ∨ c.toNat = 92 := by simp [sp]
theorem es_one (c : UInt8) : es [c] = if sp c = true then [92, c] else [c] := by
  rw [es]
  by_cases h : c.toNat = 34 ∨ c.toNat = 92
  · rw [if_pos h, if_pos ((sp_iff c).2 h)]; rfl
  · rw [if_neg h, if_neg (fun h2 => h ((sp_iff c).1 h2))]; rfl
theorem es_len (l : List UInt8) : (es l).length = l.length + cn l := by
  induction l with
  | nil => rfl
  | cons c r ih =>
    rw [es]
    by_cases h : c.toNat = 34 ∨ c.toNat = 92
    · rw [if_pos h]
      simp only [List.length_cons, ih, cn, List.countP_cons, (sp_iff c).2 h, if_true]
      omega
    · rw [if_neg h]
      have h2 : sp c = false := by cases hs : sp c; rfl; exact absurd ((sp_iff c).1 hs) h
      simp only [List.length_cons, ih, cn, List.countP_cons, h2]
      simp
      omega
theorem es_none (l : List UInt8) (h : cn l = 0) : es l = l := by
  induction l with
  | nil => rfl
  | cons c r ih =>
    simp only [cn, List.countP_cons] at h
    rw [es]
    by_cases hs : c.toNat = 34 ∨ c.toNat = 92
    · rw [(sp_iff c).2 hs] at h
      simp at h
    · rw [if_neg hs, ih (by unfold cn; omega)]
theorem cn_count (l : List UInt8) : cn l = l.count 34 + l.count 92 := by
  induction l with
  | nil => rfl
  | cons c r ih =>
    simp only [cn, List.countP_cons, List.count_cons] at ih ⊢
    rw [ih]
    by_cases h1 : c = 34
    · subst h1; simp [sp]; omega
    · by_cases h2 : c = 92
      · subst h2; simp [sp]; omega
      · have h3 : c.toNat ≠ 34 := fun h => h1 (UInt8.toNat_inj.1 h)
        have h4 : c.toNat ≠ 92 := fun h => h2 (UInt8.toNat_inj.1 h)
        simp [sp, h1, h2, h3, h4]
theorem cn_snoc (l : List UInt8) (c : UInt8) : cn (l ++ [c]) = cn l + (if sp c = true then 1 else 0) := by
  simp [cn, List.countP_append, List.countP_cons]
theorem cn_le (l : List UInt8) : cn l ≤ l.length := List.countP_le_length
end Go.Proofs.YtlglbpjccpdloaaGreatDoor.WP
set_option linter.unusedVariables false
set_option linter.unusedSimpArgs false
namespace Go.Proofs.YtlglbpjccpdloaaGreatDoor.Ext
open Go.RowKit Go.Proofs.YtlglbpjccpdloaaGreatDoorW.PrintWords Go.Proofs.YtlglbpjccpdloaaGreatDoor.PWrdA Go.Proofs.YtlglbpjccpdloaaGreatDoor.ToxZ Go.Proofs.YtlglbpjccpdloaaGreatDoor.Tox Go.Proofs.YtlglbpjccpdloaaGreatDoor.ToxPlain
def vw : List (List ByteArray) := [[⟨#[112,114,111,120,121]⟩, ⟨#[97,100,100]⟩], [⟨#[112,114,111,120,121]⟩, ⟨#[100,114,111,112]⟩], [⟨#[111,110]⟩], [⟨#[111,102,102]⟩], [⟨#[116,111,120,105,99]⟩, ⟨#[97,100,100]⟩], [⟨#[116,111,120,105,99]⟩, ⟨#[100,114,111,112]⟩], [⟨#[116,111,120,105,99]⟩, ⟨#[115,101,116]⟩], [⟨#[108,105,115,116]⟩], [⟨#[115,104,111,119]⟩], [⟨#[114,101,115,101,116]⟩]]
def Beg (l w : List ByteArray) : Prop := w.length ≤ l.length ∧ l.take w.length = w
instance (l w : List ByteArray) : Decidable (Beg l w) := by unfold Beg; infer_instance
theorem apart : ∀ i j : Fin 10, i ≠ j → (vw[i.1]'i.2).length ≤ (vw[j.1]'j.2).length → (vw[j.1]'j.2).take (vw[i.1]'i.2).length ≠ vw[i.1]'i.2 := by decide +kernel
theorem one_beg (l : List ByteArray) (i j : Fin 10) (hi : Beg l (vw[i.1]'i.2)) (hj : Beg l (vw[j.1]'j.2)) : i = j := by
  have key : ∀ i j : Fin 10, Beg l (vw[i.1]'i.2) → Beg l (vw[j.1]'j.2) → (vw[i.1]'i.2).length ≤ (vw[j.1]'j.2).length → i = j := by
    intro i j hi hj hle
    by_cases h : i = j
    · exact h
    · refine absurd ?_ (apart i j h hle)
      rw [← hj.2, List.take_take, Nat.min_eq_left hle, hi.2]
  rcases Nat.le_total (vw[i.1]'i.2).length (vw[j.1]'j.2).length with h | h
  · exact key i j hi hj h
  · exact (key j i hj hi h).symm
theorem beg_uniq (l : List ByteArray) (i j : Nat) (hi : i < vw.length) (hj : j < vw.length) (h1 : Beg l vw[i]) (h2 : Beg l vw[j]) : i = j := by
  have := one_beg l ⟨i, hi⟩ ⟨j, hj⟩ h1 h2
  exact Fin.mk.inj this
def vfirst (l : List ByteArray) : Nat → List (List ByteArray) → Int × List ByteArray
  | _, [] => (0, [])
  | i, w :: ws => if Beg l w then ((i : Int) + 1, l.drop w.length) else vfirst l (i + 1) ws
theorem vfirst_none (l : List ByteArray) : ∀ (ws : List (List ByteArray)) (i : Nat), (∀ w ∈ ws, ¬ Beg l w) → vfirst l i ws = (0, []) := by
  intro ws
  induction ws with
  | nil => intro i _; rfl
  | cons w ws ih => intro i h; rw [vfirst, if_neg (h w (by simp)), ih _ (fun x hx => h x (by simp [hx]))]
theorem vfirst_at (l : List ByteArray) : ∀ (ws : List (List ByteArray)) (i k : Nat) (hk : k < ws.length), Beg l ws[k] → (∀ j (hj : j < ws.length), Beg l ws[j] → j = k) → vfirst l i ws = (((i + k + 1 : Nat) : Int), l.drop (ws[k]).length) := by
  intro ws
  induction ws with
  | nil => intro i k hk; simp at hk
  | cons w ws ih =>
    intro i k hk hb hu
    rw [vfirst]
    cases k with
    | zero => rw [if_pos (by simpa using hb)]; simp
    | succ k =>
      rw [if_neg (fun h => by have := hu 0 (by simp) (by simpa using h); omega)]
      have := ih (i + 1) k (by simpa using hk) (by simpa using hb) (fun j hj hbj => by have := hu (j + 1) (by simpa using hj) (by simpa using hbj); omega)
      rw [this]
      simp; omega
theorem vrbs_vw : vrbs.map fieldsB = vw := by decide +kernel
theorem verbGo_is (l : List ByteArray) : ∀ (ss : List ByteArray) (i : Nat), verbGo l i ss = vfirst l i (ss.map fieldsB) := by
  intro ss
  induction ss with
  | nil => intro i; rfl
  | cons s ss ih => intro i; rw [verbGo, List.map_cons, vfirst, ih]; rfl
theorem verbOf_is (l : List ByteArray) : verbOf l = vfirst l 0 vw := by rw [verbOf, verbGo_is, vrbs_vw]
theorem verbOf_none (l : List ByteArray) (h : ∀ w ∈ vw, ¬ Beg l w) : verbOf l = (0, []) := by rw [verbOf_is, vfirst_none l vw 0 h]
theorem verbOf_at (l : List ByteArray) (k : Nat) (hk : k < vw.length) (hb : Beg l vw[k]) : verbOf l = (((k + 1 : Nat) : Int), l.drop (vw[k]).length) := by
  rw [verbOf_is, vfirst_at l vw 0 k hk hb (fun j hj hbj => beg_uniq l j k hj hk hbj hb), Nat.zero_add]
def CleanO (v : Int) (p m : ByteArray) (n : Int) (t0 : ByteArray) (t1 : Int) (t2 : Bool) (t3 t4 t5 : Int) : Prop :=
  (v ≠ 1 → n = 0) ∧ (v ≠ 6 → m = ⟨#[]⟩) ∧ (v = 8 ∨ v = 10 → p = ⟨#[]⟩) ∧ (¬ (v = 5 ∨ v = 7) → t0 = ⟨#[]⟩ ∧ t1 = 0 ∧ t2 = false ∧ t3 = 0 ∧ t4 = 0 ∧ t5 = 0) ∧ 0 ≤ n ∧ n ≤ 1099511627776
end Go.Proofs.YtlglbpjccpdloaaGreatDoor.Ext
set_option linter.unusedVariables false
set_option linter.unusedSimpArgs false
namespace Go.Proofs.YtlglbpjccpdloaaGreatDoor.Ext
open Go.RowKit Go.Shelf Go.Proofs.YtlglbpjccpdloaaGreatDoorW.PrintWords Go.Proofs.YtlglbpjccpdloaaGreatDoorW.PrintLast Go.Proofs.YtlglbpjccpdloaaGreatDoor.PWrdA Go.Proofs.YtlglbpjccpdloaaGreatDoor.ToxZ Go.Proofs.YtlglbpjccpdloaaGreatDoor.Tox
set_option maxRecDepth 100000 in
theorem from_toxic (A0 : Option Addr) (c0 : Nat) (l0 : List ByteArray) (hl : l0 ≠ []) (w : World) (hT : Aside0 (Tab w)) (hr0 : Kd.C Kd.string w A0 l0.length l0) (hc0 : l0.length ≤ c0) (hm0 : l0.length ≤ 4611686018427387904)
    (v : Int) (r : List ByteArray) (hvv : (verbOf l0).1 = v) (hrr : (verbOf l0).2 = r) (hv0 : v ≠ 0) (lo hi : Int) (hmost : order_most.f v = some (lo, hi)) (hb1 : ¬ (r.length : Int) < lo) (hb2 : ¬ hi < (r.length : Int)) (hnp : order_noProxy.f v = some false) (htx : order_toxical.f v = some true) (hv1' : v ≠ 1) (hv6 : v ≠ 6) (p : ByteArray) (L : List ByteArray) (hrp : r = p :: L) (K : Nat) (er : Int) (u0 : ByteArray) (u1 : Int) (u2 : Bool) (u3 u4 u5 : Int) (htox : POrdT.order_Order_toxic.f K v p ⟨#[]⟩ 0 ⟨#[]⟩ 0 false 0 0 0 L = some (er, v, p, ⟨#[]⟩, 0, u0, u1, u2, u3, u4, u5)) (her : er = 0) :
    Calls Tryz.prog 9 #[.slice A0 l0.length c0] w fun e w' => e = .returned (.tuple #[.agg (ordC v p ⟨#[]⟩ 0 u0 u1 u2 u3 u4 u5), .int .i64 0]) ∧ Below w.heap.size w w' := by
  unfold ordC
  have q0 : ((l0.length : Int) == 0) = false := by rw [beq_eq_false_iff_ne]; intro h; exact hl (List.length_eq_zero_iff.1 (by omega))
  have HC := Lib.hid (fun W (hb : Below w.heap.size w W) => verb_is A0 c0 l0 W ⟨tab_below hT.out hb⟩ (Kd.C_below hr0 hb) hc0 hm0)
  rw [hvv, hrr] at HC
  have hv1 : (v == 0) = false := by rw [beq_eq_false_iff_ne]; exact hv0
  have HM := Lib.hid (fun W => order_most.calls v lo hi W hmost)
  have HN := Lib.hid (fun W => order_noProxy.calls v false W hnp)
  have HX := Lib.hid (fun W => order_toxical.calls v true W htx)
  have hq1 : (v == 1) = false := by rw [beq_eq_false_iff_ne]; exact hv1'
  have hq6 : (v == 6) = false := by rw [beq_eq_false_iff_ne]; exact hv6
  have HRL := Lib.hid (show r.length = L.length + 1 by rw [hrp]; rfl)
  have HD := Lib.hid (show r.drop 1 = L by rw [hrp]; rfl)
  have HTX := Lib.hid htox
  subst her
  have HRP := Lib.hid hrp
  clear hnp htx hv1' hv6 hrp htox hl hr0 hc0 hm0 hv0 hvv hrr hmost
  have HB0 := Lib.hid (below_alloc (Below.refl w.heap.size w) (.cells #[.int .i64 0, .string ⟨#[]⟩, .string ⟨#[]⟩, .int .i64 0, .string ⟨#[]⟩, .int .i64 0, .bool false, .int .i64 0, .int .i64 0, .int .i64 0] 27))
  have HBK := Lib.hid (alloc_blk w #[.int .i64 0, .string ⟨#[]⟩, .string ⟨#[]⟩, .int .i64 0, .string ⟨#[]⟩, .int .i64 0, .bool false, .int .i64 0, .int .i64 0, .int .i64 0] 27)
  go_enter Tryz.func9, Tryz.ntmps9
  go_wp2_with (first | (go_at_call 22; refine (HC.out _ HB0.out).mono ?_; rintro e w1 ⟨⟨A, c, rfl, hr, hc⟩, hb⟩; have HB1 := Lib.hid (below_step HB0.out hb); have HBK1 := Lib.hid (blk_below HBK.out hb); obtain ⟨ad, ha, hx⟩ := Kd.at_string hr 0 (by omega) (by rw [HRL.out]; omega); cases ha; obtain ⟨A', hcut, hcr, hcl⟩ := cut_from (A := some ad) (n := 1) (l := r) (by rw [HRL.out]; omega) hc; rw [HD.out] at hcut hcr hcl; have hcut1 : ∀ W : World, (Instr.slice 22 (.slice (some ad) r.length c) (some (.int .i64 1)) none none).run Tryz.prog W = .ok (.slice A' L.length (c - 1)) W := hcut; have HCR := Lib.hid (hcr _ hr); have HCL := Lib.hid hcl; clear hcut hcr hcl; have hx1 : w1.cell? ad = some (.string p) := (by have h9 := hx; rw [show ad.add (0 : Int).toNat = ad by simp [Addr.add]] at h9; rw [h9, show rdOf ByteArray.empty r 0 = p by rw [HRP.out]; rfl]); have q7 : (0 : Int) < (r.length : Int) := (by rw [HRL.out]; omega); clear hx hr hc hb; have z0 : w1.cell? ⟨w.heap.size, 0, none⟩ = some (.int .i64 0) := (blk_cell HBK1.out 0).trans rfl; have f0 := blk_frozen HBK1.out 0; have z1 : w1.cell? ⟨w.heap.size, 1, none⟩ = some (.string ⟨#[]⟩) := (blk_cell HBK1.out 1).trans rfl; have f1 := blk_frozen HBK1.out 1; have z2 : w1.cell? ⟨w.heap.size, 2, none⟩ = some (.string ⟨#[]⟩) := (blk_cell HBK1.out 2).trans rfl; have f2 := blk_frozen HBK1.out 2; have z3 : w1.cell? ⟨w.heap.size, 3, none⟩ = some (.int .i64 0) := (blk_cell HBK1.out 3).trans rfl; have f3 := blk_frozen HBK1.out 3; have z4 : w1.cell? ⟨w.heap.size, 4, none⟩ = some (.string ⟨#[]⟩) := (blk_cell HBK1.out 4).trans rfl; have f4 := blk_frozen HBK1.out 4; have z5 : w1.cell? ⟨w.heap.size, 5, none⟩ = some (.int .i64 0) := (blk_cell HBK1.out 5).trans rfl; have f5 := blk_frozen HBK1.out 5; have z6 : w1.cell? ⟨w.heap.size, 6, none⟩ = some (.bool false) := (blk_cell HBK1.out 6).trans rfl; have f6 := blk_frozen HBK1.out 6; have z7 : w1.cell? ⟨w.heap.size, 7, none⟩ = some (.int .i64 0) := (blk_cell HBK1.out 7).trans rfl; have f7 := blk_frozen HBK1.out 7; have z8 : w1.cell? ⟨w.heap.size, 8, none⟩ = some (.int .i64 0) := (blk_cell HBK1.out 8).trans rfl; have f8 := blk_frozen HBK1.out 8; have z9 : w1.cell? ⟨w.heap.size, 9, none⟩ = some (.int .i64 0) := (blk_cell HBK1.out 9).trans rfl; have f9 := blk_frozen HBK1.out 9) | (go_at_call 23; refine (HM.out _).mono ?_; rintro e w' ⟨rfl, ⟨nd, rfl⟩⟩) | (go_at_call 24; refine (HN.out _).mono ?_; rintro e w' ⟨rfl, ⟨ne, rfl⟩⟩) | (go_at_call 28; refine (HX.out _).mono ?_; rintro e w' ⟨rfl, ⟨nx, rfl⟩⟩) | (go_at_call 29; have hgl : w.heap.size < w1.heap.size := blk_lt HBK1.out; refine (POrdT.order_Order_toxic.calls K w1.heap.size v p ⟨#[]⟩ 0 ⟨#[]⟩ 0 false 0 0 0 A' (c - 1) L 0 v p ⟨#[]⟩ 0 u0 u1 u2 u3 u4 u5 w _ ?sI ?sB ?sR ?sC ?sF HTX.out).mono ?_; (case sI => exact ⟨alloc_blk (w1.drewN _) _ _, Nat.le_of_lt hgl⟩); (case sB => repeat (first | exact HB1.out | apply pw_below_drewN | apply below_alloc)); (case sR => repeat (first | exact HCR.out | apply Kd.C_drewN | apply Kd.C_alloc)); (case sC => exact HCL.out); (case sF => intro ad1 ha1 hn1 he1; subst ha1; have h9 := Kd.C_lt HCR.out hn1 (by decide); omega); rintro e w5 ⟨rfl, ⟨hb5, -⟩, hB5, hK5⟩; have hr5 : w5.heap[w.heap.size]? = some (.cells #[.int .i64 0, .string ⟨#[]⟩, .string ⟨#[]⟩, .int .i64 0, .string ⟨#[]⟩, .int .i64 0, .bool false, .int .i64 0, .int .i64 0, .int .i64 0] 27 (0, 0)) := (by rw [hK5.2 _ (by first | (show w.heap.size < (w1.heap.push _).size; rw [Array.size_push]; omega) | (simp; omega)) (Nat.ne_of_lt hgl) (by simp)]; exact blk_alloc (o := .cells _ _) HBK1.out _); have HR5 := Lib.hid hr5; have HB5 := Lib.hid hB5; clear hK5 hB5 hgl; have y0 : w5.cell? ⟨w1.heap.size, 0, none⟩ = some (.int .i64 v) := (blk_cell hb5 0).trans rfl; have u0_ : w5.cell? ⟨w.heap.size, 0, none⟩ = some (.int .i64 0) := (blk_cell hr5 0).trans rfl; have g0_ := blk_frozen hr5 0; have y1 : w5.cell? ⟨w1.heap.size, 1, none⟩ = some (.string p) := (blk_cell hb5 1).trans rfl; have u1_ : w5.cell? ⟨w.heap.size, 1, none⟩ = some (.string ⟨#[]⟩) := (blk_cell hr5 1).trans rfl; have g1_ := blk_frozen hr5 1; have y2 : w5.cell? ⟨w1.heap.size, 2, none⟩ = some (.string ⟨#[]⟩) := (blk_cell hb5 2).trans rfl; have u2_ : w5.cell? ⟨w.heap.size, 2, none⟩ = some (.string ⟨#[]⟩) := (blk_cell hr5 2).trans rfl; have g2_ := blk_frozen hr5 2; have y3 : w5.cell? ⟨w1.heap.size, 3, none⟩ = some (.int .i64 0) := (blk_cell hb5 3).trans rfl; have u3_ : w5.cell? ⟨w.heap.size, 3, none⟩ = some (.int .i64 0) := (blk_cell hr5 3).trans rfl; have g3_ := blk_frozen hr5 3; have y4 : w5.cell? ⟨w1.heap.size, 4, none⟩ = some (.string u0) := (blk_cell hb5 4).trans rfl; have u4_ : w5.cell? ⟨w.heap.size, 4, none⟩ = some (.string ⟨#[]⟩) := (blk_cell hr5 4).trans rfl; have g4_ := blk_frozen hr5 4; have y5 : w5.cell? ⟨w1.heap.size, 5, none⟩ = some (.int .i64 u1) := (blk_cell hb5 5).trans rfl; have u5_ : w5.cell? ⟨w.heap.size, 5, none⟩ = some (.int .i64 0) := (blk_cell hr5 5).trans rfl; have g5_ := blk_frozen hr5 5; have y6 : w5.cell? ⟨w1.heap.size, 6, none⟩ = some (.bool u2) := (blk_cell hb5 6).trans rfl; have u6_ : w5.cell? ⟨w.heap.size, 6, none⟩ = some (.bool false) := (blk_cell hr5 6).trans rfl; have g6_ := blk_frozen hr5 6; have y7 : w5.cell? ⟨w1.heap.size, 7, none⟩ = some (.int .i64 u3) := (blk_cell hb5 7).trans rfl; have u7_ : w5.cell? ⟨w.heap.size, 7, none⟩ = some (.int .i64 0) := (blk_cell hr5 7).trans rfl; have g7_ := blk_frozen hr5 7; have y8 : w5.cell? ⟨w1.heap.size, 8, none⟩ = some (.int .i64 u4) := (blk_cell hb5 8).trans rfl; have u8_ : w5.cell? ⟨w.heap.size, 8, none⟩ = some (.int .i64 0) := (blk_cell hr5 8).trans rfl; have g8_ := blk_frozen hr5 8; have y9 : w5.cell? ⟨w1.heap.size, 9, none⟩ = some (.int .i64 u5) := (blk_cell hb5 9).trans rfl; have u9_ : w5.cell? ⟨w.heap.size, 9, none⟩ = some (.int .i64 0) := (blk_cell hr5 9).trans rfl; have g9_ := blk_frozen hr5 9; clear hb5 hr5))
  refine bodyPost_ret (Go.Proofs.YtlglbpjccpdloaaGreatDoorW.PrintWords.results_ct rfl _ _ w.heap.size 27 _ (0, 0) _ rfl (ord_put w5 w.heap.size 0 ⟨#[]⟩ ⟨#[]⟩ 0 ⟨#[]⟩ 0 false 0 0 0 v p ⟨#[]⟩ 0 u0 u1 u2 u3 u4 u5 _ HR5.out) Tryz.underlying27 rfl (by kernel_rfl)) rfl ?_
  exact ⟨rfl, ord_below w w5 w.heap.size v p ⟨#[]⟩ 0 u0 u1 u2 u3 u4 u5 HB5.out (Nat.le_refl _)⟩
set_option maxRecDepth 100000 in
theorem from_toxbad (A0 : Option Addr) (c0 : Nat) (l0 : List ByteArray) (hl : l0 ≠ []) (w : World) (hT : Aside0 (Tab w)) (hr0 : Kd.C Kd.string w A0 l0.length l0) (hc0 : l0.length ≤ c0) (hm0 : l0.length ≤ 4611686018427387904)
    (v : Int) (r : List ByteArray) (hvv : (verbOf l0).1 = v) (hrr : (verbOf l0).2 = r) (hv0 : v ≠ 0) (lo hi : Int) (hmost : order_most.f v = some (lo, hi)) (hb1 : ¬ (r.length : Int) < lo) (hb2 : ¬ hi < (r.length : Int)) (hnp : order_noProxy.f v = some false) (htx : order_toxical.f v = some true) (hv1' : v ≠ 1) (hv6 : v ≠ 6) (p : ByteArray) (L : List ByteArray) (hrp : r = p :: L) (K : Nat) (er : Int) (u0 : ByteArray) (u1 : Int) (u2 : Bool) (u3 u4 u5 : Int) (htox : POrdT.order_Order_toxic.f K v p ⟨#[]⟩ 0 ⟨#[]⟩ 0 false 0 0 0 L = some (er, v, p, ⟨#[]⟩, 0, u0, u1, u2, u3, u4, u5)) (her : er ≠ 0) :
    Calls Tryz.prog 9 #[.slice A0 l0.length c0] w fun e w' => e = .returned (.tuple #[.agg (ordC 0 ⟨#[]⟩ ⟨#[]⟩ 0 ⟨#[]⟩ 0 false 0 0 0), .int .i64 er]) ∧ Below w.heap.size w w' := by
  unfold ordC
  have q0 : ((l0.length : Int) == 0) = false := by rw [beq_eq_false_iff_ne]; intro h; exact hl (List.length_eq_zero_iff.1 (by omega))
  have HC := Lib.hid (fun W (hb : Below w.heap.size w W) => verb_is A0 c0 l0 W ⟨tab_below hT.out hb⟩ (Kd.C_below hr0 hb) hc0 hm0)
  rw [hvv, hrr] at HC
  have hv1 : (v == 0) = false := by rw [beq_eq_false_iff_ne]; exact hv0
  have HM := Lib.hid (fun W => order_most.calls v lo hi W hmost)
  have HN := Lib.hid (fun W => order_noProxy.calls v false W hnp)
  have HX := Lib.hid (fun W => order_toxical.calls v true W htx)
  have hq1 : (v == 1) = false := by rw [beq_eq_false_iff_ne]; exact hv1'
  have hq6 : (v == 6) = false := by rw [beq_eq_false_iff_ne]; exact hv6
  have HRL := Lib.hid (show r.length = L.length + 1 by rw [hrp]; rfl)
  have HD := Lib.hid (show r.drop 1 = L by rw [hrp]; rfl)
  have HTX := Lib.hid htox
  have hne : (er != 0) = true := by rw [bne_iff_ne]; exact her
  have HRP := Lib.hid hrp
  clear hnp htx hv1' hv6 hrp htox her hl hr0 hc0 hm0 hv0 hvv hrr hmost
  have HB0 := Lib.hid (below_alloc (Below.refl w.heap.size w) (.cells #[.int .i64 0, .string ⟨#[]⟩, .string ⟨#[]⟩, .int .i64 0, .string ⟨#[]⟩, .int .i64 0, .bool false, .int .i64 0, .int .i64 0, .int .i64 0] 27))
  have HBK := Lib.hid (alloc_blk w #[.int .i64 0, .string ⟨#[]⟩, .string ⟨#[]⟩, .int .i64 0, .string ⟨#[]⟩, .int .i64 0, .bool false, .int .i64 0, .int .i64 0, .int .i64 0] 27)
  go_enter Tryz.func9, Tryz.ntmps9
  go_wp2_with (first | (go_at_call 22; refine (HC.out _ HB0.out).mono ?_; rintro e w1 ⟨⟨A, c, rfl, hr, hc⟩, hb⟩; have HB1 := Lib.hid (below_step HB0.out hb); have HBK1 := Lib.hid (blk_below HBK.out hb); obtain ⟨ad, ha, hx⟩ := Kd.at_string hr 0 (by omega) (by rw [HRL.out]; omega); cases ha; obtain ⟨A', hcut, hcr, hcl⟩ := cut_from (A := some ad) (n := 1) (l := r) (by rw [HRL.out]; omega) hc; rw [HD.out] at hcut hcr hcl; have hcut1 : ∀ W : World, (Instr.slice 22 (.slice (some ad) r.length c) (some (.int .i64 1)) none none).run Tryz.prog W = .ok (.slice A' L.length (c - 1)) W := hcut; have HCR := Lib.hid (hcr _ hr); have HCL := Lib.hid hcl; clear hcut hcr hcl; have hx1 : w1.cell? ad = some (.string p) := (by have h9 := hx; rw [show ad.add (0 : Int).toNat = ad by simp [Addr.add]] at h9; rw [h9, show rdOf ByteArray.empty r 0 = p by rw [HRP.out]; rfl]); have q7 : (0 : Int) < (r.length : Int) := (by rw [HRL.out]; omega); clear hx hr hc hb; have z0 : w1.cell? ⟨w.heap.size, 0, none⟩ = some (.int .i64 0) := (blk_cell HBK1.out 0).trans rfl; have f0 := blk_frozen HBK1.out 0; have z1 : w1.cell? ⟨w.heap.size, 1, none⟩ = some (.string ⟨#[]⟩) := (blk_cell HBK1.out 1).trans rfl; have f1 := blk_frozen HBK1.out 1; have z2 : w1.cell? ⟨w.heap.size, 2, none⟩ = some (.string ⟨#[]⟩) := (blk_cell HBK1.out 2).trans rfl; have f2 := blk_frozen HBK1.out 2; have z3 : w1.cell? ⟨w.heap.size, 3, none⟩ = some (.int .i64 0) := (blk_cell HBK1.out 3).trans rfl; have f3 := blk_frozen HBK1.out 3; have z4 : w1.cell? ⟨w.heap.size, 4, none⟩ = some (.string ⟨#[]⟩) := (blk_cell HBK1.out 4).trans rfl; have f4 := blk_frozen HBK1.out 4; have z5 : w1.cell? ⟨w.heap.size, 5, none⟩ = some (.int .i64 0) := (blk_cell HBK1.out 5).trans rfl; have f5 := blk_frozen HBK1.out 5; have z6 : w1.cell? ⟨w.heap.size, 6, none⟩ = some (.bool false) := (blk_cell HBK1.out 6).trans rfl; have f6 := blk_frozen HBK1.out 6; have z7 : w1.cell? ⟨w.heap.size, 7, none⟩ = some (.int .i64 0) := (blk_cell HBK1.out 7).trans rfl; have f7 := blk_frozen HBK1.out 7; have z8 : w1.cell? ⟨w.heap.size, 8, none⟩ = some (.int .i64 0) := (blk_cell HBK1.out 8).trans rfl; have f8 := blk_frozen HBK1.out 8; have z9 : w1.cell? ⟨w.heap.size, 9, none⟩ = some (.int .i64 0) := (blk_cell HBK1.out 9).trans rfl; have f9 := blk_frozen HBK1.out 9) | (go_at_call 23; refine (HM.out _).mono ?_; rintro e w' ⟨rfl, ⟨nd, rfl⟩⟩) | (go_at_call 24; refine (HN.out _).mono ?_; rintro e w' ⟨rfl, ⟨ne, rfl⟩⟩) | (go_at_call 28; refine (HX.out _).mono ?_; rintro e w' ⟨rfl, ⟨nx, rfl⟩⟩) | (go_at_call 29; have hgl : w.heap.size < w1.heap.size := blk_lt HBK1.out; refine (POrdT.order_Order_toxic.calls K w1.heap.size v p ⟨#[]⟩ 0 ⟨#[]⟩ 0 false 0 0 0 A' (c - 1) L er v p ⟨#[]⟩ 0 u0 u1 u2 u3 u4 u5 w _ ?sI ?sB ?sR ?sC ?sF HTX.out).mono ?_; (case sI => exact ⟨alloc_blk (w1.drewN _) _ _, Nat.le_of_lt hgl⟩); (case sB => repeat (first | exact HB1.out | apply pw_below_drewN | apply below_alloc)); (case sR => repeat (first | exact HCR.out | apply Kd.C_drewN | apply Kd.C_alloc)); (case sC => exact HCL.out); (case sF => intro ad1 ha1 hn1 he1; subst ha1; have h9 := Kd.C_lt HCR.out hn1 (by decide); omega); rintro e w5 ⟨rfl, ⟨hb5, -⟩, hB5, hK5⟩; have hr5 : w5.heap[w.heap.size]? = some (.cells #[.int .i64 0, .string ⟨#[]⟩, .string ⟨#[]⟩, .int .i64 0, .string ⟨#[]⟩, .int .i64 0, .bool false, .int .i64 0, .int .i64 0, .int .i64 0] 27 (0, 0)) := (by rw [hK5.2 _ (by first | (show w.heap.size < (w1.heap.push _).size; rw [Array.size_push]; omega) | (simp; omega)) (Nat.ne_of_lt hgl) (by simp)]; exact blk_alloc (o := .cells _ _) HBK1.out _); have HR5 := Lib.hid hr5; have HB5 := Lib.hid hB5; clear hK5 hB5 hgl; have u0_ : w5.cell? ⟨w.heap.size, 0, none⟩ = some (.int .i64 0) := (blk_cell hr5 0).trans rfl; have g0_ := blk_frozen hr5 0; have u1_ : w5.cell? ⟨w.heap.size, 1, none⟩ = some (.string ⟨#[]⟩) := (blk_cell hr5 1).trans rfl; have g1_ := blk_frozen hr5 1; have u2_ : w5.cell? ⟨w.heap.size, 2, none⟩ = some (.string ⟨#[]⟩) := (blk_cell hr5 2).trans rfl; have g2_ := blk_frozen hr5 2; have u3_ : w5.cell? ⟨w.heap.size, 3, none⟩ = some (.int .i64 0) := (blk_cell hr5 3).trans rfl; have g3_ := blk_frozen hr5 3; have u4_ : w5.cell? ⟨w.heap.size, 4, none⟩ = some (.string ⟨#[]⟩) := (blk_cell hr5 4).trans rfl; have g4_ := blk_frozen hr5 4; have u5_ : w5.cell? ⟨w.heap.size, 5, none⟩ = some (.int .i64 0) := (blk_cell hr5 5).trans rfl; have g5_ := blk_frozen hr5 5; have u6_ : w5.cell? ⟨w.heap.size, 6, none⟩ = some (.bool false) := (blk_cell hr5 6).trans rfl; have g6_ := blk_frozen hr5 6; have u7_ : w5.cell? ⟨w.heap.size, 7, none⟩ = some (.int .i64 0) := (blk_cell hr5 7).trans rfl; have g7_ := blk_frozen hr5 7; have u8_ : w5.cell? ⟨w.heap.size, 8, none⟩ = some (.int .i64 0) := (blk_cell hr5 8).trans rfl; have g8_ := blk_frozen hr5 8; have u9_ : w5.cell? ⟨w.heap.size, 9, none⟩ = some (.int .i64 0) := (blk_cell hr5 9).trans rfl; have g9_ := blk_frozen hr5 9; clear hb5 hr5))
  refine bodyPost_ret (Go.Proofs.YtlglbpjccpdloaaGreatDoorW.PrintWords.results_ct rfl _ _ w.heap.size 27 _ (0, 0) _ rfl (ord_put w5 w.heap.size 0 ⟨#[]⟩ ⟨#[]⟩ 0 ⟨#[]⟩ 0 false 0 0 0 0 ⟨#[]⟩ ⟨#[]⟩ 0 ⟨#[]⟩ 0 false 0 0 0 _ HR5.out) Tryz.underlying27 rfl (by kernel_rfl)) rfl ?_
  exact ⟨rfl, ord_below w w5 w.heap.size 0 ⟨#[]⟩ ⟨#[]⟩ 0 ⟨#[]⟩ 0 false 0 0 0 HB5.out (Nat.le_refl _)⟩
theorem join_le (S : Nat) : ∀ l : List ByteArray, (∀ x ∈ l, x.size ≤ S) → (Lib.join (l.map (·.data.toList)) [32]).length ≤ (S + 1) * l.length := by
  intro l h
  cases l with
  | nil => simp [Lib.join_nil]
  | cons x r =>
    rw [List.map_cons, Lib.join_length]
    have hsum : ∀ (l : List ByteArray), (∀ x ∈ l, x.size ≤ S) → Lib.lens (l.map (·.data.toList)) ≤ S * l.length := by
      intro l h
      rw [lens_is]
      induction l with
      | nil => simp
      | cons y l ih =>
        have h1 := h y (by simp)
        have h2 := ih (fun z hz => h z (by simp [hz]))
        simp only [List.map_cons, List.sum_cons, List.length_cons, Nat.mul_add, Nat.mul_one]
        omega
    have := hsum (x :: r) h
    rw [List.map_cons] at this
    simp only [List.length_cons, List.length_map, List.length_nil, Nat.zero_add, Nat.one_mul, Nat.add_mul, Nat.mul_add, Nat.mul_one] at this ⊢
    omega
theorem tox_l0 (L : List ByteArray) (hs : ∀ x ∈ L, x.size ≤ 100000) (hl : L.length ≤ 6) (v : Int) (p : ByteArray) : ∀ (k i : Nat), L.length - i < k → i ≤ L.length → (∀ (j : Nat) (hj : j < L.length), j < i → badW L[j] = false) →
    POrdT.order_Order_toxic.l0 k L L (L.length : Int) (i : Int) v p ⟨#[]⟩ 0 ⟨#[]⟩ 0 false 0 0 0 = some ((toxW L).2.2.2.2.2.2, v, p, ⟨#[]⟩, 0, (toxW L).1, (toxW L).2.1, (toxW L).2.2.1, (toxW L).2.2.2.1, (toxW L).2.2.2.2.1, (toxW L).2.2.2.2.2.1) := by
  intro k
  induction k with
  | zero => intro i h; omega
  | succ k ih =>
    intro i h hi hb
    unfold POrdT.order_Order_toxic.l0
    by_cases hil : i < L.length
    · rw [if_pos (by omega), if_pos (by omega), if_pos (by omega), rdS_at L i hil]
      have hbad : badW L[i] = true → toxW L = (⟨#[]⟩, 0, false, 0, 0, 0, 90) := by
        intro h9
        unfold toxW
        rw [if_pos (List.any_eq_true.2 ⟨_, List.getElem_mem hil, h9⟩)]
      by_cases he : (L[i]).toList = []
      · rw [if_pos he, hbad (by unfold badW; rw [(toList_eq_iff _ _).1 (he.trans (by rw [ByteArray.toList_eq] : ([] : List UInt8) = (⟨#[]⟩ : ByteArray).toList))]; rfl)]
      · rw [if_neg he]
        have hc : strings_ContainsAny.f L[i] (⟨#[32, 9]⟩ : ByteArray) = some (hasTab L[i]) := by
          unfold strings_ContainsAny.f
          rw [if_pos ⟨rfl, by have := hs _ (List.getElem_mem hil); omega⟩]
        rw [hc, Option.bind_some]
        by_cases ht : hasTab L[i] = true
        · rw [if_pos ht, hbad (by unfold badW; rw [ht, Bool.or_true])]
        · rw [if_neg ht, show wrap64 ((i : Int) + 1) = ((i + 1 : Nat) : Int) by unfold wrap64; omega]
          refine ih (i + 1) (by omega) (by omega) (fun j hj hji => ?_)
          rcases Nat.lt_or_ge j i with h9 | h9
          · exact hb j hj h9
          · obtain rfl : j = i := by omega
            unfold badW
            rw [Bool.eq_false_iff.2 ht, Bool.or_false, decide_eq_false_iff_not]
            intro h0
            apply he
            rw [ByteArray.toList_eq]
            exact List.eq_nil_of_length_eq_zero h0
    · rw [if_neg (by omega)]
      have hj := join_le 100000 L hs
      have hlen : (Lib.join (L.map (·.data.toList)) [32]).length ≤ 600006 := by
        refine Nat.le_trans hj ?_
        refine Nat.le_trans (Nat.mul_le_mul_left _ hl) (by decide)
      have hjf : strings_Join.f L (⟨#[32]⟩ : ByteArray) = some (joined L ⟨#[32]⟩) := by
        unfold strings_Join.f
        rw [if_pos ⟨by omega, by show (Lib.join (L.map (·.data.toList)) [32]).length ≤ _; omega⟩]
      have hsz : (joined L (⟨#[32]⟩ : ByteArray)).size ≤ 600006 := by
        have := Cut.joined_data L
        rw [← this] at hlen
        rw [Array.length_toList] at hlen
        exact hlen
      rw [hjf, Option.bind_some, toxic_Parse.f, if_pos (by omega), Option.bind_some]
      have ht : toxW L = parseOf (joined L ⟨#[32]⟩) := by
        unfold toxW
        rw [if_neg]
        rw [Bool.not_eq_true, List.any_eq_false]
        intro x hx hc
        obtain ⟨j, hj, rfl⟩ := List.getElem_of_mem hx
        rw [hb j hj (by omega)] at hc
        cases hc
      rw [ht]
theorem tox_f (L : List ByteArray) (hs : ∀ x ∈ L, x.size ≤ 100000) (hl : L.length ≤ 6) (v : Int) (p : ByteArray) (k : Nat) (hk : 6 < k) :
    POrdT.order_Order_toxic.f k v p ⟨#[]⟩ 0 ⟨#[]⟩ 0 false 0 0 0 L = some ((toxW L).2.2.2.2.2.2, v, p, ⟨#[]⟩, 0, (toxW L).1, (toxW L).2.1, (toxW L).2.2.1, (toxW L).2.2.2.1, (toxW L).2.2.2.2.1, (toxW L).2.2.2.2.2.1) :=
  tox_l0 L hs hl v p k 0 (by omega) (by omega) (fun j hj h => by omega)
theorem verbOf_range (l : List ByteArray) : verbOf l = (0, []) ∨ ∃ k : Nat, k < 10 ∧ (verbOf l).1 = ((k + 1 : Nat) : Int) := by
  by_cases h : ∃ k, ∃ hk : k < vw.length, Beg l vw[k]
  · obtain ⟨k, hk, hb⟩ := h
    exact .inr ⟨k, hk, by rw [verbOf_at l k hk hb]⟩
  · refine .inl (verbOf_none l (fun w hw hb => h ?_))
    obtain ⟨k, hk, rfl⟩ := List.getElem_of_mem hw
    exact ⟨k, hk, hb⟩
theorem verb_tail (l : List ByteArray) : ∀ x ∈ (verbOf l).2, x ∈ l := by
  by_cases h : ∃ k, ∃ hk : k < vw.length, Beg l vw[k]
  · obtain ⟨k, hk, hb⟩ := h
    rw [verbOf_at l k hk hb]
    exact fun x hx => List.mem_of_mem_drop hx
  · rw [verbOf_none l (fun w hw hb => h (by obtain ⟨k, hk, rfl⟩ := List.getElem_of_mem hw; exact ⟨k, hk, hb⟩))]
    intro x hx; cases hx
theorem verb_long (l : List ByteArray) (h : (verbOf l).1 ≠ 0) : l.length ≤ (verbOf l).2.length + 2 := by
  by_cases h2 : ∃ k, ∃ hk : k < vw.length, Beg l vw[k]
  · obtain ⟨k, hk, hb⟩ := h2
    have h3 : ∀ k (hk : k < vw.length), (vw[k]).length ≤ 2 := by decide +kernel
    rw [verbOf_at l k hk hb, List.length_drop]
    have := h3 k hk
    omega
  · rw [verbOf_none l (fun w hw hb => h2 (by obtain ⟨k, hk, rfl⟩ := List.getElem_of_mem hw; exact ⟨k, hk, hb⟩))] at h
    exact absurd rfl h
abbrev ordT (t : T11) : Value := .tuple #[.agg (ordC t.1 t.2.1 t.2.2.1 t.2.2.2.1 t.2.2.2.2.1 t.2.2.2.2.2.1 t.2.2.2.2.2.2.1 t.2.2.2.2.2.2.2.1 t.2.2.2.2.2.2.2.2.1 t.2.2.2.2.2.2.2.2.2.1), .int .i64 t.2.2.2.2.2.2.2.2.2.2]
theorem fromWords_is (A0 : Option Addr) (c0 : Nat) (l0 : List ByteArray) (w : World) (hT : Aside0 (Tab w)) (hr0 : Kd.C Kd.string w A0 l0.length l0) (hc0 : l0.length ≤ c0) (hm0 : l0.length ≤ 4611686018427387904) (hs : l0.length ≤ 9 → ∀ x ∈ l0, x.size ≤ 100000) :
    Calls Tryz.prog 9 #[.slice A0 l0.length c0] w fun e w' => e = .returned (ordT (fromW l0)) ∧ Below w.heap.size w w' := by
  by_cases hl : l0 = []
  · subst hl
    exact from_nil A0 c0 w
  obtain ⟨v, hvv⟩ : ∃ v, (verbOf l0).1 = v := ⟨_, rfl⟩
  obtain ⟨r, hrr⟩ : ∃ r, (verbOf l0).2 = r := ⟨_, rfl⟩
  have hrs : l0.length ≤ 9 → ∀ x ∈ r, x.size ≤ 100000 := fun h9 x hx => hs h9 x (verb_tail l0 x (by rw [hrr]; exact hx))
  have hlr := verb_long l0
  rw [hrr] at hlr
  have hF : fromW l0 = if v = 0 then none11 162 else
      if (r.length : Int) < (mostOf v).1 ∨ (mostOf v).2 < (r.length : Int) then none11 161 else
      if v = 8 ∨ v = 10 then (v, ⟨#[]⟩, ⟨#[]⟩, 0, ⟨#[]⟩, 0, false, 0, 0, 0, 0) else
      if v = 1 then (if (tickParse (r.getD 1 ⟨#[]⟩)).2 = 0 then (v, r.getD 0 ⟨#[]⟩, ⟨#[]⟩, (tickParse (r.getD 1 ⟨#[]⟩)).1, ⟨#[]⟩, 0, false, 0, 0, 0, 0) else none11 162) else
      if v = 6 then (v, r.getD 0 ⟨#[]⟩, r.getD 1 ⟨#[]⟩, 0, ⟨#[]⟩, 0, false, 0, 0, 0, 0) else
      if v = 5 ∨ v = 7 then (if (toxW (r.drop 1)).2.2.2.2.2.2 = 0 then (v, r.getD 0 ⟨#[]⟩, ⟨#[]⟩, 0, (toxW (r.drop 1)).1, (toxW (r.drop 1)).2.1, (toxW (r.drop 1)).2.2.1, (toxW (r.drop 1)).2.2.2.1, (toxW (r.drop 1)).2.2.2.2.1, (toxW (r.drop 1)).2.2.2.2.2.1, 0) else none11 (toxW (r.drop 1)).2.2.2.2.2.2)
      else (v, r.getD 0 ⟨#[]⟩, ⟨#[]⟩, 0, ⟨#[]⟩, 0, false, 0, 0, 0, 0) := by
    unfold fromW
    rw [if_neg hl, hvv, hrr]
  by_cases h0 : v = 0
  · rw [hF, if_pos h0]
    exact from_short A0 c0 l0 hl w hT hr0 hc0 hm0 (hvv.trans h0)
  rw [if_neg h0] at hF
  have hv10 : 1 ≤ v ∧ v ≤ 10 := by
    rcases verbOf_range l0 with h | ⟨k, hk, h⟩
    · rw [h] at hvv; exact absurd hvv.symm h0
    · rw [hvv] at h; omega
  have hmost := most_is v
  by_cases hm : (r.length : Int) < (mostOf v).1 ∨ (mostOf v).2 < (r.length : Int)
  · rw [hF, if_pos hm]
    refine from_many A0 c0 l0 hl w hT hr0 hc0 hm0 v r hvv hrr h0 (mostOf v).1 (mostOf v).2 hmost ?_
    rcases hm with h | h
    · exact .inl h
    · by_cases h2 : (r.length : Int) < (mostOf v).1
      · exact .inl h2
      · exact .inr ⟨h2, h⟩
  rw [if_neg hm] at hF
  have hb1 : ¬ (r.length : Int) < (mostOf v).1 := fun h => hm (.inl h)
  have hb2 : ¬ (mostOf v).2 < (r.length : Int) := fun h => hm (.inr h)
  have hnp := noProxy_is v
  have htx := toxical_is v
  by_cases h8 : v = 8 ∨ v = 10
  · rw [hF, if_pos h8]
    exact from_alone A0 c0 l0 hl w hT hr0 hc0 hm0 v r hvv hrr h0 _ _ hmost hb1 hb2 (by rw [hnp, decide_eq_true h8])
  rw [if_neg h8] at hF
  rw [decide_eq_false h8] at hnp
  have hmo : mostOf v = if v = 5 ∨ v = 7 then (6, 7) else if v = 1 ∨ v = 6 then (2, 2) else (1, 1) := by unfold mostOf; rw [if_neg h8]
  by_cases h1 : v = 1
  · rw [if_pos h1] at hF
    have hr2 : r.length = 2 := by rw [hmo, if_neg (by omega), if_pos (.inl h1)] at hb1 hb2; simp at hb1 hb2; omega
    obtain ⟨p, q, rfl⟩ : ∃ p q, r = [p, q] := by
      match r, hr2 with
      | [p, q], _ => exact ⟨p, q, rfl⟩
    obtain ⟨n, er, hte⟩ : ∃ n er, tickParse q = (n, er) := ⟨_, _, rfl⟩
    have hg : tickParse (([p, q] : List ByteArray).getD 1 ⟨#[]⟩) = (n, er) := hte
    rw [hg] at hF
    by_cases he : er = 0
    · subst he
      rw [hF, if_pos rfl]
      exact from_number A0 c0 l0 hl w hT hr0 hc0 hm0 v _ hvv hrr h0 _ _ hmost hb1 hb2 hnp h1 p q n hte rfl
    · rw [hF, if_neg he]
      exact from_numbad A0 c0 l0 hl w hT hr0 hc0 hm0 v _ hvv hrr h0 _ _ hmost hb1 hb2 hnp h1 p q n er hte he rfl
  rw [if_neg h1] at hF
  by_cases h6 : v = 6
  · rw [if_pos h6] at hF
    have hr2 : r.length = 2 := by rw [hmo, if_neg (by omega), if_pos (.inr h6)] at hb1 hb2; simp at hb1 hb2; omega
    obtain ⟨p, q, rfl⟩ : ∃ p q, r = [p, q] := by
      match r, hr2 with
      | [p, q], _ => exact ⟨p, q, rfl⟩
    rw [hF]
    exact from_name A0 c0 l0 hl w hT hr0 hc0 hm0 v _ hvv hrr h0 _ _ hmost hb1 hb2 hnp h1 h6 p q rfl
  rw [if_neg h6] at hF
  by_cases h5 : v = 5 ∨ v = 7
  · rw [if_pos h5] at hF
    rw [decide_eq_true h5] at htx
    have hr7 : 6 ≤ r.length ∧ r.length ≤ 7 := by rw [hmo, if_pos h5] at hb1 hb2; simp at hb1 hb2; omega
    obtain ⟨p, L, rfl⟩ : ∃ p L, r = p :: L := by
      match r, hr7 with
      | p :: L, _ => exact ⟨p, L, rfl⟩
      | [], h => simp at h
    have hL : L.length ≤ 6 := by simp at hr7; omega
    have h9 : l0.length ≤ 9 := by have := hlr (by rw [hvv]; exact h0); rw [List.length_cons] at this; omega
    have htf := tox_f L (fun x hx => hrs h9 x (by simp [hx])) hL v p 7 (by decide)
    rw [List.drop_succ_cons, List.drop_zero] at hF
    by_cases he : (toxW L).2.2.2.2.2.2 = 0
    · rw [hF, if_pos he]
      exact from_toxic A0 c0 l0 hl w hT hr0 hc0 hm0 v _ hvv hrr h0 _ _ hmost hb1 hb2 hnp htx h1 h6 p L rfl 7 _ _ _ _ _ _ _ htf he
    · rw [hF, if_neg he]
      exact from_toxbad A0 c0 l0 hl w hT hr0 hc0 hm0 v _ hvv hrr h0 _ _ hmost hb1 hb2 hnp htx h1 h6 p L rfl 7 _ _ _ _ _ _ _ htf he
  rw [if_neg h5] at hF
  rw [decide_eq_false h5] at htx
  have hr1 : r.length = 1 := by rw [hmo, if_neg h5, if_neg (by omega)] at hb1 hb2; simp at hb1 hb2; omega
  obtain ⟨p, rs, rfl⟩ : ∃ p rs, r = p :: rs := by
    match r, hr1 with
    | p :: rs, _ => exact ⟨p, rs, rfl⟩
  rw [hF]
  exact from_plain A0 c0 l0 hl w hT hr0 hc0 hm0 v _ hvv hrr h0 _ _ hmost hb1 hb2 hnp htx h1 h6 p rs rfl
def okW (l : List ByteArray) : Bool := decide (l.length ≤ 4611686018427387904) && (decide (9 < l.length) || l.all fun x => decide (x.size ≤ 100000))
def order_FromWords.f (l0 : List ByteArray) : Option T11 := if okW l0 = true then some (fromW l0) else none
theorem order_FromWords.calls (A0 : Option Addr) (c0 : Nat) (l0 : List ByteArray) (r1 : Int) (r2 : ByteArray) (r3 : ByteArray) (r4 : Int) (r5 : ByteArray) (r6 : Int) (r7 : Bool) (r8 : Int) (r9 : Int) (r10 : Int) (r11 : Int) (w : World) (hr0 : Kd.C Kd.string w A0 l0.length l0) (hc0 : l0.length ≤ c0) (hT : Aside0 (Tab w)) (h : order_FromWords.f l0 = some (r1, r2, r3, r4, r5, r6, r7, r8, r9, r10, r11)) :
    Calls Tryz.prog 9 #[.slice A0 l0.length c0] w fun e w' => e = .returned (.tuple #[.agg #[.int .i64 r1, .string r2, .string r3, .int .i64 r4, .string r5, .int .i64 r6, .bool r7, .int .i64 r8, .int .i64 r9, .int .i64 r10], .int .i64 r11]) ∧ Below w.heap.size w w' := by
  unfold order_FromWords.f at h
  split at h
  · rename_i ho
    unfold okW at ho
    rw [Bool.and_eq_true, decide_eq_true_eq, Bool.or_eq_true, decide_eq_true_eq, List.all_eq_true] at ho
    have := fromWords_is A0 c0 l0 w hT hr0 hc0 ho.1 (fun h9 x hx => of_decide_eq_true (ho.2.resolve_left (by omega) x hx))
    rw [Option.some.inj h] at this
    exact this
  · cases h
end Go.Proofs.YtlglbpjccpdloaaGreatDoor.Ext
set_option linter.unusedVariables false
set_option linter.unusedSimpArgs false
namespace Go.Proofs.YtlglbpjccpdloaaGreatDoor.Ext
open Go.RowKit Go.Proofs.YtlglbpjccpdloaaGreatDoorW.PrintWords Go.Proofs.YtlglbpjccpdloaaGreatDoorW.PrintLast
theorem on_disable (w : World) : (callFunc 140 #[]).run Tryz.prog w = .ok (.value (.tuple #[])) w := run_call_mark0 Tryz.func140 (by kernel_rfl) (by kernel_rfl) (by kernel_rfl) .disable (by kernel_rfl) w
theorem on_enable (w : World) : (callFunc 142 #[]).run Tryz.prog w = .ok (.value (.tuple #[])) w := run_call_mark0 Tryz.func142 (by kernel_rfl) (by kernel_rfl) (by kernel_rfl) .enable (by kernel_rfl) w
theorem on_acquire (a : Addr) (w : World) : (callFunc 143 #[.pointer (some a)]).run Tryz.prog w = .ok (.value (.tuple #[])) w := run_call_marked Tryz.func143 (by kernel_rfl) (by kernel_rfl) (by kernel_rfl) .acquire (by kernel_rfl) a w
theorem on_release (a : Addr) (w : World) : (callFunc 145 #[.pointer (some a)]).run Tryz.prog w = .ok (.value (.tuple #[])) w := run_call_marked Tryz.func145 (by kernel_rfl) (by kernel_rfl) (by kernel_rfl) .releaseMerge (by kernel_rfl) a w
theorem on_store_deferred (a : Addr) (x : Value) (u : FrameMode) (w : World) (hc : w.cell? a = some x) (hz : w.frozen? a = false) :
    CallsD Tryz.prog 123 #[.pointer (some a), .bool true] u w fun e u' w' => u' = u ∧ (e = .returned (.tuple #[]) ∧ w' = w.drew.setCell a (.int .u32 1)) := by
  have hc' : w.drew.cell? a = some x := by go_simp
  have hz' : w.drew.frozen? a = false := by go_simp
  have hst := run_call_store (P := Tryz.prog) Tryz.func133 (by kernel_rfl) (by kernel_rfl) (by kernel_rfl) (by kernel_rfl) (k := .u32) (y := 1) hc' hz'
  go_enter_d Tryz.func123, Tryz.ntmps123
  go_wp2
  go_region_calls
  all_goals (go_end0; exact ⟨rfl, rfl⟩)
set_option maxRecDepth 100000 in
theorem on_unlock_deferred (a : Addr) (u : FrameMode) (w : World) (hc : w.cell? a = some (.int .i32 1)) (hz : w.frozen? a = false) :
    CallsD Tryz.prog 122 #[.pointer (some a)] u w fun e u' w' => u' = u ∧ (e = .returned (.tuple #[]) ∧ w' = w.setCell a (.int .i32 0)) := by
  have hd := on_disable
  have he := on_enable
  have hr := on_release
  have hadd := run_call_add (P := Tryz.prog) Tryz.func146 (by kernel_rfl) (by kernel_rfl) (by kernel_rfl) .i32 (by kernel_rfl) (y := -1) (s := 0) hc hz (by simp [go_sem]; rfl)
  have hcv := run_convert_to_unsafe (P := Tryz.prog) (src := 181) (dst := 146) Tryz.underlying181 Tryz.underlying146 (by kernel_rfl) hc
  go_enter_d Tryz.func122, Tryz.ntmps122
  go_wp2
  go_end0
  go_wp2
  go_end0
  exact ⟨rfl, rfl⟩
set_option maxRecDepth 100000 in
theorem on_lock_free (a : Addr) (w : World) (hc : w.cell? a = some (.int .i32 0)) (hz : w.frozen? a = false) :
    Calls Tryz.prog 121 #[.pointer (some a)] w fun e w' => e = .returned (.tuple #[]) ∧ w' = w.setCell a (.int .i32 1) := by
  have hd := on_disable
  have he := on_enable
  have ha := on_acquire
  have hcas := run_call_cas_hit (P := Tryz.prog) Tryz.func141 (by kernel_rfl) (by kernel_rfl) (by kernel_rfl) .i32 (by kernel_rfl) (y := 1) hc hz
  have hc' : (w.setCell a (.int .i32 1)).cell? a = some (.int .i32 1) := World.cell?_setCell_same w a _ hc
  have hcv := run_convert_to_unsafe (P := Tryz.prog) (src := 181) (dst := 146) Tryz.underlying181 Tryz.underlying146 (by kernel_rfl) hc'
  go_enter Tryz.func121, Tryz.ntmps121
  go_wp2
  first | go_end0 | (simp only [Exit.inBlock, Exit.then]; refine bodyPost_ret (results_none rfl _ _ _) rfl ?_) | refine bodyPost_ret (results_none rfl _ _ _) rfl ?_
  go_wp2
  go_end0
  exact ⟨rfl, rfl⟩
theorem lt_of_cell {w : World} {g j : Nat} {v : Value} (h : w.cell? ⟨g, j, none⟩ = some v) : g < w.heap.size := by
  have := World.block_lt_of_cell? _ _ h
  exact this
def cBn (n : Nat) (f34 f92 tr : Value) : Array Value := ((((List.replicate n (Value.slice none 0 0)).set 34 f34).set 92 f92).set 256 tr).toArray
theorem cBn_size (n : Nat) (f34 f92 tr : Value) : (cBn n f34 f92 tr).size = n := by simp [cBn]
theorem cBn_34 (n : Nat) (h : 256 < n) (f34 f92 tr : Value) : (cBn n f34 f92 tr)[34]? = some f34 := by simp [cBn, show 34 < n by omega]
theorem cBn_92 (n : Nat) (h : 256 < n) (f34 f92 tr : Value) : (cBn n f34 f92 tr)[92]? = some f92 := by simp [cBn, show 92 < n by omega]
theorem cBn_256 (n : Nat) (h : 256 < n) (f34 f92 tr : Value) : (cBn n f34 f92 tr)[256]? = some tr := by simp [cBn, h]
theorem cBn_at (n : Nat) (h : 256 < n) (f34 f92 tr : Value) (b : Nat) (hb : b < 256) (h1 : b ≠ 34) (h2 : b ≠ 92) : (cBn n f34 f92 tr)[b]? = some (.slice none 0 0) := by
  simp [cBn, List.getElem?_set, Ne.symm h1, Ne.symm h2, show 256 ≠ b by omega, List.getElem?_replicate, show b < n by omega]
theorem cBn_set34 (n : Nat) (f34 f92 tr v : Value) : (cBn n f34 f92 tr).setIfInBounds 34 v = cBn n v f92 tr := by
  simp only [cBn, List.setIfInBounds_toArray]
  rw [List.set_comm _ _ (by decide : 256 ≠ 34), List.set_comm _ _ (by decide : 92 ≠ 34), List.set_set]
theorem cBn_set92 (n : Nat) (f34 f92 tr v : Value) : (cBn n f34 f92 tr).setIfInBounds 92 v = cBn n f34 v tr := by
  simp only [cBn, List.setIfInBounds_toArray]
  rw [List.set_comm _ _ (by decide : 256 ≠ 92), List.set_set]
theorem cBn_set256 (n : Nat) (f34 f92 tr v : Value) : (cBn n f34 f92 tr).setIfInBounds 256 v = cBn n f34 f92 v := by
  simp only [cBn, List.setIfInBounds_toArray]
  rw [List.set_set]
theorem cBn_new (n : Nat) (tr : Value) : (List.replicate n (Value.slice none 0 0)).set 256 tr = (cBn n (.slice none 0 0) (.slice none 0 0) tr).toList := by
  simp only [cBn]
  have e : ∀ k, (List.replicate n (Value.slice none 0 0)).set k (Value.slice none 0 0) = List.replicate n (Value.slice none 0 0) := by
    intro k
    apply List.ext_getElem?
    intro i
    rw [List.getElem?_set]
    split <;> simp_all [List.getElem?_replicate]
  rw [e, e]
theorem cBn_one (n : Nat) (tr : Value) (h : tr.oneCell' = true) : (cBn n (.slice none 0 0) (.slice none 0 0) tr).all (·.oneCell') = true := by
  have : ∀ v ∈ (List.replicate n (Value.slice none 0 0)).set 256 tr, v.oneCell' = true := by
    intro v hv
    rcases List.mem_or_eq_of_mem_set hv with hv | rfl
    · rw [List.eq_of_mem_replicate hv]; rfl
    · exact h
  rw [← Array.all_toList, ← cBn_new]
  exact List.all_eq_true.2 this
@[irreducible] def nB : Nat := 257
theorem nB_is : nB = 257 := by unfold nB; rfl
theorem nB_big : 256 < nB := by rw [nB_is]; decide
def cB (f34 f92 tr : Value) : Array Value := cBn nB f34 f92 tr
theorem cB_size (f34 f92 tr : Value) : (cB f34 f92 tr).size = nB := cBn_size _ _ _ _
theorem cB_34 (f34 f92 tr : Value) : (cB f34 f92 tr)[34]? = some f34 := cBn_34 _ nB_big _ _ _
theorem cB_92 (f34 f92 tr : Value) : (cB f34 f92 tr)[92]? = some f92 := cBn_92 _ nB_big _ _ _
theorem cB_256 (f34 f92 tr : Value) : (cB f34 f92 tr)[256]? = some tr := cBn_256 _ nB_big _ _ _
theorem cB_at (f34 f92 tr : Value) (b : Nat) (hb : b < 256) (h1 : b ≠ 34) (h2 : b ≠ 92) : (cB f34 f92 tr)[b]? = some (.slice none 0 0) := cBn_at _ nB_big _ _ _ b hb h1 h2
theorem cB_set34 (f34 f92 tr v : Value) : (cB f34 f92 tr).setIfInBounds 34 v = cB v f92 tr := cBn_set34 _ _ _ _ _
theorem cB_set92 (f34 f92 tr v : Value) : (cB f34 f92 tr).setIfInBounds 92 v = cB f34 v tr := cBn_set92 _ _ _ _ _
theorem cB_set256 (f34 f92 tr v : Value) : (cB f34 f92 tr).setIfInBounds 256 v = cB f34 f92 v := cBn_set256 _ _ _ _ _
set_option maxRecDepth 100000 in
theorem zero_is : Tryz.zeroCells163 = (List.replicate nB (Value.slice none 0 0)).toArray := by rw [nB_is]; kernel_rfl
theorem info_bs : (Tryz.prog.info? 163).map (·.size) = some nB := by rw [nB_is]; kernel_rfl
theorem cB_new (tr : Value) : Tryz.zeroCells163.toList.set 256 tr = (cB (.slice none 0 0) (.slice none 0 0) tr).toList := by
  rw [zero_is]
  exact cBn_new nB tr
def Byt (W : World) (v : Value) (a b : Int) : Prop := ∃ x cap c fr, v = .slice (some ⟨x, 0, none⟩) 2 cap ∧ W.heap[x]? = some (.cells c 5 fr) ∧ c[0]? = some (.int .u8 a) ∧ c[1]? = some (.int .u8 b)
theorem byt_new (W : World) (a b : UInt8) (cap : Nat) : Byt (Lib.bytesWorld W 5 ⟨#[a, b]⟩) (.slice (some ⟨W.heap.size, 0, none⟩) (ByteArray.size ⟨#[a, b]⟩) cap) a.toNat b.toNat := by
  refine ⟨_, cap, _, _, rfl, Lib.bytesWorld_at_new W 5 _, ?_, ?_⟩
  · have := Lib.bytesWorld_cell W 5 ⟨#[a, b]⟩ 0 (by show 0 < 2; omega)
    rw [cell_of_row _ _ _ _ _ _ (Lib.bytesWorld_at_new W 5 _)] at this
    exact this
  · have := Lib.bytesWorld_cell W 5 ⟨#[a, b]⟩ 1 (by show 1 < 2; omega)
    rw [cell_of_row _ _ _ _ _ _ (Lib.bytesWorld_at_new W 5 _)] at this
    exact this
theorem byt_move {W W' : World} {v : Value} {a b : Int} (h : Byt W v a b) (hm : ∀ (x : Nat) (c : Array Value) (fr : Nat × Nat), W.heap[x]? = some (Obj.cells c 5 fr) → W'.heap[x]? = W.heap[x]?) : Byt W' v a b := by
  obtain ⟨x, cap, c, fr, rfl, h1, h2, h3⟩ := h
  exact ⟨x, cap, c, fr, rfl, (hm x c fr h1).trans h1, h2, h3⟩
theorem byt_grown {W w1 : World} {v u : Value} {a b : Int} {base e n : Nat} {xs : List Value} (h : Byt W v a b) (hg : W.grownBy w1 u.ownBlock) (ho : W.ownsRow base e 1 u n xs) (he : e ≠ 5) : Byt w1 v a b :=
  byt_move h fun x c fr hx => hg.block x (blk_lt hx) (fun hh => by
    obtain ⟨cells, hc⟩ := own_typed ho x hh.symm
    rw [hx] at hc
    injection hc with hc
    injection hc with _ h2 _
    exact he h2.symm)
theorem byt_set {W : World} {v : Value} {a b : Int} {g t : Nat} {cs : Array Value} (h : Byt W v a b) (hg : W.heap[g]? = some (.cells cs t (0, 0))) (ht : t ≠ 5) (j : Nat) (u : Value) : Byt (W.setCell ⟨g, j, none⟩ u) v a b :=
  byt_move h fun x c fr hx => Below.heap_setCell W ⟨g, j, none⟩ u x (fun hh => by
    have hh : x = g := hh
    rw [hh] at hx
    rw [hx] at hg
    injection hg with hg
    injection hg with _ h2 _
    exact ht h2.symm)
theorem byt_below {W w1 : World} {v : Value} {a b : Int} (h : Byt W v a b) (hb : Below W.heap.size W w1) : Byt w1 v a b := byt_move h fun x c fr hx => hb.block x (blk_lt hx)
structure BSt (w W : World) (g : Nat) : Prop where
  ex : ∃ f34 f92 tr xs, W.heap[w.heap.size + 1]? = some (.cells (cB f34 f92 tr) 163 (0, 0)) ∧ W.ownsRow w.heap.size 9 1 tr xs.length xs ∧ Below w.heap.size w W ∧
    (2 ≤ g → f34 = .slice none 0 0 ∧ xs = []) ∧ (1 ≤ g → f92 = .slice none 0 0) ∧ (g ≤ 1 → Byt W f34 92 34 ∧ ∃ ys, xs = Value.string ⟨#[34]⟩ :: ys ∧ (g = 1 → ys = []) ∧ (g = 0 → ys = [Value.string ⟨#[92]⟩])) ∧ (g = 0 → Byt W f92 92 92)
theorem info_str : (Tryz.prog.info? 9).map (fun i => (i.zero, i.size, i.bytes)) = some (some (.string ByteArray.empty), 1, 16) := by kernel_rfl
theorem bst_start (w : World) : BSt w ((w.alloc (.cells #[.string ByteArray.empty, .string ByteArray.empty] 9)).alloc (.cells (cB (.slice none 0 0) (.slice none 0 0) (.slice (some ⟨w.heap.size, 0, none⟩) 0 2)) 163)) 2 :=
  ⟨_, _, _, [], by have := heap_alloc_new (w.alloc (.cells #[.string ByteArray.empty, .string ByteArray.empty] 9)) (.cells (cB (.slice none 0 0) (.slice none 0 0) (.slice (some ⟨w.heap.size, 0, none⟩) 0 2)) 163); simpa using this,
    (World.ownsRow_made (base := w.heap.size) (e := 9) (size := 1) w #[.string ByteArray.empty, .string ByteArray.empty] 2 (Nat.le_refl _) (by simp [maxLen]) rfl).alloc _, below_alloc (below_alloc (Below.refl _ _) _) _, fun _ => ⟨rfl, rfl⟩, fun _ => rfl, fun h => by omega, fun h => by omega⟩
theorem bst_parts {w wr w1 : World} {cs : Array Value} {tr v1 : Value} {n m j : Nat} {xs ys : List Value} {o : Obj} {s : ByteArray} {V : Value}
    (hc : wr.heap[w.heap.size + 1]? = some (.cells cs 163 (0, 0))) (ho : wr.ownsRow w.heap.size 9 1 tr n xs) (hb : Below w.heap.size w wr)
    (hown : w1.ownsRow w.heap.size 9 1 v1 m ys) (hbel : Below w.heap.size (wr.alloc o) w1) (hg : (wr.alloc o).grownBy w1 tr.ownBlock) :
    w1.heap[w.heap.size + 1]? = some (.cells cs 163 (0, 0)) ∧ (w1.setCell ⟨w.heap.size + 1, 256, none⟩ v1).heap[w.heap.size + 1]? = some (.cells (cs.setIfInBounds 256 v1) 163 (0, 0)) ∧
    (Lib.bytesWorld (w1.setCell ⟨w.heap.size + 1, 256, none⟩ v1) 5 s).heap[w.heap.size + 1]? = some (.cells (cs.setIfInBounds 256 v1) 163 (0, 0)) ∧
    ((Lib.bytesWorld (w1.setCell ⟨w.heap.size + 1, 256, none⟩ v1) 5 s).setCell ⟨w.heap.size + 1, j, none⟩ V).heap[w.heap.size + 1]? = some (.cells ((cs.setIfInBounds 256 v1).setIfInBounds j V) 163 (0, 0)) ∧
    ((Lib.bytesWorld (w1.setCell ⟨w.heap.size + 1, 256, none⟩ v1) 5 s).setCell ⟨w.heap.size + 1, j, none⟩ V).ownsRow w.heap.size 9 1 v1 m ys ∧ Below w.heap.size w ((Lib.bytesWorld (w1.setCell ⟨w.heap.size + 1, 256, none⟩ v1) 5 s).setCell ⟨w.heap.size + 1, j, none⟩ V) := by
  have hlt := blk_lt hc
  have h0 : (wr.alloc o).heap[w.heap.size + 1]? = some (.cells cs 163 (0, 0)) := (Below.heap_alloc _ _ _ hlt).trans hc
  have h1 := blk_grown h0 hg (own_ne (ho.alloc o) h0 (by decide))
  have h2 := blk_set h1 256 v1
  have hs : w.heap.size ≤ w1.heap.size := by have := blk_lt h1; omega
  have h3 : (Lib.bytesWorld (w1.setCell ⟨w.heap.size + 1, 256, none⟩ v1) 5 s).heap[w.heap.size + 1]? = _ := (Lib.bytesWorld_at_old _ _ _ _ (blk_lt h2)).trans h2
  have o2 : (w1.setCell ⟨w.heap.size + 1, 256, none⟩ v1).ownsRow w.heap.size 9 1 v1 m ys := own_setCell hown (own_ne hown h1 (by decide)) _
  have b1 : Below w.heap.size w w1 := (hb.alloc hb.size o).trans hbel
  have b2 : Below w.heap.size w (w1.setCell ⟨w.heap.size + 1, 256, none⟩ v1) := b1.setCell (by simp) _
  have b3 := bytes_below b2 (by simpa using hs) 5 s
  have o3 : (Lib.bytesWorld (w1.setCell ⟨w.heap.size + 1, 256, none⟩ v1) 5 s).ownsRow w.heap.size 9 1 v1 m ys := own_move o2 (fun k hk => Lib.bytesWorld_at_old _ _ _ _ (own_lt o2 k hk))
  exact ⟨h1, h2, h3, blk_set h3 j V, own_setCell o3 (own_ne o3 h3 (by decide)) _, b3.setCell (by simp) _⟩
theorem bst_byt {w wr w1 : World} {cs : Array Value} {tr v1 f : Value} {n m j : Nat} {xs ys : List Value} {o : Obj} {s : ByteArray} {V : Value} {a b : Int}
    (hc : wr.heap[w.heap.size + 1]? = some (.cells cs 163 (0, 0))) (ho : wr.ownsRow w.heap.size 9 1 tr n xs) (hb : Below w.heap.size w wr)
    (hown : w1.ownsRow w.heap.size 9 1 v1 m ys) (hbel : Below w.heap.size (wr.alloc o) w1) (hg : (wr.alloc o).grownBy w1 tr.ownBlock) (hf : Byt wr f a b) :
    Byt ((Lib.bytesWorld (w1.setCell ⟨w.heap.size + 1, 256, none⟩ v1) 5 s).setCell ⟨w.heap.size + 1, j, none⟩ V) f a b := by
  obtain ⟨h1, h2, h3, _⟩ := bst_parts (j := 0) (s := s) (V := V) hc ho hb hown hbel hg
  have f1 : Byt w1 f a b := byt_grown (byt_below hf (below_alloc (Below.refl _ _) o)) hg (ho.alloc o) (by decide)
  have f2 := byt_set f1 h1 (by decide) 256 v1
  exact byt_set (byt_below f2 (bytes_below (Below.refl _ _) (Nat.le_refl _) 5 s)) h3 (by decide) j V
theorem bst_new {w W : World} {cs : Array Value} {a b : UInt8} {cap j : Nat} {V : Value} (h2 : W.heap[w.heap.size + 1]? = some (.cells cs 163 (0, 0))) :
    Byt ((Lib.bytesWorld W 5 ⟨#[a, b]⟩).setCell ⟨w.heap.size + 1, j, none⟩ V) (.slice (some ⟨W.heap.size, 0, none⟩) (ByteArray.size ⟨#[a, b]⟩) cap) a.toNat b.toNat :=
  byt_set (byt_new W a b cap) ((Lib.bytesWorld_at_old _ _ _ _ (blk_lt h2)).trans h2) (by decide) j V
theorem bst_new1 {w w1 : World} {cs : Array Value} {v1 : Value} {a b : UInt8} {cap j : Nat} {V : Value} (h2 : (w1.setCell ⟨w.heap.size + 1, 256, none⟩ v1).heap[w.heap.size + 1]? = some (.cells cs 163 (0, 0))) :
    Byt ((Lib.bytesWorld (w1.setCell ⟨w.heap.size + 1, 256, none⟩ v1) 5 ⟨#[a, b]⟩).setCell ⟨w.heap.size + 1, j, none⟩ V) (.slice (some ⟨w1.heap.size, 0, none⟩) 2 cap) a.toNat b.toNat := by
  have h := bst_new (a := a) (b := b) (cap := cap) (j := j) (V := V) h2
  rw [show (w1.setCell ⟨w.heap.size + 1, 256, none⟩ v1).heap.size = w1.heap.size by simp] at h
  exact h
set_option maxRecDepth 100000 in
set_option maxHeartbeats 4000000 in
theorem rp_build (w : World) (R g c : Nat) (x0 x1 x2 x3 : Value) (hR : w.heap[R]? = some (.cells #[x0, x1, x2, x3, .slice (some ⟨g, 0, none⟩) 4 c] 117 (0, 0)))
    (h0 : w.cell? ⟨g, 0, none⟩ = some (.string ⟨#[92]⟩)) (h1 : w.cell? ⟨g, 1, none⟩ = some (.string ⟨#[92, 92]⟩)) (h2 : w.cell? ⟨g, 2, none⟩ = some (.string ⟨#[34]⟩)) (h3 : w.cell? ⟨g, 3, none⟩ = some (.string ⟨#[92, 34]⟩)) :
    Calls Tryz.prog 105 #[.pointer (some ⟨R, 0, none⟩)] w fun e w' => e = .returned (.iface 164 (.pointer (some ⟨w.heap.size + 1, 0, none⟩))) ∧ BSt w w' 0 := by
  have r4 : w.cell? ⟨R, 4, none⟩ = some (.slice (some ⟨g, 0, none⟩) 4 c) := (blk_cell hR 4).trans rfl
  have hmk : ∀ w, (Instr.makeSlice 22 (.int .i64 0) (.int .i64 2)).run Tryz.prog w = .ok (.slice (some ⟨w.heap.size, 0, none⟩) 0 2) (w.alloc (.cells #[.string ByteArray.empty, .string ByteArray.empty] 9)) := fun _ => by kernel_rfl
  have hst := run_storeCells_new (P := Tryz.prog) (w.alloc (.cells #[.string ByteArray.empty, .string ByteArray.empty] 9)) 163 Tryz.zeroCells163 (cB (.slice none 0 0) (.slice none 0 0) (.slice (some ⟨w.heap.size, 0, none⟩) 0 2)) (by rw [cB_size]; exact info_bs) (by rw [cB_size, zero_is]; simp) (cBn_one _ _ rfl)
  rw [← cB_new, show (w.alloc (.cells #[.string ByteArray.empty, .string ByteArray.empty] 9)).heap.size = w.heap.size + 1 by simp] at hst
  have hr0 := lt_of_cell h0
  have HS := Lib.hid (bst_start w)
  go_enter Tryz.func105, Tryz.ntmps105
  go_wp2_with fail
  refine wp_loop_rounds 3 ?_
  rw [rounds_succ]
  go_wp2_with fail
  rw [rounds_succ]
  go_wp2_with fail
  rw [rounds_succ]
  go_wp2_with fail
  go_loopg [12] 2 (fun g v12 W => g ≤ 2 ∧ v12 = .int .i64 (2 * (g : Int) - 2) ∧ BSt w W g)
  case atStart => exact ⟨by omega, rfl, HS.out⟩
  case round =>
    obtain ⟨hg2, rfl, hB⟩ := hrel
    clear hst hmk HS r4
    obtain ⟨f34, f92, tr, xs, hc, ho, hb, p2, p1, q1, q0⟩ := hB.ex
    have hsz := hb.size
    have k0 := (hb.cell (p := ⟨g, 0, none⟩) hr0).trans h0
    have k1 := (hb.cell (p := ⟨g, 1, none⟩) hr0).trans h1
    have k2 := (hb.cell (p := ⟨g, 2, none⟩) hr0).trans h2
    have k3 := (hb.cell (p := ⟨g, 3, none⟩) hr0).trans h3
    clear h0 h1 h2 h3
    have qT : ∀ (w : World) (a : Option Addr) (n c n' c' : Nat), (binOp .eql 80 (.slice a n c) (.slice none n' c')).run Tryz.prog w = .ok (.bool a.isNone) w := fun w a n c n' c' => Lib.run_eql_slice_nil w _ _ a n c n' c' Tryz.underlying80
    have hix : ∀ h, ((⟨#[34]⟩ : ByteArray)[0]'h).toNat = 34 := fun _ => rfl
    have hiy : ∀ h, ((⟨#[92]⟩ : ByteArray)[0]'h).toNat = 92 := fun _ => rfl
    have hgk : gk = 2 ∨ gk = 1 ∨ gk = 0 := by omega
    rcases hgk with rfl | rfl | rfl
    · obtain ⟨rfl, rfl⟩ := p2 (Nat.le_refl _)
      obtain rfl := p1 (by omega)
      clear p2 p1 q1 q0
      obtain ⟨At, ct, rfl⟩ := own_slice ho
      have c34 := (blk_cell hc 34).trans (cB_34 _ _ _)
      have c256 := (blk_cell hc 256).trans (cB_256 _ _ _)
      have hcv : (convert 80 9 (.slice (some ⟨wr.heap.size, 0, none⟩) 1 1)).run Tryz.prog (wr.alloc (.cells #[.int .u8 34] 5)) = .ok (.string ⟨#[34]⟩) (wr.alloc (.cells #[.int .u8 34] 5)) :=
        own_string (P := Tryz.prog) Tryz.underlying80 Tryz.underlying5 Tryz.underlying9 (own_lit wr 0 5 .u8 [34] (Nat.zero_le _) (by simp))
      have kc := fun W => print_bytes (P := Tryz.prog) 9 80 5 Tryz.underlying9 Tryz.underlying80 Tryz.underlying5 ⟨#[92, 34]⟩ W
      have HC := Lib.hid hc
      have HO := Lib.hid ho
      have HB := Lib.hid hb
      clear hc ho hb hB
      go_wp2_with (at_builtin; refine print_append (w0 := _) w.heap.size rfl (.tmp 119) (.tmp 123) 22 9 (.string ByteArray.empty) 16 rfl Tryz.underlying22 info_str rfl (by decide) (.slice At ([] : List Value).length ct) [] (.string ⟨#[34]⟩) rfl (by first | rfl | (rw [show ∀ (X : World) o, (X.alloc o).heap.size = X.heap.size + 1 from fun X o => by simp]; done) | (rw [show ∀ (X : World) o, (X.alloc o).heap.size = X.heap.size + 1 from fun X o => by simp]; rfl)) rfl (HO.out.alloc _) (Below.refl _ _) (by rw [show ∀ (X : World) o, (X.alloc o).heap.size = X.heap.size + 1 from fun X o => by simp]; omega) (by simp) ?_; intro v1 w1 hown hbel hg hat; obtain ⟨Av, cv, ev⟩ := own_slice hown; subst ev; replace hown : w1.ownsRow w.heap.size 9 1 (.slice Av 1 cv) 1 [Value.string ⟨#[34]⟩] := hown; obtain ⟨g1, g2, g3, _⟩ := bst_parts (j := 34) (s := ⟨#[92, 34]⟩) (V := .bool true) HC.out HO.out HB.out hown hbel hg; have e1 := (blk_cell g1 256).trans (cB_256 _ _ _); have e2 := blk_frozen g1 256; have e3 := (blk_cell g3 34).trans ((congrArg (fun (c : Array Value) => c[34]?) (cB_set256 _ _ _ _)).trans (cB_34 _ _ _)); have e4 := blk_frozen g3 34; have HX := Lib.hid (And.intro hown (And.intro hbel hg)); clear hown hbel hg hat g1 g2 g3)
      go_roundg 1
      case measure => omega
      case rel =>
        obtain ⟨hown, hbel, hg⟩ := HX.out
        have P := fun V => bst_parts (j := 34) (s := ⟨#[92, 34]⟩) (V := V) HC.out HO.out HB.out hown hbel hg
        exact ⟨by omega, rfl, ⟨_, _, _, [Value.string ⟨#[34]⟩], ((P _).2.2.2.1).trans (by rw [cB_set256, cB_set34]), (P _).2.2.2.2.1, (P _).2.2.2.2.2, fun h => by omega, fun _ => rfl, fun _ => ⟨bst_new1 (a := 92) (b := 34) (P (.bool true)).2.1, [], rfl, fun _ => rfl, fun h => by omega⟩, fun h => by omega⟩⟩
    · obtain rfl := p1 (Nat.le_refl _)
      obtain ⟨hf34, ys, rfl, hys, _⟩ := q1 (Nat.le_refl _)
      obtain rfl := hys rfl
      clear p2 p1 q1 q0 hys
      obtain ⟨At, ct, rfl⟩ := own_slice ho
      replace ho : wr.ownsRow w.heap.size 9 1 (.slice At 1 ct) 1 [Value.string ⟨#[34]⟩] := ho
      have c92 := (blk_cell hc 92).trans (cB_92 _ _ _)
      have c256 := (blk_cell hc 256).trans (cB_256 _ _ _)
      have HF := Lib.hid hf34
      clear hf34
      have hcv : (convert 80 9 (.slice (some ⟨wr.heap.size, 0, none⟩) 1 1)).run Tryz.prog (wr.alloc (.cells #[.int .u8 92] 5)) = .ok (.string ⟨#[92]⟩) (wr.alloc (.cells #[.int .u8 92] 5)) :=
        own_string (P := Tryz.prog) Tryz.underlying80 Tryz.underlying5 Tryz.underlying9 (own_lit wr 0 5 .u8 [92] (Nat.zero_le _) (by simp))
      have kc := fun W => print_bytes (P := Tryz.prog) 9 80 5 Tryz.underlying9 Tryz.underlying80 Tryz.underlying5 ⟨#[92, 92]⟩ W
      have HC := Lib.hid hc
      have HO := Lib.hid ho
      have HB := Lib.hid hb
      clear hc ho hb hB
      go_wp2_with (at_builtin; refine print_append (w0 := _) w.heap.size rfl (.tmp 119) (.tmp 123) 22 9 (.string ByteArray.empty) 16 rfl Tryz.underlying22 info_str rfl (by decide) (.slice At 1 ct) [Value.string ⟨#[34]⟩] (.string ⟨#[92]⟩) rfl (by first | rfl | (rw [show ∀ (X : World) o, (X.alloc o).heap.size = X.heap.size + 1 from fun X o => by simp]; done) | (rw [show ∀ (X : World) o, (X.alloc o).heap.size = X.heap.size + 1 from fun X o => by simp]; rfl)) rfl (HO.out.alloc _) (Below.refl _ _) (by rw [show ∀ (X : World) o, (X.alloc o).heap.size = X.heap.size + 1 from fun X o => by simp]; omega) (by simp) ?_; intro v1 w1 hown hbel hg hat; obtain ⟨Av, cv, ev⟩ := own_slice hown; subst ev; replace hown : w1.ownsRow w.heap.size 9 1 (.slice Av 2 cv) 2 [Value.string ⟨#[34]⟩, Value.string ⟨#[92]⟩] := hown; obtain ⟨g1, g2, g3, _⟩ := bst_parts (j := 92) (s := ⟨#[92, 92]⟩) (V := .bool true) HC.out HO.out HB.out hown hbel hg; have e1 := (blk_cell g1 256).trans (cB_256 _ _ _); have e2 := blk_frozen g1 256; have e3 := (blk_cell g3 92).trans ((congrArg (fun (c : Array Value) => c[92]?) (cB_set256 _ _ _ _)).trans (cB_92 _ _ _)); have e4 := blk_frozen g3 92; have HX := Lib.hid (And.intro hown (And.intro hbel hg)); clear hown hbel hg hat g1 g2 g3)
      go_roundg 0
      case measure => omega
      case rel =>
        obtain ⟨hown, hbel, hg⟩ := HX.out
        have P := fun V => bst_parts (j := 92) (s := ⟨#[92, 92]⟩) (V := V) HC.out HO.out HB.out hown hbel hg
        exact ⟨by omega, rfl, ⟨_, _, _, [Value.string ⟨#[34]⟩, Value.string ⟨#[92]⟩], ((P _).2.2.2.1).trans (by rw [cB_set256, cB_set92]), (P _).2.2.2.2.1, (P _).2.2.2.2.2, fun h => by omega, fun h => by omega, fun _ => ⟨bst_byt HC.out HO.out HB.out hown hbel hg HF.out, [Value.string ⟨#[92]⟩], rfl, fun h => by omega, fun _ => rfl⟩, fun _ => bst_new1 (a := 92) (b := 92) (P (.bool true)).2.1⟩⟩
    · have HBB := Lib.hid hB
      clear hB hc ho hb p2 p1 q1 q0
      go_wp2_with fail
      go_ret
      exact ⟨rfl, HBB.out⟩
end Go.Proofs.YtlglbpjccpdloaaGreatDoor.Ext
