/- Gathered by a program of this session (shake.py): what the claim's theorem needs. -/
import Derived.Test.YtlglbpjccpdloaaGreatDoorOr0
import Derived.Test.YtlglbpjccpdloaaGreatDoorOr1
import Derived.Test.YtlglbpjccpdloaaGreatDoorOr2
import Derived.Test.YtlglbpjccpdloaaGreatDoorOr4
import Derived.Below
import Derived.Deep.Draws
import Derived.Deep.AppendLies
import Derived.Maps.AppendAt
import Derived.OwnWalk
import Derived.Laws.BytesArg
import Derived.Laws.MakeOwn
import Derived.Laws.OwnMore
import Derived.Deep.OwnRows
import Derived.Tactics
import Derived.Lib.ConvBytes
import Derived.Laws.Slices
import Derived.WalkKit
import Derived.KernelRfl
import Derived.RowKit3
import Derived.Deep.LoopGhost
import Derived.Deep.QuietTactic
import Derived.BigQuiet
import Derived.WideLaws
import Derived.Deep.DeepCutAuto
import Derived.Deep.CutBlock
import Derived.Deep.RegionHeld3
import Derived.Laws.Rows
import Derived.Lib.AppendStr
import Derived.ArgAppend
import Derived.Laws.IdiomCopy
import Derived.OrdersHeld
import Derived.Laws.BitsLemmas
import Derived.RowKit
import Derived.Test.YtlglbpjccpdloaaGreatDoorProg
set_option linter.unusedVariables false
set_option linter.unusedSimpArgs false
namespace Go.Proofs.YtlglbpjccpdloaaGreatDoor.Ext
end Go.Proofs.YtlglbpjccpdloaaGreatDoor.Ext
namespace Go.Proofs.YtlglbpjccpdloaaGreatDoor.PWrdA
end Go.Proofs.YtlglbpjccpdloaaGreatDoor.PWrdA
namespace Go.Proofs.YtlglbpjccpdloaaGreatDoor.Tox
end Go.Proofs.YtlglbpjccpdloaaGreatDoor.Tox
namespace Go.Proofs.YtlglbpjccpdloaaGreatDoor.ToxZ
end Go.Proofs.YtlglbpjccpdloaaGreatDoor.ToxZ
namespace Go.Proofs.YtlglbpjccpdloaaGreatDoorW.PrintLast
end Go.Proofs.YtlglbpjccpdloaaGreatDoorW.PrintLast
namespace Go.Proofs.YtlglbpjccpdloaaGreatDoorW.PrintMore
end Go.Proofs.YtlglbpjccpdloaaGreatDoorW.PrintMore
namespace Go.Proofs.YtlglbpjccpdloaaGreatDoorW.PrintWords
end Go.Proofs.YtlglbpjccpdloaaGreatDoorW.PrintWords
namespace Go.Proofs.YtlglbpjccpdloaaGreatDoor.POrdT
open Go.Proofs.YtlglbpjccpdloaaGreatDoor.Ext Go.Proofs.YtlglbpjccpdloaaGreatDoor.ToxZ Go.RowKit Go.Proofs.YtlglbpjccpdloaaGreatDoorW.PrintWords Go.Proofs.YtlglbpjccpdloaaGreatDoorW.PrintLast Go.Proofs.YtlglbpjccpdloaaGreatDoorW.PrintMore
attribute [local go_sem] max2_int min2_int max_two min_two max_three min_three max_four min_four   -- for this text's walks alone
set_option linter.unusedVariables false
set_option linter.unusedSimpArgs false
def IsS27 (w0 W : World) (g : Nat) (f0 : Int) (f1 : ByteArray) (f2 : ByteArray) (f3 : Int) (f4 : ByteArray) (f5 : Int) (f6 : Bool) (f7 : Int) (f8 : Int) (f9 : Int) : Prop := W.heap[g]? = some (.cells #[.int .i64 f0, .string f1, .string f2, .int .i64 f3, .string f4, .int .i64 f5, .bool f6, .int .i64 f7, .int .i64 f8, .int .i64 f9] 27 (0, 0)) ∧ w0.heap.size ≤ g
theorem IsS27.grown {w0 W : World} {g : Nat} {f0 : Int} {f1 : ByteArray} {f2 : ByteArray} {f3 : Int} {f4 : ByteArray} {f5 : Int} {f6 : Bool} {f7 : Int} {f8 : Int} {f9 : Int} {W1 : World} {row : Option Nat} (h : IsS27 w0 W g f0 f1 f2 f3 f4 f5 f6 f7 f8 f9) (hw : W.grownBy W1 row) (hne : some g ≠ row) : IsS27 w0 W1 g f0 f1 f2 f3 f4 f5 f6 f7 f8 f9 := by
 obtain ⟨hb, hg⟩ := h
 exact ⟨blk_grown hb hw hne, hg⟩
theorem IsS27.below {w0 W : World} {g : Nat} {f0 : Int} {f1 : ByteArray} {f2 : ByteArray} {f3 : Int} {f4 : ByteArray} {f5 : Int} {f6 : Bool} {f7 : Int} {f8 : Int} {f9 : Int} {W1 : World} (h : IsS27 w0 W g f0 f1 f2 f3 f4 f5 f6 f7 f8 f9) (hw : Below W.heap.size W W1) : IsS27 w0 W1 g f0 f1 f2 f3 f4 f5 f6 f7 f8 f9 := h.grown (grown_of_below hw none) (by simp)
theorem IsS27.lt {w0 W : World} {g : Nat} {f0 : Int} {f1 : ByteArray} {f2 : ByteArray} {f3 : Int} {f4 : ByteArray} {f5 : Int} {f6 : Bool} {f7 : Int} {f8 : Int} {f9 : Int} (h : IsS27 w0 W g f0 f1 f2 f3 f4 f5 f6 f7 f8 f9) : g < W.heap.size := by
 obtain ⟨hb, hg⟩ := h
 exact blk_lt hb
theorem IsS27.ge {w0 W : World} {g : Nat} {f0 : Int} {f1 : ByteArray} {f2 : ByteArray} {f3 : Int} {f4 : ByteArray} {f5 : Int} {f6 : Bool} {f7 : Int} {f8 : Int} {f9 : Int} (h : IsS27 w0 W g f0 f1 f2 f3 f4 f5 f6 f7 f8 f9) : w0.heap.size ≤ g := by
 obtain ⟨hb, hg⟩ := h
 exact hg
theorem IsS27.far {w0 W : World} {g : Nat} {f0 : Int} {f1 : ByteArray} {f2 : ByteArray} {f3 : Int} {f4 : ByteArray} {f5 : Int} {f6 : Bool} {f7 : Int} {f8 : Int} {f9 : Int} {p : Addr} (h : IsS27 w0 W g f0 f1 f2 f3 f4 f5 f6 f7 f8 f9) (hne : g ≠ p.block) (u : Value) : IsS27 w0 (W.setCell p u) g f0 f1 f2 f3 f4 f5 f6 f7 f8 f9 := by
 obtain ⟨hb, hg⟩ := h
 exact ⟨blk_far hb hne u, hg⟩
theorem cellS27_0 {W : World} {g : Nat} {f0 : Int} {f1 : ByteArray} {f2 : ByteArray} {f3 : Int} {f4 : ByteArray} {f5 : Int} {f6 : Bool} {f7 : Int} {f8 : Int} {f9 : Int} (h : W.heap[g]? = some (.cells #[.int .i64 f0, .string f1, .string f2, .int .i64 f3, .string f4, .int .i64 f5, .bool f6, .int .i64 f7, .int .i64 f8, .int .i64 f9] 27 (0, 0))) : W.cell? ⟨g, 0, none⟩ = some (.int .i64 f0) := (blk_cell h 0).trans rfl
theorem cellS27_1 {W : World} {g : Nat} {f0 : Int} {f1 : ByteArray} {f2 : ByteArray} {f3 : Int} {f4 : ByteArray} {f5 : Int} {f6 : Bool} {f7 : Int} {f8 : Int} {f9 : Int} (h : W.heap[g]? = some (.cells #[.int .i64 f0, .string f1, .string f2, .int .i64 f3, .string f4, .int .i64 f5, .bool f6, .int .i64 f7, .int .i64 f8, .int .i64 f9] 27 (0, 0))) : W.cell? ⟨g, 1, none⟩ = some (.string f1) := (blk_cell h 1).trans rfl
theorem cellS27_2 {W : World} {g : Nat} {f0 : Int} {f1 : ByteArray} {f2 : ByteArray} {f3 : Int} {f4 : ByteArray} {f5 : Int} {f6 : Bool} {f7 : Int} {f8 : Int} {f9 : Int} (h : W.heap[g]? = some (.cells #[.int .i64 f0, .string f1, .string f2, .int .i64 f3, .string f4, .int .i64 f5, .bool f6, .int .i64 f7, .int .i64 f8, .int .i64 f9] 27 (0, 0))) : W.cell? ⟨g, 2, none⟩ = some (.string f2) := (blk_cell h 2).trans rfl
theorem cellS27_3 {W : World} {g : Nat} {f0 : Int} {f1 : ByteArray} {f2 : ByteArray} {f3 : Int} {f4 : ByteArray} {f5 : Int} {f6 : Bool} {f7 : Int} {f8 : Int} {f9 : Int} (h : W.heap[g]? = some (.cells #[.int .i64 f0, .string f1, .string f2, .int .i64 f3, .string f4, .int .i64 f5, .bool f6, .int .i64 f7, .int .i64 f8, .int .i64 f9] 27 (0, 0))) : W.cell? ⟨g, 3, none⟩ = some (.int .i64 f3) := (blk_cell h 3).trans rfl
theorem cellS27_4 {W : World} {g : Nat} {f0 : Int} {f1 : ByteArray} {f2 : ByteArray} {f3 : Int} {f4 : ByteArray} {f5 : Int} {f6 : Bool} {f7 : Int} {f8 : Int} {f9 : Int} (h : W.heap[g]? = some (.cells #[.int .i64 f0, .string f1, .string f2, .int .i64 f3, .string f4, .int .i64 f5, .bool f6, .int .i64 f7, .int .i64 f8, .int .i64 f9] 27 (0, 0))) : W.cell? ⟨g, 4, none⟩ = some (.string f4) := (blk_cell h 4).trans rfl
theorem IsS27.set_4 {w0 W : World} {g : Nat} {f0 : Int} {f1 : ByteArray} {f2 : ByteArray} {f3 : Int} {f4 : ByteArray} {f5 : Int} {f6 : Bool} {f7 : Int} {f8 : Int} {f9 : Int} (h : IsS27 w0 W g f0 f1 f2 f3 f4 f5 f6 f7 f8 f9) (x : ByteArray) : IsS27 w0 (W.setCell ⟨g, 4, none⟩ (.string x)) g f0 f1 f2 f3 x f5 f6 f7 f8 f9 := by
 obtain ⟨hb, hg⟩ := h
 exact ⟨by simpa using blk_set hb 4 (.string x), hg⟩
theorem cellS27_5 {W : World} {g : Nat} {f0 : Int} {f1 : ByteArray} {f2 : ByteArray} {f3 : Int} {f4 : ByteArray} {f5 : Int} {f6 : Bool} {f7 : Int} {f8 : Int} {f9 : Int} (h : W.heap[g]? = some (.cells #[.int .i64 f0, .string f1, .string f2, .int .i64 f3, .string f4, .int .i64 f5, .bool f6, .int .i64 f7, .int .i64 f8, .int .i64 f9] 27 (0, 0))) : W.cell? ⟨g, 5, none⟩ = some (.int .i64 f5) := (blk_cell h 5).trans rfl
theorem IsS27.set_5 {w0 W : World} {g : Nat} {f0 : Int} {f1 : ByteArray} {f2 : ByteArray} {f3 : Int} {f4 : ByteArray} {f5 : Int} {f6 : Bool} {f7 : Int} {f8 : Int} {f9 : Int} (h : IsS27 w0 W g f0 f1 f2 f3 f4 f5 f6 f7 f8 f9) (x : Int) : IsS27 w0 (W.setCell ⟨g, 5, none⟩ (.int .i64 x)) g f0 f1 f2 f3 f4 x f6 f7 f8 f9 := by
 obtain ⟨hb, hg⟩ := h
 exact ⟨by simpa using blk_set hb 5 (.int .i64 x), hg⟩
theorem cellS27_6 {W : World} {g : Nat} {f0 : Int} {f1 : ByteArray} {f2 : ByteArray} {f3 : Int} {f4 : ByteArray} {f5 : Int} {f6 : Bool} {f7 : Int} {f8 : Int} {f9 : Int} (h : W.heap[g]? = some (.cells #[.int .i64 f0, .string f1, .string f2, .int .i64 f3, .string f4, .int .i64 f5, .bool f6, .int .i64 f7, .int .i64 f8, .int .i64 f9] 27 (0, 0))) : W.cell? ⟨g, 6, none⟩ = some (.bool f6) := (blk_cell h 6).trans rfl
theorem IsS27.set_6 {w0 W : World} {g : Nat} {f0 : Int} {f1 : ByteArray} {f2 : ByteArray} {f3 : Int} {f4 : ByteArray} {f5 : Int} {f6 : Bool} {f7 : Int} {f8 : Int} {f9 : Int} (h : IsS27 w0 W g f0 f1 f2 f3 f4 f5 f6 f7 f8 f9) (x : Bool) : IsS27 w0 (W.setCell ⟨g, 6, none⟩ (.bool x)) g f0 f1 f2 f3 f4 f5 x f7 f8 f9 := by
 obtain ⟨hb, hg⟩ := h
 exact ⟨by simpa using blk_set hb 6 (.bool x), hg⟩
theorem cellS27_7 {W : World} {g : Nat} {f0 : Int} {f1 : ByteArray} {f2 : ByteArray} {f3 : Int} {f4 : ByteArray} {f5 : Int} {f6 : Bool} {f7 : Int} {f8 : Int} {f9 : Int} (h : W.heap[g]? = some (.cells #[.int .i64 f0, .string f1, .string f2, .int .i64 f3, .string f4, .int .i64 f5, .bool f6, .int .i64 f7, .int .i64 f8, .int .i64 f9] 27 (0, 0))) : W.cell? ⟨g, 7, none⟩ = some (.int .i64 f7) := (blk_cell h 7).trans rfl
theorem IsS27.set_7 {w0 W : World} {g : Nat} {f0 : Int} {f1 : ByteArray} {f2 : ByteArray} {f3 : Int} {f4 : ByteArray} {f5 : Int} {f6 : Bool} {f7 : Int} {f8 : Int} {f9 : Int} (h : IsS27 w0 W g f0 f1 f2 f3 f4 f5 f6 f7 f8 f9) (x : Int) : IsS27 w0 (W.setCell ⟨g, 7, none⟩ (.int .i64 x)) g f0 f1 f2 f3 f4 f5 f6 x f8 f9 := by
 obtain ⟨hb, hg⟩ := h
 exact ⟨by simpa using blk_set hb 7 (.int .i64 x), hg⟩
theorem cellS27_8 {W : World} {g : Nat} {f0 : Int} {f1 : ByteArray} {f2 : ByteArray} {f3 : Int} {f4 : ByteArray} {f5 : Int} {f6 : Bool} {f7 : Int} {f8 : Int} {f9 : Int} (h : W.heap[g]? = some (.cells #[.int .i64 f0, .string f1, .string f2, .int .i64 f3, .string f4, .int .i64 f5, .bool f6, .int .i64 f7, .int .i64 f8, .int .i64 f9] 27 (0, 0))) : W.cell? ⟨g, 8, none⟩ = some (.int .i64 f8) := (blk_cell h 8).trans rfl
theorem IsS27.set_8 {w0 W : World} {g : Nat} {f0 : Int} {f1 : ByteArray} {f2 : ByteArray} {f3 : Int} {f4 : ByteArray} {f5 : Int} {f6 : Bool} {f7 : Int} {f8 : Int} {f9 : Int} (h : IsS27 w0 W g f0 f1 f2 f3 f4 f5 f6 f7 f8 f9) (x : Int) : IsS27 w0 (W.setCell ⟨g, 8, none⟩ (.int .i64 x)) g f0 f1 f2 f3 f4 f5 f6 f7 x f9 := by
 obtain ⟨hb, hg⟩ := h
 exact ⟨by simpa using blk_set hb 8 (.int .i64 x), hg⟩
theorem cellS27_9 {W : World} {g : Nat} {f0 : Int} {f1 : ByteArray} {f2 : ByteArray} {f3 : Int} {f4 : ByteArray} {f5 : Int} {f6 : Bool} {f7 : Int} {f8 : Int} {f9 : Int} (h : W.heap[g]? = some (.cells #[.int .i64 f0, .string f1, .string f2, .int .i64 f3, .string f4, .int .i64 f5, .bool f6, .int .i64 f7, .int .i64 f8, .int .i64 f9] 27 (0, 0))) : W.cell? ⟨g, 9, none⟩ = some (.int .i64 f9) := (blk_cell h 9).trans rfl
theorem IsS27.set_9 {w0 W : World} {g : Nat} {f0 : Int} {f1 : ByteArray} {f2 : ByteArray} {f3 : Int} {f4 : ByteArray} {f5 : Int} {f6 : Bool} {f7 : Int} {f8 : Int} {f9 : Int} (h : IsS27 w0 W g f0 f1 f2 f3 f4 f5 f6 f7 f8 f9) (x : Int) : IsS27 w0 (W.setCell ⟨g, 9, none⟩ (.int .i64 x)) g f0 f1 f2 f3 f4 f5 f6 f7 f8 x := by
 obtain ⟨hb, hg⟩ := h
 exact ⟨by simpa using blk_set hb 9 (.int .i64 x), hg⟩
def order_Order_toxic.l0 : Nat → List ByteArray → List ByteArray → Int → Int → Int → ByteArray → ByteArray → Int → ByteArray → Int → Bool → Int → Int → Int → Option (Int × Int × ByteArray × ByteArray × Int × ByteArray × Int × Bool × Int × Int × Int)
 | 0, _, _, _, _, _, _, _, _, _, _, _, _, _, _ => none
 | k + 1, x1, x9, x10, x11, x1000, x1001, x1002, x1003, x1004, x1005, x1006, x1007, x1008, x1009 => if x11 < x10 then (if 0 ≤ x11 then (if x11 < (x9.length : Int) then (if (rdOf ByteArray.empty x9 x11).toList = ([] : List UInt8) then (some (90, x1000, x1001, x1002, x1003, x1004, x1005, x1006, x1007, x1008, x1009)) else ((strings_ContainsAny.f (rdOf ByteArray.empty x9 x11) (⟨#[32, 9]⟩ : ByteArray)).bind fun t102 => (if t102 = true then (some (90, x1000, x1001, x1002, x1003, x1004, x1005, x1006, x1007, x1008, x1009)) else (order_Order_toxic.l0 k x1 x9 x10 (wrap64 (x11 + 1)) x1000 x1001 x1002 x1003 x1004 x1005 x1006 x1007 x1008 x1009)))) else (none)) else (none)) else ((strings_Join.f x1 (⟨#[32]⟩ : ByteArray)).bind fun t103 => ((toxic_Parse.f t103).bind fun bt104 => (some (bt104.2.2.2.2.2.2, x1000, x1001, x1002, x1003, bt104.1, bt104.2.1, bt104.2.2.1, bt104.2.2.2.1, bt104.2.2.2.2.1, bt104.2.2.2.2.2.1))))
def order_Order_toxic.f (k : Nat) (s0_0 : Int) (s0_1 : ByteArray) (s0_2 : ByteArray) (s0_3 : Int) (s0_4 : ByteArray) (s0_5 : Int) (s0_6 : Bool) (s0_7 : Int) (s0_8 : Int) (s0_9 : Int) (l1 : List ByteArray) : Option (Int × Int × ByteArray × ByteArray × Int × ByteArray × Int × Bool × Int × Int × Int) := order_Order_toxic.l0 k l1 l1 (l1.length : Int) 0 s0_0 s0_1 s0_2 s0_3 s0_4 s0_5 s0_6 s0_7 s0_8 s0_9
set_option maxHeartbeats 8000000 in
set_option maxRecDepth 100000 in
theorem order_Order_toxic.calls (k : Nat) (g : Nat) (s0_0 : Int) (s0_1 : ByteArray) (s0_2 : ByteArray) (s0_3 : Int) (s0_4 : ByteArray) (s0_5 : Int) (s0_6 : Bool) (s0_7 : Int) (s0_8 : Int) (s0_9 : Int) (A1 : Option Addr) (c1 : Nat) (l1 : List ByteArray) (r1 : Int) (r2 : Int) (r3 : ByteArray) (r4 : ByteArray) (r5 : Int) (r6 : ByteArray) (r7 : Int) (r8 : Bool) (r9 : Int) (r10 : Int) (r11 : Int) (w0 w : World) (hI : IsS27 w0 w g s0_0 s0_1 s0_2 s0_3 s0_4 s0_5 s0_6 s0_7 s0_8 s0_9) (hB : Below w0.heap.size w0 w) (hr1 : Kd.C Kd.string w A1 l1.length l1) (hc1 : l1.length ≤ c1) (hf1 : ∀ ad, A1 = some ad → 0 < l1.length → ad.block ≠ g) (h : order_Order_toxic.f k s0_0 s0_1 s0_2 s0_3 s0_4 s0_5 s0_6 s0_7 s0_8 s0_9 l1 = some (r1, r2, r3, r4, r5, r6, r7, r8, r9, r10, r11)) :
  Calls Tryz.prog 29 #[.pointer (some ⟨g, 0, none⟩), .slice A1 l1.length c1] w fun e w' => e = .returned (.int .i64 r1) ∧ IsS27 w0 w' g r2 r3 r4 r5 r6 r7 r8 r9 r10 r11 ∧ Below w0.heap.size w0 w' ∧ KeepBut w w' g none := by
 have hu25 := Tryz.underlying25
 have HR1 := Aside0.mk hr1
 have HC1 := Aside0.mk hc1
 clear hr1 hc1
 have HI0 := Aside0.mk hI
 have HK := Aside0.mk (KeepBut.refl w g none)
 have HL := Aside0.mk hB.size
 clear hI
 have HW0 := Aside0.mk hB.size
 have HB := Aside0.mk hB
 clear hB
 have H : (order_Order_toxic.l0 k l1 l1 (l1.length : Int) 0 s0_0 s0_1 s0_2 s0_3 s0_4 s0_5 s0_6 s0_7 s0_8 s0_9) = some (r1, r2, r3, r4, r5, r6, r7, r8, r9, r10, r11) := h
 clear h
 have H' := Aside0.mk H
 clear H
 go_enter Tryz.func29, Tryz.ntmps29
 go_wp2
 go_loopg [11] k (fun kq v11 w' => ∃ (x11_1 : Int), v11 = .int .i64 x11_1 ∧ Aside0 (order_Order_toxic.l0 kq l1 l1 (l1.length : Int) x11_1 s0_0 s0_1 s0_2 s0_3 s0_4 s0_5 s0_6 s0_7 s0_8 s0_9 = some (r1, r2, r3, r4, r5, r6, r7, r8, r9, r10, r11)) ∧ Aside0 (kq ≤ k) ∧ Aside0 (IsS27 w0 w' g s0_0 s0_1 s0_2 s0_3 s0_4 s0_5 s0_6 s0_7 s0_8 s0_9) ∧ Aside0 (KeepBut w w' g none) ∧ Aside0 (Below w0.heap.size w0 w'))
 case atStart => exact ⟨(0), (by first | rfl | (simp; done) | (simp [*]; done)), H', ⟨Nat.le_refl _⟩, ⟨by repeat (first | (with_reducible first | exact HI0.out | apply IsS27.alloc | apply IsS27.drewN | apply IsS27.drew | apply IsS27.set_0 | apply IsS27.set_1 | apply IsS27.set_2 | apply IsS27.set_3 | apply IsS27.set_4 | apply IsS27.set_5 | apply IsS27.set_6 | apply IsS27.set_7 | apply IsS27.set_8 | apply IsS27.set_9) | exact HI0.out)⟩, ⟨by repeat (first | (with_reducible first | exact HK.out | apply KeepBut.set_ | apply keep_drewN | apply keep_drew | apply keep_alloc) | exact HK.out)⟩, ⟨by repeat (first | (with_reducible first | exact HB.out | apply below_alloc | apply pw_below_drewN | apply below_drew1 | refine below_set ?_ (IsS27.ge HI0.out)) | exact HB.out)⟩⟩
 case round =>
  clear H'
  try clear c1
  try clear c2
  try clear p2
  obtain ⟨x11_1, rfl, HA, HK1, HI0, HK, HB⟩ := hrel
  cases gk with
  | zero => exact absurd HA.out (by simp [order_Order_toxic.l0])
  | succ k1 =>
   have H := HA.out
   clear HA
   simp only [order_Order_toxic.l0] at H
   by_cases c3 : x11_1 < (l1.length : Int)
   ·rw [if_pos c3] at H
    have c3b0 : decide (x11_1 < (l1.length : Int)) = true := decide_eq_true c3
    clear c3
    by_cases c4 : 0 ≤ x11_1
    ·rw [if_pos c4] at H
     have c4b0 : decide (0 ≤ x11_1) = true := decide_eq_true c4
     clear c4
     by_cases c5 : x11_1 < (l1.length : Int)
     ·rw [if_pos c5] at H
      have c5b0 : decide (x11_1 < (l1.length : Int)) = true := decide_eq_true c5
      clear c5
      by_cases c6 : (rdOf ByteArray.empty l1 x11_1).toList = ([] : List UInt8)
      ·rw [if_pos c6] at H
       have c6b0 : ((rdOf ByteArray.empty l1 x11_1).toList == ([] : List UInt8)) = true := beq_iff_eq.mpr c6
       have c6b1 : ((rdOf ByteArray.empty l1 x11_1).toList != ([] : List UInt8)) = false := bne_eq_false_iff_eq.mpr c6
       clear c6
       simp only [Option.some.injEq, Prod.mk.injEq] at H
       obtain ⟨rfl, rfl, rfl, rfl, rfl, rfl, rfl, rfl, rfl, rfl, rfl⟩ := H
       have p101 : 0 ≤ (x11_1 : Int) := of_decide_eq_true (by first | (with_reducible assumption) | assumption)
       have q101 : x11_1 < (l1.length : Int) := of_decide_eq_true (by first | (with_reducible assumption) | assumption)
       obtain ⟨ad101, e101, hx101_0⟩ := Kd.at_string HR1.out x11_1 p101 q101
       cases e101
       replace hx101_0 := keep_cell HK.out hx101_0 (by first | (rw [add_block]; exact hf1 _ rfl (by omega)) | exact hf1 _ rfl (by omega) | exact hf1 ad101 rfl (by omega))
       replace p101 := eq_true p101
       replace q101 := eq_true q101
       go_wp2
       go_ret
       exact ⟨by first | rfl | (simp [errW_none, errW_some] <;> rfl) | (simp [*, errW_none, errW_some] <;> rfl), by repeat (first | (with_reducible first | exact HI0.out | apply IsS27.alloc | apply IsS27.drewN | apply IsS27.drew | apply IsS27.set_0 | apply IsS27.set_1 | apply IsS27.set_2 | apply IsS27.set_3 | apply IsS27.set_4 | apply IsS27.set_5 | apply IsS27.set_6 | apply IsS27.set_7 | apply IsS27.set_8 | apply IsS27.set_9) | exact HI0.out), by repeat (first | (with_reducible first | exact HB.out | apply below_alloc | apply pw_below_drewN | apply below_drew1 | refine below_set ?_ (IsS27.ge HI0.out)) | exact HB.out), by repeat (first | (with_reducible first | exact HK.out | apply KeepBut.set_ | apply keep_drewN | apply keep_drew | apply keep_alloc) | exact HK.out)⟩
      ·rw [if_neg c6] at H
       have c6b0 : ((rdOf ByteArray.empty l1 x11_1).toList == ([] : List UInt8)) = false := beq_eq_false_iff_ne.mpr c6
       have c6b1 : ((rdOf ByteArray.empty l1 x11_1).toList != ([] : List UInt8)) = true := bne_iff_ne.mpr c6
       replace H := Option.bind_eq_some_iff.mp H
       obtain ⟨t102, A70, H⟩ := H
       replace H : (if t102 = true then (some (90, s0_0, s0_1, s0_2, s0_3, s0_4, s0_5, s0_6, s0_7, s0_8, s0_9)) else (order_Order_toxic.l0 k1 l1 l1 (l1.length : Int) (wrap64 (x11_1 + 1)) s0_0 s0_1 s0_2 s0_3 s0_4 s0_5 s0_6 s0_7 s0_8 s0_9)) = some (r1, r2, r3, r4, r5, r6, r7, r8, r9, r10, r11) := H
       have A7 := Aside0.mk A70
       clear A70
       by_cases c8 : t102 = true
       ·subst c8
        have H1 : (some (90, s0_0, s0_1, s0_2, s0_3, s0_4, s0_5, s0_6, s0_7, s0_8, s0_9)) = some (r1, r2, r3, r4, r5, r6, r7, r8, r9, r10, r11) := by rw [if_pos rfl] at H; exact H
        clear H
        have H := H1
        clear H1
        simp only [Option.some.injEq, Prod.mk.injEq] at H
        obtain ⟨rfl, rfl, rfl, rfl, rfl, rfl, rfl, rfl, rfl, rfl, rfl⟩ := H
        have p101 : 0 ≤ (x11_1 : Int) := of_decide_eq_true (by first | (with_reducible assumption) | assumption)
        have q101 : x11_1 < (l1.length : Int) := of_decide_eq_true (by first | (with_reducible assumption) | assumption)
        obtain ⟨ad101, e101, hx101_0⟩ := Kd.at_string HR1.out x11_1 p101 q101
        cases e101
        replace hx101_0 := keep_cell HK.out hx101_0 (by first | (rw [add_block]; exact hf1 _ rfl (by omega)) | exact hf1 _ rfl (by omega) | exact hf1 ad101 rfl (by omega))
        replace p101 := eq_true p101
        replace q101 := eq_true q101
        go_wp2_with (first | (go_at_call 50; (with_reducible refine (strings_ContainsAny.calls (rdOf ByteArray.empty l1 x11_1) (⟨#[32, 9]⟩ : ByteArray) true _ A7.out).mono ?_); rintro e w9 ⟨rfl, hb⟩; have n0_ := Aside0.mk (IsS27.below (by repeat (first | (with_reducible first | exact HI0.out | apply IsS27.alloc | apply IsS27.drewN | apply IsS27.drew | apply IsS27.set_0 | apply IsS27.set_1 | apply IsS27.set_2 | apply IsS27.set_3 | apply IsS27.set_4 | apply IsS27.set_5 | apply IsS27.set_6 | apply IsS27.set_7 | apply IsS27.set_8 | apply IsS27.set_9) | exact HI0.out)) hb); have n1_ := Aside0.mk (KeepBut.trans (by repeat (first | (with_reducible first | exact HK.out | apply KeepBut.set_ | apply keep_drewN | apply keep_drew | apply keep_alloc) | exact HK.out)) (KeepBut.of_below hb g none) (.inl rfl)); have n2_ := Aside0.mk (below_step (by repeat (first | (with_reducible first | exact HB.out | apply below_alloc | apply pw_below_drewN | apply below_drew1 | refine below_set ?_ (IsS27.ge HI0.out)) | exact HB.out)) hb); clear HI0; clear HK; clear HB; have HI0 := n0_; have HK := n1_; have HB := n2_; clear n0_ n1_ n2_; (try clear hb); (try clear hb2); (try clear hk); (try clear hi)))
        go_ret
        exact ⟨by first | rfl | (simp [errW_none, errW_some] <;> rfl) | (simp [*, errW_none, errW_some] <;> rfl), by repeat (first | (with_reducible first | exact HI0.out | apply IsS27.alloc | apply IsS27.drewN | apply IsS27.drew | apply IsS27.set_0 | apply IsS27.set_1 | apply IsS27.set_2 | apply IsS27.set_3 | apply IsS27.set_4 | apply IsS27.set_5 | apply IsS27.set_6 | apply IsS27.set_7 | apply IsS27.set_8 | apply IsS27.set_9) | exact HI0.out), by repeat (first | (with_reducible first | exact HB.out | apply below_alloc | apply pw_below_drewN | apply below_drew1 | refine below_set ?_ (IsS27.ge HI0.out)) | exact HB.out), by repeat (first | (with_reducible first | exact HK.out | apply KeepBut.set_ | apply keep_drewN | apply keep_drew | apply keep_alloc) | exact HK.out)⟩
       ·replace c8 := Bool.eq_false_iff.mpr c8
        subst c8
        have H1 : (order_Order_toxic.l0 k1 l1 l1 (l1.length : Int) (wrap64 (x11_1 + 1)) s0_0 s0_1 s0_2 s0_3 s0_4 s0_5 s0_6 s0_7 s0_8 s0_9) = some (r1, r2, r3, r4, r5, r6, r7, r8, r9, r10, r11) := by rw [if_neg (show ¬ (false = true) by decide)] at H; exact H
        clear H
        have H := H1
        clear H1
        have H' := Aside0.mk H
        clear H
        have p101 : 0 ≤ (x11_1 : Int) := of_decide_eq_true (by first | (with_reducible assumption) | assumption)
        have q101 : x11_1 < (l1.length : Int) := of_decide_eq_true (by first | (with_reducible assumption) | assumption)
        obtain ⟨ad101, e101, hx101_0⟩ := Kd.at_string HR1.out x11_1 p101 q101
        cases e101
        replace hx101_0 := keep_cell HK.out hx101_0 (by first | (rw [add_block]; exact hf1 _ rfl (by omega)) | exact hf1 _ rfl (by omega) | exact hf1 ad101 rfl (by omega))
        replace p101 := eq_true p101
        replace q101 := eq_true q101
        go_wp2_with (first | (go_at_call 50; (with_reducible refine (strings_ContainsAny.calls (rdOf ByteArray.empty l1 x11_1) (⟨#[32, 9]⟩ : ByteArray) false _ A7.out).mono ?_); rintro e w10 ⟨rfl, hb⟩; have n0_ := Aside0.mk (IsS27.below (by repeat (first | (with_reducible first | exact HI0.out | apply IsS27.alloc | apply IsS27.drewN | apply IsS27.drew | apply IsS27.set_0 | apply IsS27.set_1 | apply IsS27.set_2 | apply IsS27.set_3 | apply IsS27.set_4 | apply IsS27.set_5 | apply IsS27.set_6 | apply IsS27.set_7 | apply IsS27.set_8 | apply IsS27.set_9) | exact HI0.out)) hb); have n1_ := Aside0.mk (KeepBut.trans (by repeat (first | (with_reducible first | exact HK.out | apply KeepBut.set_ | apply keep_drewN | apply keep_drew | apply keep_alloc) | exact HK.out)) (KeepBut.of_below hb g none) (.inl rfl)); have n2_ := Aside0.mk (below_step (by repeat (first | (with_reducible first | exact HB.out | apply below_alloc | apply pw_below_drewN | apply below_drew1 | refine below_set ?_ (IsS27.ge HI0.out)) | exact HB.out)) hb); clear HI0; clear HK; clear HB; have HI0 := n0_; have HK := n1_; have HB := n2_; clear n0_ n1_ n2_; (try clear hb); (try clear hb2); (try clear hk); (try clear hi)))
        go_roundg k1
        case measure => have := HK1.out; omega
        case rel => exact ⟨(wrap64 (x11_1 + 1)), (by first | rfl | (simp; done) | (simp [*]; done)), H', ⟨by have := HK1.out; omega⟩, ⟨by repeat (first | (with_reducible first | exact HI0.out | apply IsS27.alloc | apply IsS27.drewN | apply IsS27.drew | apply IsS27.set_0 | apply IsS27.set_1 | apply IsS27.set_2 | apply IsS27.set_3 | apply IsS27.set_4 | apply IsS27.set_5 | apply IsS27.set_6 | apply IsS27.set_7 | apply IsS27.set_8 | apply IsS27.set_9) | exact HI0.out)⟩, ⟨by repeat (first | (with_reducible first | exact HK.out | apply KeepBut.set_ | apply keep_drewN | apply keep_drew | apply keep_alloc) | exact HK.out)⟩, ⟨by repeat (first | (with_reducible first | exact HB.out | apply below_alloc | apply pw_below_drewN | apply below_drew1 | refine below_set ?_ (IsS27.ge HI0.out)) | exact HB.out)⟩⟩
     ·rw [if_neg c5] at H
      exact absurd H (by simp)
    ·rw [if_neg c4] at H
     exact absurd H (by simp)
   ·rw [if_neg c3] at H
    have c3b0 : decide (x11_1 < (l1.length : Int)) = false := decide_eq_false c3
    clear c3
    replace H := Option.bind_eq_some_iff.mp H
    obtain ⟨t103, A110, H⟩ := H
    replace H : ((toxic_Parse.f t103).bind fun bt104 => (some (bt104.2.2.2.2.2.2, s0_0, s0_1, s0_2, s0_3, bt104.1, bt104.2.1, bt104.2.2.1, bt104.2.2.2.1, bt104.2.2.2.2.1, bt104.2.2.2.2.2.1))) = some (r1, r2, r3, r4, r5, r6, r7, r8, r9, r10, r11) := H
    have A11 := Aside0.mk A110
    clear A110
    replace H := Option.bind_eq_some_iff.mp H
    obtain ⟨⟨t104, t105, t106, t107, t108, t109, t110⟩, A120, H⟩ := H
    replace H : (some (t110, s0_0, s0_1, s0_2, s0_3, t104, t105, t106, t107, t108, t109)) = some (r1, r2, r3, r4, r5, r6, r7, r8, r9, r10, r11) := H
    have A12 := Aside0.mk A120
    clear A120
    simp only [Option.some.injEq, Prod.mk.injEq] at H
    obtain ⟨rfl, rfl, rfl, rfl, rfl, rfl, rfl, rfl, rfl, rfl, rfl⟩ := H
    go_wp2_with (first | ((with_reducible refine gate_callee (f := 52) rfl ?_); refine goesL_ (some 24) rfl rfl Tryz.func52 (by kernel_rfl) rfl #[.slice A1 l1.length c1, .string (⟨#[32]⟩ : ByteArray)] rfl (by (try simp only [List.map_toArray, List.map_cons, List.map_nil]); first | done | rfl | (simp only [List.length_drop, List.length_take]; rfl)) ?_; (with_reducible refine (strings_Join.calls _ _ l1 (⟨#[32]⟩ : ByteArray) t103 _ ?side1 ?side2 A11.out).mono ?_); (case side1 => exact Kd.C_keep (⟨#[]⟩ : ByteArray) HR1.out (by repeat (first | (with_reducible first | exact HK.out | apply KeepBut.set_ | apply keep_drewN | apply keep_drew | apply keep_alloc) | exact HK.out)) hf1); (case side2 => exact HC1.out); rintro e w13 ⟨rfl, hb⟩; refine ⟨_, rfl, ?_⟩; have n0_ := Aside0.mk (IsS27.below (by repeat (first | (with_reducible first | exact HI0.out | apply IsS27.alloc | apply IsS27.drewN | apply IsS27.drew | apply IsS27.set_0 | apply IsS27.set_1 | apply IsS27.set_2 | apply IsS27.set_3 | apply IsS27.set_4 | apply IsS27.set_5 | apply IsS27.set_6 | apply IsS27.set_7 | apply IsS27.set_8 | apply IsS27.set_9) | exact HI0.out)) hb); have n1_ := Aside0.mk (KeepBut.trans (by repeat (first | (with_reducible first | exact HK.out | apply KeepBut.set_ | apply keep_drewN | apply keep_drew | apply keep_alloc) | exact HK.out)) (KeepBut.of_below hb g none) (.inl rfl)); have n2_ := Aside0.mk (below_step (by repeat (first | (with_reducible first | exact HB.out | apply below_alloc | apply pw_below_drewN | apply below_drew1 | refine below_set ?_ (IsS27.ge HI0.out)) | exact HB.out)) hb); clear HI0; clear HK; clear HB; have HI0 := n0_; have HK := n1_; have HB := n2_; clear n0_ n1_ n2_; (try clear hb); (try clear hb2); (try clear hk); (try clear hi)) | ((with_reducible refine gate_callee (f := 51) rfl ?_); refine goesL_ (some 25) rfl rfl Tryz.func51 (by kernel_rfl) rfl #[.string t103] rfl (by (try simp only [List.map_toArray, List.map_cons, List.map_nil]); first | done | rfl | (simp only [List.length_drop, List.length_take]; rfl)) ?_; (with_reducible refine (toxic_Parse.calls t103 t104 t105 t106 t107 t108 t109 t110 _ A12.out).mono ?_); rintro e w14 ⟨rfl, hb⟩; refine ⟨_, rfl, ?_⟩; have n0_ := Aside0.mk (IsS27.below (by repeat (first | (with_reducible first | exact HI0.out | apply IsS27.alloc | apply IsS27.drewN | apply IsS27.drew | apply IsS27.set_0 | apply IsS27.set_1 | apply IsS27.set_2 | apply IsS27.set_3 | apply IsS27.set_4 | apply IsS27.set_5 | apply IsS27.set_6 | apply IsS27.set_7 | apply IsS27.set_8 | apply IsS27.set_9) | exact HI0.out)) hb); have n1_ := Aside0.mk (KeepBut.trans (by repeat (first | (with_reducible first | exact HK.out | apply KeepBut.set_ | apply keep_drewN | apply keep_drew | apply keep_alloc) | exact HK.out)) (KeepBut.of_below hb g none) (.inl rfl)); have n2_ := Aside0.mk (below_step (by repeat (first | (with_reducible first | exact HB.out | apply below_alloc | apply pw_below_drewN | apply below_drew1 | refine below_set ?_ (IsS27.ge HI0.out)) | exact HB.out)) hb); clear HI0; clear HK; clear HB; have HI0 := n0_; have HK := n1_; have HB := n2_; clear n0_ n1_ n2_; (try clear hb); (try clear hb2); (try clear hk); (try clear hi)) | ((with_reducible refine gate_dst (N := 7) rfl ?_); refine box_event ?hg (N := 7) ?hd (cs := #[.string (⟨#[]⟩ : ByteArray), .int .i64 0, .bool false, .int .i64 0, .int .i64 0, .int .i64 0]) (t := 25) ?hr ?_; (case hd => rfl); (case hg => rfl); (case hr => first | (go_simp; done) | (go_simp; rfl)); intro gb111 hg w15 hbox hb; have n0_ := Aside0.mk (IsS27.below (by repeat (first | (with_reducible first | exact HI0.out | apply IsS27.alloc | apply IsS27.drewN | apply IsS27.drew | apply IsS27.set_0 | apply IsS27.set_1 | apply IsS27.set_2 | apply IsS27.set_3 | apply IsS27.set_4 | apply IsS27.set_5 | apply IsS27.set_6 | apply IsS27.set_7 | apply IsS27.set_8 | apply IsS27.set_9) | exact HI0.out)) hb); have n1_ := Aside0.mk (KeepBut.trans (by repeat (first | (with_reducible first | exact HK.out | apply KeepBut.set_ | apply keep_drewN | apply keep_drew | apply keep_alloc) | exact HK.out)) (KeepBut.of_below hb g none) (.inl rfl)); have n2_ := Aside0.mk (below_step (by repeat (first | (with_reducible first | exact HB.out | apply below_alloc | apply pw_below_drewN | apply below_drew1 | refine below_set ?_ (IsS27.ge HI0.out)) | exact HB.out)) hb); have n3_ := Aside0.mk (hbox); have n4_ := Aside0.mk ((by rw [hg]; exact (keep_size (w := w) (g := g) (row := none) (by repeat (first | (with_reducible first | exact HK.out | apply KeepBut.set_ | apply keep_drewN | apply keep_drew | apply keep_alloc) | exact HK.out))) : w.heap.size ≤ gb111)); have n5_ := Aside0.mk ((Nat.le_trans HW0.out (by rw [hg]; exact (keep_size (w := w) (g := g) (row := none) (by repeat (first | (with_reducible first | exact HK.out | apply KeepBut.set_ | apply keep_drewN | apply keep_drew | apply keep_alloc) | exact HK.out))) : w.heap.size ≤ gb111) : w0.heap.size ≤ gb111)); have n6_ := Aside0.mk ((by rw [hg]; exact Nat.ne_of_lt (IsS27.lt (show IsS27 w0 _ g s0_0 s0_1 s0_2 s0_3 s0_4 s0_5 s0_6 s0_7 s0_8 s0_9 from by repeat (first | (with_reducible first | exact HI0.out | apply IsS27.alloc | apply IsS27.drewN | apply IsS27.drew | apply IsS27.set_0 | apply IsS27.set_1 | apply IsS27.set_2 | apply IsS27.set_3 | apply IsS27.set_4 | apply IsS27.set_5 | apply IsS27.set_6 | apply IsS27.set_7 | apply IsS27.set_8 | apply IsS27.set_9) | exact HI0.out))) : g ≠ gb111)); have n7_ := Aside0.mk ((by rw [hg]; exact Nat.ne_of_gt (IsS27.lt (show IsS27 w0 _ g s0_0 s0_1 s0_2 s0_3 s0_4 s0_5 s0_6 s0_7 s0_8 s0_9 from by repeat (first | (with_reducible first | exact HI0.out | apply IsS27.alloc | apply IsS27.drewN | apply IsS27.drew | apply IsS27.set_0 | apply IsS27.set_1 | apply IsS27.set_2 | apply IsS27.set_3 | apply IsS27.set_4 | apply IsS27.set_5 | apply IsS27.set_6 | apply IsS27.set_7 | apply IsS27.set_8 | apply IsS27.set_9) | exact HI0.out))) : gb111 ≠ g)); clear HI0; clear HK; clear HB; have HI0 := n0_; have HK := n1_; have HB := n2_; have BK111 := n3_; have GW111 := n4_; have GE111 := n5_; have NB0_111 := n6_; have NB111_0 := n7_; clear n0_ n1_ n2_ n3_ n4_ n5_ n6_ n7_; clear hb hbox hg; have hnb16 := NB111_0.out; have hnc16 := NB0_111.out; have hcz17_0 : w15.cell? ⟨gb111, 0, none⟩ = some (.string (⟨#[]⟩ : ByteArray)) := (blk_cell BK111.out 0).trans rfl; have hcz17_1 : w15.cell? ⟨gb111, 1, none⟩ = some (.int .i64 0) := (blk_cell BK111.out 1).trans rfl; have hcz17_2 : w15.cell? ⟨gb111, 2, none⟩ = some (.bool false) := (blk_cell BK111.out 2).trans rfl; have hcz17_3 : w15.cell? ⟨gb111, 3, none⟩ = some (.int .i64 0) := (blk_cell BK111.out 3).trans rfl; have hcz17_4 : w15.cell? ⟨gb111, 4, none⟩ = some (.int .i64 0) := (blk_cell BK111.out 4).trans rfl; have hcz17_5 : w15.cell? ⟨gb111, 5, none⟩ = some (.int .i64 0) := (blk_cell BK111.out 5).trans rfl; have hfz17_0 := blk_frozen BK111.out 0; have hfz17_1 := blk_frozen BK111.out 1; have hfz17_2 := blk_frozen BK111.out 2; have hfz17_3 := blk_frozen BK111.out 3; have hfz17_4 := blk_frozen BK111.out 4; have hfz17_5 := blk_frozen BK111.out 5; obtain ⟨HGz18, hgz18⟩ := HI0.out; have hcz18_0 := cellS27_0 HGz18; have hcz18_1 := cellS27_1 HGz18; have hcz18_2 := cellS27_2 HGz18; have hcz18_3 := cellS27_3 HGz18; have hcz18_4 := cellS27_4 HGz18; have hcz18_5 := cellS27_5 HGz18; have hcz18_6 := cellS27_6 HGz18; have hcz18_7 := cellS27_7 HGz18; have hcz18_8 := cellS27_8 HGz18; have hcz18_9 := cellS27_9 HGz18; have hfz18_0 := blk_frozen HGz18 0; have hfz18_1 := blk_frozen HGz18 1; have hfz18_2 := blk_frozen HGz18 2; have hfz18_3 := blk_frozen HGz18 3; have hfz18_4 := blk_frozen HGz18 4; have hfz18_5 := blk_frozen HGz18 5; have hfz18_6 := blk_frozen HGz18 6; have hfz18_7 := blk_frozen HGz18 7; have hfz18_8 := blk_frozen HGz18 8; have hfz18_9 := blk_frozen HGz18 9; clear HGz18 hgz18))
    go_ret
    exact ⟨by first | rfl | (simp [errW_none, errW_some] <;> rfl) | (simp [*, errW_none, errW_some] <;> rfl), (IsS27.set_9 (IsS27.set_8 (IsS27.set_7 (IsS27.set_6 (IsS27.set_5 (IsS27.set_4 (IsS27.far (p := ⟨gb111, 5, none⟩) (IsS27.far (p := ⟨gb111, 4, none⟩) (IsS27.far (p := ⟨gb111, 3, none⟩) (IsS27.far (p := ⟨gb111, 2, none⟩) (IsS27.far (p := ⟨gb111, 1, none⟩) (IsS27.far (p := ⟨gb111, 0, none⟩) HI0.out NB0_111.out _) NB0_111.out _) NB0_111.out _) NB0_111.out _) NB0_111.out _) NB0_111.out _) _) _) _) _) _) _), by repeat (first | (with_reducible first | exact HB.out | apply below_alloc | apply pw_below_drewN | apply below_drew1 | refine below_set ?_ (IsS27.ge HI0.out) | refine below_set ?_ GE111.out) | exact HB.out), by repeat (first | (with_reducible first | exact HK.out | apply KeepBut.set_ | apply keep_drewN | apply keep_drew | apply keep_alloc | refine keep_far ?_ GW111.out _) | exact HK.out)⟩
end Go.Proofs.YtlglbpjccpdloaaGreatDoor.POrdT
set_option linter.unusedVariables false
set_option linter.unusedSimpArgs false
namespace Go.Proofs.YtlglbpjccpdloaaGreatDoor.Ext
open Go.RowKit Go.Shelf Go.Proofs.YtlglbpjccpdloaaGreatDoorW.PrintWords Go.Proofs.YtlglbpjccpdloaaGreatDoorW.PrintLast Go.Proofs.YtlglbpjccpdloaaGreatDoor.PWrdA Go.Proofs.YtlglbpjccpdloaaGreatDoor.ToxZ Go.Proofs.YtlglbpjccpdloaaGreatDoor.Tox
theorem alloc_blk (w : World) (cs : Array Value) (t : TypeId) : (w.alloc (.cells cs t)).heap[w.heap.size]? = some (.cells cs t (0, 0)) := by
  show (w.heap.push _)[w.heap.size]? = _
  simp
set_option maxRecDepth 100000 in
theorem from_nil (A0 : Option Addr) (c0 : Nat) (w : World) :
    Calls Tryz.prog 9 #[.slice A0 0 c0] w fun e w' => e = .returned (.tuple #[.agg (ordC 0 ⟨#[]⟩ ⟨#[]⟩ 0 ⟨#[]⟩ 0 false 0 0 0), .int .i64 160]) ∧ Below w.heap.size w w' := by
  unfold ordC
  go_enter Tryz.func9, Tryz.ntmps9
  go_wp2
  refine bodyPost_ret (results_ct rfl _ _ w.heap.size 27 _ (0, 0) _ rfl (alloc_blk _ _ _) Tryz.underlying27 rfl (by kernel_rfl)) rfl ?_
  exact ⟨rfl, by repeat (first | exact Below.refl _ _ | apply below_alloc)⟩
def setOrd (W : World) (g : Nat) (y0 : Int) (y1 : ByteArray) (y2 : ByteArray) (y3 : Int) (y4 : ByteArray) (y5 : Int) (y6 : Bool) (y7 : Int) (y8 : Int) (y9 : Int) : World := ((((((((((W.setCell ⟨g, 0, none⟩ (.int .i64 y0)).setCell ⟨g, 1, none⟩ (.string y1)).setCell ⟨g, 2, none⟩ (.string y2)).setCell ⟨g, 3, none⟩ (.int .i64 y3)).setCell ⟨g, 4, none⟩ (.string y4)).setCell ⟨g, 5, none⟩ (.int .i64 y5)).setCell ⟨g, 6, none⟩ (.bool y6)).setCell ⟨g, 7, none⟩ (.int .i64 y7)).setCell ⟨g, 8, none⟩ (.int .i64 y8)).setCell ⟨g, 9, none⟩ (.int .i64 y9))
theorem ord_put (W : World) (g : Nat) (x0 : Int) (x1 : ByteArray) (x2 : ByteArray) (x3 : Int) (x4 : ByteArray) (x5 : Int) (x6 : Bool) (x7 : Int) (x8 : Int) (x9 : Int) (y0 : Int) (y1 : ByteArray) (y2 : ByteArray) (y3 : Int) (y4 : ByteArray) (y5 : Int) (y6 : Bool) (y7 : Int) (y8 : Int) (y9 : Int) (t : TypeId) (h : W.heap[g]? = some (.cells (ordC x0 x1 x2 x3 x4 x5 x6 x7 x8 x9) t (0, 0))) : (setOrd W g y0 y1 y2 y3 y4 y5 y6 y7 y8 y9).heap[g]? = some (.cells (ordC y0 y1 y2 y3 y4 y5 y6 y7 y8 y9) t (0, 0)) := by
  unfold setOrd ordC
  unfold ordC at h
  refine blk_put (cs := #[.int .i64 y0, .string y1, .string y2, .int .i64 y3, .string y4, .int .i64 y5, .bool y6, .int .i64 y7, .int .i64 y8, .int .i64 x9]) ?_ 9 (.int .i64 y9) rfl
  refine blk_put (cs := #[.int .i64 y0, .string y1, .string y2, .int .i64 y3, .string y4, .int .i64 y5, .bool y6, .int .i64 y7, .int .i64 x8, .int .i64 x9]) ?_ 8 (.int .i64 y8) rfl
  refine blk_put (cs := #[.int .i64 y0, .string y1, .string y2, .int .i64 y3, .string y4, .int .i64 y5, .bool y6, .int .i64 x7, .int .i64 x8, .int .i64 x9]) ?_ 7 (.int .i64 y7) rfl
  refine blk_put (cs := #[.int .i64 y0, .string y1, .string y2, .int .i64 y3, .string y4, .int .i64 y5, .bool x6, .int .i64 x7, .int .i64 x8, .int .i64 x9]) ?_ 6 (.bool y6) rfl
  refine blk_put (cs := #[.int .i64 y0, .string y1, .string y2, .int .i64 y3, .string y4, .int .i64 x5, .bool x6, .int .i64 x7, .int .i64 x8, .int .i64 x9]) ?_ 5 (.int .i64 y5) rfl
  refine blk_put (cs := #[.int .i64 y0, .string y1, .string y2, .int .i64 y3, .string x4, .int .i64 x5, .bool x6, .int .i64 x7, .int .i64 x8, .int .i64 x9]) ?_ 4 (.string y4) rfl
  refine blk_put (cs := #[.int .i64 y0, .string y1, .string y2, .int .i64 x3, .string x4, .int .i64 x5, .bool x6, .int .i64 x7, .int .i64 x8, .int .i64 x9]) ?_ 3 (.int .i64 y3) rfl
  refine blk_put (cs := #[.int .i64 y0, .string y1, .string x2, .int .i64 x3, .string x4, .int .i64 x5, .bool x6, .int .i64 x7, .int .i64 x8, .int .i64 x9]) ?_ 2 (.string y2) rfl
  refine blk_put (cs := #[.int .i64 y0, .string x1, .string x2, .int .i64 x3, .string x4, .int .i64 x5, .bool x6, .int .i64 x7, .int .i64 x8, .int .i64 x9]) ?_ 1 (.string y1) rfl
  refine blk_put (cs := #[.int .i64 x0, .string x1, .string x2, .int .i64 x3, .string x4, .int .i64 x5, .bool x6, .int .i64 x7, .int .i64 x8, .int .i64 x9]) ?_ 0 (.int .i64 y0) rfl
  exact h
theorem ord_below (w W : World) (g : Nat) (y0 : Int) (y1 : ByteArray) (y2 : ByteArray) (y3 : Int) (y4 : ByteArray) (y5 : Int) (y6 : Bool) (y7 : Int) (y8 : Int) (y9 : Int) (h : Below w.heap.size w W) (hg : w.heap.size ≤ g) : Below w.heap.size w (setOrd W g y0 y1 y2 y3 y4 y5 y6 y7 y8 y9) := by
  unfold setOrd
  repeat (first | (with_reducible exact h) | (with_reducible refine below_set ?_ hg))
set_option maxRecDepth 100000 in
theorem from_short (A0 : Option Addr) (c0 : Nat) (l0 : List ByteArray) (hl : l0 ≠ []) (w : World) (hT : Aside0 (Tab w)) (hr0 : Kd.C Kd.string w A0 l0.length l0) (hc0 : l0.length ≤ c0) (hm0 : l0.length ≤ 4611686018427387904)
    (hv : (verbOf l0).1 = 0) :
    Calls Tryz.prog 9 #[.slice A0 l0.length c0] w fun e w' => e = .returned (.tuple #[.agg (ordC 0 ⟨#[]⟩ ⟨#[]⟩ 0 ⟨#[]⟩ 0 false 0 0 0), .int .i64 162]) ∧ Below w.heap.size w w' := by
  unfold ordC
  have q0 : ((l0.length : Int) == 0) = false := by rw [beq_eq_false_iff_ne]; intro h; exact hl (List.length_eq_zero_iff.1 (by omega))
  have HC := Lib.hid (fun W (hb : Below w.heap.size w W) => verb_is A0 c0 l0 W ⟨tab_below hT.out hb⟩ (Kd.C_below hr0 hb) hc0 hm0)
  obtain ⟨v, hvv⟩ : ∃ v, (verbOf l0).1 = v := ⟨_, rfl⟩
  obtain ⟨r, hrr⟩ : ∃ r, (verbOf l0).2 = r := ⟨_, rfl⟩
  rw [hvv, hrr] at HC
  have hv0 : v = 0 := by rw [← hvv]; exact hv
  subst hv0
  clear hl hr0 hc0 hm0 hv hvv hrr
  have hmost : order_most.f 0 = some (1, 1) := rfl
  have HB0 := Lib.hid (below_alloc (Below.refl w.heap.size w) (.cells #[.int .i64 0, .string ⟨#[]⟩, .string ⟨#[]⟩, .int .i64 0, .string ⟨#[]⟩, .int .i64 0, .bool false, .int .i64 0, .int .i64 0, .int .i64 0] 27))
  have HBK := Lib.hid (alloc_blk w #[.int .i64 0, .string ⟨#[]⟩, .string ⟨#[]⟩, .int .i64 0, .string ⟨#[]⟩, .int .i64 0, .bool false, .int .i64 0, .int .i64 0, .int .i64 0] 27)
  go_enter Tryz.func9, Tryz.ntmps9
  go_wp2_with (first | (go_at_call 22; refine (HC.out _ HB0.out).mono ?_; rintro e w1 ⟨⟨A, c, rfl, hr, hc⟩, hb⟩; have HB1 := Lib.hid (below_step HB0.out hb); have HBK1 := Lib.hid (blk_below HBK.out hb); clear hr hc hb; have z0 : w1.cell? ⟨w.heap.size, 0, none⟩ = some (.int .i64 0) := (blk_cell HBK1.out 0).trans rfl; have f0 := blk_frozen HBK1.out 0; have z1 : w1.cell? ⟨w.heap.size, 1, none⟩ = some (.string ⟨#[]⟩) := (blk_cell HBK1.out 1).trans rfl; have f1 := blk_frozen HBK1.out 1; have z2 : w1.cell? ⟨w.heap.size, 2, none⟩ = some (.string ⟨#[]⟩) := (blk_cell HBK1.out 2).trans rfl; have f2 := blk_frozen HBK1.out 2; have z3 : w1.cell? ⟨w.heap.size, 3, none⟩ = some (.int .i64 0) := (blk_cell HBK1.out 3).trans rfl; have f3 := blk_frozen HBK1.out 3; have z4 : w1.cell? ⟨w.heap.size, 4, none⟩ = some (.string ⟨#[]⟩) := (blk_cell HBK1.out 4).trans rfl; have f4 := blk_frozen HBK1.out 4; have z5 : w1.cell? ⟨w.heap.size, 5, none⟩ = some (.int .i64 0) := (blk_cell HBK1.out 5).trans rfl; have f5 := blk_frozen HBK1.out 5; have z6 : w1.cell? ⟨w.heap.size, 6, none⟩ = some (.bool false) := (blk_cell HBK1.out 6).trans rfl; have f6 := blk_frozen HBK1.out 6; have z7 : w1.cell? ⟨w.heap.size, 7, none⟩ = some (.int .i64 0) := (blk_cell HBK1.out 7).trans rfl; have f7 := blk_frozen HBK1.out 7; have z8 : w1.cell? ⟨w.heap.size, 8, none⟩ = some (.int .i64 0) := (blk_cell HBK1.out 8).trans rfl; have f8 := blk_frozen HBK1.out 8; have z9 : w1.cell? ⟨w.heap.size, 9, none⟩ = some (.int .i64 0) := (blk_cell HBK1.out 9).trans rfl; have f9 := blk_frozen HBK1.out 9) | (go_at_call 23; refine (order_most.calls 0 1 1 _ hmost).mono ?_; rintro e w' ⟨rfl, ⟨nd, rfl⟩⟩))
  refine bodyPost_ret (results_ct rfl _ _ w.heap.size 27 _ (0, 0) _ rfl (ord_put (w1.drewN nd) w.heap.size 0 ⟨#[]⟩ ⟨#[]⟩ 0 ⟨#[]⟩ 0 false 0 0 0 0 ⟨#[]⟩ ⟨#[]⟩ 0 ⟨#[]⟩ 0 false 0 0 0 _ HBK1.out) Tryz.underlying27 rfl (by kernel_rfl)) rfl ?_
  exact ⟨rfl, ord_below w (w1.drewN nd) w.heap.size 0 ⟨#[]⟩ ⟨#[]⟩ 0 ⟨#[]⟩ 0 false 0 0 0 (by repeat (first | exact HB1.out | apply pw_below_drewN)) (Nat.le_refl _)⟩
set_option maxRecDepth 100000 in
theorem from_many (A0 : Option Addr) (c0 : Nat) (l0 : List ByteArray) (hl : l0 ≠ []) (w : World) (hT : Aside0 (Tab w)) (hr0 : Kd.C Kd.string w A0 l0.length l0) (hc0 : l0.length ≤ c0) (hm0 : l0.length ≤ 4611686018427387904)
    (v : Int) (r : List ByteArray) (hvv : (verbOf l0).1 = v) (hrr : (verbOf l0).2 = r) (hv0 : v ≠ 0) (lo hi : Int) (hmost : order_most.f v = some (lo, hi)) (hbad : (r.length : Int) < lo ∨ (¬ (r.length : Int) < lo ∧ hi < (r.length : Int))) :
    Calls Tryz.prog 9 #[.slice A0 l0.length c0] w fun e w' => e = .returned (.tuple #[.agg (ordC 0 ⟨#[]⟩ ⟨#[]⟩ 0 ⟨#[]⟩ 0 false 0 0 0), .int .i64 161]) ∧ Below w.heap.size w w' := by
  unfold ordC
  have q0 : ((l0.length : Int) == 0) = false := by rw [beq_eq_false_iff_ne]; intro h; exact hl (List.length_eq_zero_iff.1 (by omega))
  have HC := Lib.hid (fun W (hb : Below w.heap.size w W) => verb_is A0 c0 l0 W ⟨tab_below hT.out hb⟩ (Kd.C_below hr0 hb) hc0 hm0)
  rw [hvv, hrr] at HC
  have hv1 : (v == 0) = false := by rw [beq_eq_false_iff_ne]; exact hv0
  have HM := Lib.hid (fun W => order_most.calls v lo hi W hmost)
  clear hl hr0 hc0 hm0 hv0 hvv hrr hmost
  have HB0 := Lib.hid (below_alloc (Below.refl w.heap.size w) (.cells #[.int .i64 0, .string ⟨#[]⟩, .string ⟨#[]⟩, .int .i64 0, .string ⟨#[]⟩, .int .i64 0, .bool false, .int .i64 0, .int .i64 0, .int .i64 0] 27))
  have HBK := Lib.hid (alloc_blk w #[.int .i64 0, .string ⟨#[]⟩, .string ⟨#[]⟩, .int .i64 0, .string ⟨#[]⟩, .int .i64 0, .bool false, .int .i64 0, .int .i64 0, .int .i64 0] 27)
  rcases hbad with hbad | ⟨hb0, hbad⟩
  · go_enter Tryz.func9, Tryz.ntmps9
    go_wp2_with (first | (go_at_call 22; refine (HC.out _ HB0.out).mono ?_; rintro e w1 ⟨⟨A, c, rfl, hr, hc⟩, hb⟩; have HB1 := Lib.hid (below_step HB0.out hb); have HBK1 := Lib.hid (blk_below HBK.out hb); clear hr hc hb; have z0 : w1.cell? ⟨w.heap.size, 0, none⟩ = some (.int .i64 0) := (blk_cell HBK1.out 0).trans rfl; have f0 := blk_frozen HBK1.out 0; have z1 : w1.cell? ⟨w.heap.size, 1, none⟩ = some (.string ⟨#[]⟩) := (blk_cell HBK1.out 1).trans rfl; have f1 := blk_frozen HBK1.out 1; have z2 : w1.cell? ⟨w.heap.size, 2, none⟩ = some (.string ⟨#[]⟩) := (blk_cell HBK1.out 2).trans rfl; have f2 := blk_frozen HBK1.out 2; have z3 : w1.cell? ⟨w.heap.size, 3, none⟩ = some (.int .i64 0) := (blk_cell HBK1.out 3).trans rfl; have f3 := blk_frozen HBK1.out 3; have z4 : w1.cell? ⟨w.heap.size, 4, none⟩ = some (.string ⟨#[]⟩) := (blk_cell HBK1.out 4).trans rfl; have f4 := blk_frozen HBK1.out 4; have z5 : w1.cell? ⟨w.heap.size, 5, none⟩ = some (.int .i64 0) := (blk_cell HBK1.out 5).trans rfl; have f5 := blk_frozen HBK1.out 5; have z6 : w1.cell? ⟨w.heap.size, 6, none⟩ = some (.bool false) := (blk_cell HBK1.out 6).trans rfl; have f6 := blk_frozen HBK1.out 6; have z7 : w1.cell? ⟨w.heap.size, 7, none⟩ = some (.int .i64 0) := (blk_cell HBK1.out 7).trans rfl; have f7 := blk_frozen HBK1.out 7; have z8 : w1.cell? ⟨w.heap.size, 8, none⟩ = some (.int .i64 0) := (blk_cell HBK1.out 8).trans rfl; have f8 := blk_frozen HBK1.out 8; have z9 : w1.cell? ⟨w.heap.size, 9, none⟩ = some (.int .i64 0) := (blk_cell HBK1.out 9).trans rfl; have f9 := blk_frozen HBK1.out 9) | (go_at_call 23; refine (HM.out _).mono ?_; rintro e w' ⟨rfl, ⟨nd, rfl⟩⟩))
    refine bodyPost_ret (results_ct rfl _ _ w.heap.size 27 _ (0, 0) _ rfl (ord_put (w1.drewN nd) w.heap.size 0 ⟨#[]⟩ ⟨#[]⟩ 0 ⟨#[]⟩ 0 false 0 0 0 0 ⟨#[]⟩ ⟨#[]⟩ 0 ⟨#[]⟩ 0 false 0 0 0 _ HBK1.out) Tryz.underlying27 rfl (by kernel_rfl)) rfl ?_
    exact ⟨rfl, ord_below w (w1.drewN nd) w.heap.size 0 ⟨#[]⟩ ⟨#[]⟩ 0 ⟨#[]⟩ 0 false 0 0 0 (by repeat (first | exact HB1.out | apply pw_below_drewN)) (Nat.le_refl _)⟩
  · go_enter Tryz.func9, Tryz.ntmps9
    go_wp2_with (first | (go_at_call 22; refine (HC.out _ HB0.out).mono ?_; rintro e w1 ⟨⟨A, c, rfl, hr, hc⟩, hb⟩; have HB1 := Lib.hid (below_step HB0.out hb); have HBK1 := Lib.hid (blk_below HBK.out hb); clear hr hc hb; have z0 : w1.cell? ⟨w.heap.size, 0, none⟩ = some (.int .i64 0) := (blk_cell HBK1.out 0).trans rfl; have f0 := blk_frozen HBK1.out 0; have z1 : w1.cell? ⟨w.heap.size, 1, none⟩ = some (.string ⟨#[]⟩) := (blk_cell HBK1.out 1).trans rfl; have f1 := blk_frozen HBK1.out 1; have z2 : w1.cell? ⟨w.heap.size, 2, none⟩ = some (.string ⟨#[]⟩) := (blk_cell HBK1.out 2).trans rfl; have f2 := blk_frozen HBK1.out 2; have z3 : w1.cell? ⟨w.heap.size, 3, none⟩ = some (.int .i64 0) := (blk_cell HBK1.out 3).trans rfl; have f3 := blk_frozen HBK1.out 3; have z4 : w1.cell? ⟨w.heap.size, 4, none⟩ = some (.string ⟨#[]⟩) := (blk_cell HBK1.out 4).trans rfl; have f4 := blk_frozen HBK1.out 4; have z5 : w1.cell? ⟨w.heap.size, 5, none⟩ = some (.int .i64 0) := (blk_cell HBK1.out 5).trans rfl; have f5 := blk_frozen HBK1.out 5; have z6 : w1.cell? ⟨w.heap.size, 6, none⟩ = some (.bool false) := (blk_cell HBK1.out 6).trans rfl; have f6 := blk_frozen HBK1.out 6; have z7 : w1.cell? ⟨w.heap.size, 7, none⟩ = some (.int .i64 0) := (blk_cell HBK1.out 7).trans rfl; have f7 := blk_frozen HBK1.out 7; have z8 : w1.cell? ⟨w.heap.size, 8, none⟩ = some (.int .i64 0) := (blk_cell HBK1.out 8).trans rfl; have f8 := blk_frozen HBK1.out 8; have z9 : w1.cell? ⟨w.heap.size, 9, none⟩ = some (.int .i64 0) := (blk_cell HBK1.out 9).trans rfl; have f9 := blk_frozen HBK1.out 9) | (go_at_call 23; refine (HM.out _).mono ?_; rintro e w' ⟨rfl, ⟨nd, rfl⟩⟩))
    refine bodyPost_ret (results_ct rfl _ _ w.heap.size 27 _ (0, 0) _ rfl (ord_put (w1.drewN nd) w.heap.size 0 ⟨#[]⟩ ⟨#[]⟩ 0 ⟨#[]⟩ 0 false 0 0 0 0 ⟨#[]⟩ ⟨#[]⟩ 0 ⟨#[]⟩ 0 false 0 0 0 _ HBK1.out) Tryz.underlying27 rfl (by kernel_rfl)) rfl ?_
    exact ⟨rfl, ord_below w (w1.drewN nd) w.heap.size 0 ⟨#[]⟩ ⟨#[]⟩ 0 ⟨#[]⟩ 0 false 0 0 0 (by repeat (first | exact HB1.out | apply pw_below_drewN)) (Nat.le_refl _)⟩
set_option maxRecDepth 100000 in
theorem from_alone (A0 : Option Addr) (c0 : Nat) (l0 : List ByteArray) (hl : l0 ≠ []) (w : World) (hT : Aside0 (Tab w)) (hr0 : Kd.C Kd.string w A0 l0.length l0) (hc0 : l0.length ≤ c0) (hm0 : l0.length ≤ 4611686018427387904)
    (v : Int) (r : List ByteArray) (hvv : (verbOf l0).1 = v) (hrr : (verbOf l0).2 = r) (hv0 : v ≠ 0) (lo hi : Int) (hmost : order_most.f v = some (lo, hi)) (hb1 : ¬ (r.length : Int) < lo) (hb2 : ¬ hi < (r.length : Int)) (hnp : order_noProxy.f v = some true) :
    Calls Tryz.prog 9 #[.slice A0 l0.length c0] w fun e w' => e = .returned (.tuple #[.agg (ordC v ⟨#[]⟩ ⟨#[]⟩ 0 ⟨#[]⟩ 0 false 0 0 0), .int .i64 0]) ∧ Below w.heap.size w w' := by
  unfold ordC
  have q0 : ((l0.length : Int) == 0) = false := by rw [beq_eq_false_iff_ne]; intro h; exact hl (List.length_eq_zero_iff.1 (by omega))
  have HC := Lib.hid (fun W (hb : Below w.heap.size w W) => verb_is A0 c0 l0 W ⟨tab_below hT.out hb⟩ (Kd.C_below hr0 hb) hc0 hm0)
  rw [hvv, hrr] at HC
  have hv1 : (v == 0) = false := by rw [beq_eq_false_iff_ne]; exact hv0
  have HM := Lib.hid (fun W => order_most.calls v lo hi W hmost)
  have HN := Lib.hid (fun W => order_noProxy.calls v true W hnp)
  clear hnp hl hr0 hc0 hm0 hv0 hvv hrr hmost
  have HB0 := Lib.hid (below_alloc (Below.refl w.heap.size w) (.cells #[.int .i64 0, .string ⟨#[]⟩, .string ⟨#[]⟩, .int .i64 0, .string ⟨#[]⟩, .int .i64 0, .bool false, .int .i64 0, .int .i64 0, .int .i64 0] 27))
  have HBK := Lib.hid (alloc_blk w #[.int .i64 0, .string ⟨#[]⟩, .string ⟨#[]⟩, .int .i64 0, .string ⟨#[]⟩, .int .i64 0, .bool false, .int .i64 0, .int .i64 0, .int .i64 0] 27)
  go_enter Tryz.func9, Tryz.ntmps9
  go_wp2_with (first | (go_at_call 22; refine (HC.out _ HB0.out).mono ?_; rintro e w1 ⟨⟨A, c, rfl, hr, hc⟩, hb⟩; have HB1 := Lib.hid (below_step HB0.out hb); have HBK1 := Lib.hid (blk_below HBK.out hb); clear hr hc hb; have z0 : w1.cell? ⟨w.heap.size, 0, none⟩ = some (.int .i64 0) := (blk_cell HBK1.out 0).trans rfl; have f0 := blk_frozen HBK1.out 0; have z1 : w1.cell? ⟨w.heap.size, 1, none⟩ = some (.string ⟨#[]⟩) := (blk_cell HBK1.out 1).trans rfl; have f1 := blk_frozen HBK1.out 1; have z2 : w1.cell? ⟨w.heap.size, 2, none⟩ = some (.string ⟨#[]⟩) := (blk_cell HBK1.out 2).trans rfl; have f2 := blk_frozen HBK1.out 2; have z3 : w1.cell? ⟨w.heap.size, 3, none⟩ = some (.int .i64 0) := (blk_cell HBK1.out 3).trans rfl; have f3 := blk_frozen HBK1.out 3; have z4 : w1.cell? ⟨w.heap.size, 4, none⟩ = some (.string ⟨#[]⟩) := (blk_cell HBK1.out 4).trans rfl; have f4 := blk_frozen HBK1.out 4; have z5 : w1.cell? ⟨w.heap.size, 5, none⟩ = some (.int .i64 0) := (blk_cell HBK1.out 5).trans rfl; have f5 := blk_frozen HBK1.out 5; have z6 : w1.cell? ⟨w.heap.size, 6, none⟩ = some (.bool false) := (blk_cell HBK1.out 6).trans rfl; have f6 := blk_frozen HBK1.out 6; have z7 : w1.cell? ⟨w.heap.size, 7, none⟩ = some (.int .i64 0) := (blk_cell HBK1.out 7).trans rfl; have f7 := blk_frozen HBK1.out 7; have z8 : w1.cell? ⟨w.heap.size, 8, none⟩ = some (.int .i64 0) := (blk_cell HBK1.out 8).trans rfl; have f8 := blk_frozen HBK1.out 8; have z9 : w1.cell? ⟨w.heap.size, 9, none⟩ = some (.int .i64 0) := (blk_cell HBK1.out 9).trans rfl; have f9 := blk_frozen HBK1.out 9) | (go_at_call 23; refine (HM.out _).mono ?_; rintro e w' ⟨rfl, ⟨nd, rfl⟩⟩) | (go_at_call 24; refine (HN.out _).mono ?_; rintro e w' ⟨rfl, ⟨ne, rfl⟩⟩))
  refine bodyPost_ret (results_ct rfl _ _ w.heap.size 27 _ (0, 0) _ rfl (ord_put (w1.drewN (nd + ne)) w.heap.size 0 ⟨#[]⟩ ⟨#[]⟩ 0 ⟨#[]⟩ 0 false 0 0 0 v ⟨#[]⟩ ⟨#[]⟩ 0 ⟨#[]⟩ 0 false 0 0 0 _ HBK1.out) Tryz.underlying27 rfl (by kernel_rfl)) rfl ?_
  exact ⟨rfl, ord_below w (w1.drewN (nd + ne)) w.heap.size v ⟨#[]⟩ ⟨#[]⟩ 0 ⟨#[]⟩ 0 false 0 0 0 (by repeat (first | exact HB1.out | apply pw_below_drewN)) (Nat.le_refl _)⟩
set_option maxRecDepth 100000 in
theorem from_plain (A0 : Option Addr) (c0 : Nat) (l0 : List ByteArray) (hl : l0 ≠ []) (w : World) (hT : Aside0 (Tab w)) (hr0 : Kd.C Kd.string w A0 l0.length l0) (hc0 : l0.length ≤ c0) (hm0 : l0.length ≤ 4611686018427387904)
    (v : Int) (r : List ByteArray) (hvv : (verbOf l0).1 = v) (hrr : (verbOf l0).2 = r) (hv0 : v ≠ 0) (lo hi : Int) (hmost : order_most.f v = some (lo, hi)) (hb1 : ¬ (r.length : Int) < lo) (hb2 : ¬ hi < (r.length : Int)) (hnp : order_noProxy.f v = some false) (htx : order_toxical.f v = some false) (hv1' : v ≠ 1) (hv6 : v ≠ 6) (p : ByteArray) (rs : List ByteArray) (hrp : r = p :: rs) :
    Calls Tryz.prog 9 #[.slice A0 l0.length c0] w fun e w' => e = .returned (.tuple #[.agg (ordC v p ⟨#[]⟩ 0 ⟨#[]⟩ 0 false 0 0 0), .int .i64 0]) ∧ Below w.heap.size w w' := by
  unfold ordC
  have q0 : ((l0.length : Int) == 0) = false := by rw [beq_eq_false_iff_ne]; intro h; exact hl (List.length_eq_zero_iff.1 (by omega))
  have HC := Lib.hid (fun W (hb : Below w.heap.size w W) => verb_is A0 c0 l0 W ⟨tab_below hT.out hb⟩ (Kd.C_below hr0 hb) hc0 hm0)
  rw [hvv, hrr] at HC
  have hv1 : (v == 0) = false := by rw [beq_eq_false_iff_ne]; exact hv0
  have HM := Lib.hid (fun W => order_most.calls v lo hi W hmost)
  have HN := Lib.hid (fun W => order_noProxy.calls v false W hnp)
  have HX := Lib.hid (fun W => order_toxical.calls v false W htx)
  have hq1 : (v == 1) = false := by rw [beq_eq_false_iff_ne]; exact hv1'
  have hq6 : (v == 6) = false := by rw [beq_eq_false_iff_ne]; exact hv6
  have HRL := Lib.hid (show r.length = rs.length + 1 by rw [hrp]; rfl)
  have HRP := Lib.hid hrp
  clear hnp htx hv1' hv6 hrp hl hr0 hc0 hm0 hv0 hvv hrr hmost
  have HB0 := Lib.hid (below_alloc (Below.refl w.heap.size w) (.cells #[.int .i64 0, .string ⟨#[]⟩, .string ⟨#[]⟩, .int .i64 0, .string ⟨#[]⟩, .int .i64 0, .bool false, .int .i64 0, .int .i64 0, .int .i64 0] 27))
  have HBK := Lib.hid (alloc_blk w #[.int .i64 0, .string ⟨#[]⟩, .string ⟨#[]⟩, .int .i64 0, .string ⟨#[]⟩, .int .i64 0, .bool false, .int .i64 0, .int .i64 0, .int .i64 0] 27)
  go_enter Tryz.func9, Tryz.ntmps9
  go_wp2_with (first | (go_at_call 22; refine (HC.out _ HB0.out).mono ?_; rintro e w1 ⟨⟨A, c, rfl, hr, hc⟩, hb⟩; have HB1 := Lib.hid (below_step HB0.out hb); have HBK1 := Lib.hid (blk_below HBK.out hb); obtain ⟨ad, ha, hx⟩ := Kd.at_string hr 0 (by omega) (by rw [HRL.out]; omega); cases ha; obtain ⟨A', hcut, -, -⟩ := cut_from (A := some ad) (n := 1) (l := r) (by rw [HRL.out]; omega) hc; have hcut1 : ∀ W : World, (Instr.slice 22 (.slice (some ad) r.length c) (some (.int .i64 1)) none none).run Tryz.prog W = .ok (.slice A' (r.drop 1).length (c - 1)) W := hcut; generalize (r.drop 1).length = nr at hcut1; clear hcut; have hx1 : w1.cell? ad = some (.string p) := (by have h9 := hx; rw [show ad.add (0 : Int).toNat = ad by simp [Addr.add]] at h9; rw [h9, show rdOf ByteArray.empty r 0 = p by rw [HRP.out]; rfl]); have q7 : (0 : Int) < (r.length : Int) := (by rw [HRL.out]; omega); clear hx hr hc hb; have z0 : w1.cell? ⟨w.heap.size, 0, none⟩ = some (.int .i64 0) := (blk_cell HBK1.out 0).trans rfl; have f0 := blk_frozen HBK1.out 0; have z1 : w1.cell? ⟨w.heap.size, 1, none⟩ = some (.string ⟨#[]⟩) := (blk_cell HBK1.out 1).trans rfl; have f1 := blk_frozen HBK1.out 1; have z2 : w1.cell? ⟨w.heap.size, 2, none⟩ = some (.string ⟨#[]⟩) := (blk_cell HBK1.out 2).trans rfl; have f2 := blk_frozen HBK1.out 2; have z3 : w1.cell? ⟨w.heap.size, 3, none⟩ = some (.int .i64 0) := (blk_cell HBK1.out 3).trans rfl; have f3 := blk_frozen HBK1.out 3; have z4 : w1.cell? ⟨w.heap.size, 4, none⟩ = some (.string ⟨#[]⟩) := (blk_cell HBK1.out 4).trans rfl; have f4 := blk_frozen HBK1.out 4; have z5 : w1.cell? ⟨w.heap.size, 5, none⟩ = some (.int .i64 0) := (blk_cell HBK1.out 5).trans rfl; have f5 := blk_frozen HBK1.out 5; have z6 : w1.cell? ⟨w.heap.size, 6, none⟩ = some (.bool false) := (blk_cell HBK1.out 6).trans rfl; have f6 := blk_frozen HBK1.out 6; have z7 : w1.cell? ⟨w.heap.size, 7, none⟩ = some (.int .i64 0) := (blk_cell HBK1.out 7).trans rfl; have f7 := blk_frozen HBK1.out 7; have z8 : w1.cell? ⟨w.heap.size, 8, none⟩ = some (.int .i64 0) := (blk_cell HBK1.out 8).trans rfl; have f8 := blk_frozen HBK1.out 8; have z9 : w1.cell? ⟨w.heap.size, 9, none⟩ = some (.int .i64 0) := (blk_cell HBK1.out 9).trans rfl; have f9 := blk_frozen HBK1.out 9) | (go_at_call 23; refine (HM.out _).mono ?_; rintro e w' ⟨rfl, ⟨nd, rfl⟩⟩) | (go_at_call 24; refine (HN.out _).mono ?_; rintro e w' ⟨rfl, ⟨ne, rfl⟩⟩) | (go_at_call 28; refine (HX.out _).mono ?_; rintro e w' ⟨rfl, ⟨nx, rfl⟩⟩) | (go_at_call 25; refine (nothing_is _ _ _).mono ?_; rintro e w5 ⟨rfl, hw⟩; have hb5 : w5.heap[w1.heap.size]? = some (.cells #[.int .i64 v, .string p, .string ⟨#[]⟩, .int .i64 0, .string ⟨#[]⟩, .int .i64 0, .bool false, .int .i64 0, .int .i64 0, .int .i64 0] 27 (0, 0)) := (by rw [hw]; exact alloc_blk (w1.drewN _) _ _); have hr5 : w5.heap[w.heap.size]? = some (.cells #[.int .i64 0, .string ⟨#[]⟩, .string ⟨#[]⟩, .int .i64 0, .string ⟨#[]⟩, .int .i64 0, .bool false, .int .i64 0, .int .i64 0, .int .i64 0] 27 (0, 0)) := (by rw [hw]; exact blk_alloc (o := .cells _ _) HBK1.out _); have HR5 := Lib.hid hr5; have HB5 := Lib.hid (show Below w.heap.size w w5 by rw [hw]; repeat (first | exact HB1.out | apply pw_below_drewN | apply below_alloc)); clear hw; have y0 : w5.cell? ⟨w1.heap.size, 0, none⟩ = some (.int .i64 v) := (blk_cell hb5 0).trans rfl; have u0_ : w5.cell? ⟨w.heap.size, 0, none⟩ = some (.int .i64 0) := (blk_cell hr5 0).trans rfl; have g0_ := blk_frozen hr5 0; have y1 : w5.cell? ⟨w1.heap.size, 1, none⟩ = some (.string p) := (blk_cell hb5 1).trans rfl; have u1_ : w5.cell? ⟨w.heap.size, 1, none⟩ = some (.string ⟨#[]⟩) := (blk_cell hr5 1).trans rfl; have g1_ := blk_frozen hr5 1; have y2 : w5.cell? ⟨w1.heap.size, 2, none⟩ = some (.string ⟨#[]⟩) := (blk_cell hb5 2).trans rfl; have u2_ : w5.cell? ⟨w.heap.size, 2, none⟩ = some (.string ⟨#[]⟩) := (blk_cell hr5 2).trans rfl; have g2_ := blk_frozen hr5 2; have y3 : w5.cell? ⟨w1.heap.size, 3, none⟩ = some (.int .i64 0) := (blk_cell hb5 3).trans rfl; have u3_ : w5.cell? ⟨w.heap.size, 3, none⟩ = some (.int .i64 0) := (blk_cell hr5 3).trans rfl; have g3_ := blk_frozen hr5 3; have y4 : w5.cell? ⟨w1.heap.size, 4, none⟩ = some (.string ⟨#[]⟩) := (blk_cell hb5 4).trans rfl; have u4_ : w5.cell? ⟨w.heap.size, 4, none⟩ = some (.string ⟨#[]⟩) := (blk_cell hr5 4).trans rfl; have g4_ := blk_frozen hr5 4; have y5 : w5.cell? ⟨w1.heap.size, 5, none⟩ = some (.int .i64 0) := (blk_cell hb5 5).trans rfl; have u5_ : w5.cell? ⟨w.heap.size, 5, none⟩ = some (.int .i64 0) := (blk_cell hr5 5).trans rfl; have g5_ := blk_frozen hr5 5; have y6 : w5.cell? ⟨w1.heap.size, 6, none⟩ = some (.bool false) := (blk_cell hb5 6).trans rfl; have u6_ : w5.cell? ⟨w.heap.size, 6, none⟩ = some (.bool false) := (blk_cell hr5 6).trans rfl; have g6_ := blk_frozen hr5 6; have y7 : w5.cell? ⟨w1.heap.size, 7, none⟩ = some (.int .i64 0) := (blk_cell hb5 7).trans rfl; have u7_ : w5.cell? ⟨w.heap.size, 7, none⟩ = some (.int .i64 0) := (blk_cell hr5 7).trans rfl; have g7_ := blk_frozen hr5 7; have y8 : w5.cell? ⟨w1.heap.size, 8, none⟩ = some (.int .i64 0) := (blk_cell hb5 8).trans rfl; have u8_ : w5.cell? ⟨w.heap.size, 8, none⟩ = some (.int .i64 0) := (blk_cell hr5 8).trans rfl; have g8_ := blk_frozen hr5 8; have y9 : w5.cell? ⟨w1.heap.size, 9, none⟩ = some (.int .i64 0) := (blk_cell hb5 9).trans rfl; have u9_ : w5.cell? ⟨w.heap.size, 9, none⟩ = some (.int .i64 0) := (blk_cell hr5 9).trans rfl; have g9_ := blk_frozen hr5 9; clear hb5 hr5))
  refine bodyPost_ret (results_ct rfl _ _ w.heap.size 27 _ (0, 0) _ rfl (ord_put w5 w.heap.size 0 ⟨#[]⟩ ⟨#[]⟩ 0 ⟨#[]⟩ 0 false 0 0 0 v p ⟨#[]⟩ 0 ⟨#[]⟩ 0 false 0 0 0 _ HR5.out) Tryz.underlying27 rfl (by kernel_rfl)) rfl ?_
  exact ⟨rfl, ord_below w w5 w.heap.size v p ⟨#[]⟩ 0 ⟨#[]⟩ 0 false 0 0 0 HB5.out (Nat.le_refl _)⟩
set_option maxRecDepth 100000 in
theorem from_name (A0 : Option Addr) (c0 : Nat) (l0 : List ByteArray) (hl : l0 ≠ []) (w : World) (hT : Aside0 (Tab w)) (hr0 : Kd.C Kd.string w A0 l0.length l0) (hc0 : l0.length ≤ c0) (hm0 : l0.length ≤ 4611686018427387904)
    (v : Int) (r : List ByteArray) (hvv : (verbOf l0).1 = v) (hrr : (verbOf l0).2 = r) (hv0 : v ≠ 0) (lo hi : Int) (hmost : order_most.f v = some (lo, hi)) (hb1 : ¬ (r.length : Int) < lo) (hb2 : ¬ hi < (r.length : Int)) (hnp : order_noProxy.f v = some false) (hv1' : v ≠ 1) (hv6 : v = 6) (p q : ByteArray) (hrp : r = [p, q]) :
    Calls Tryz.prog 9 #[.slice A0 l0.length c0] w fun e w' => e = .returned (.tuple #[.agg (ordC v p q 0 ⟨#[]⟩ 0 false 0 0 0), .int .i64 0]) ∧ Below w.heap.size w w' := by
  unfold ordC
  have q0 : ((l0.length : Int) == 0) = false := by rw [beq_eq_false_iff_ne]; intro h; exact hl (List.length_eq_zero_iff.1 (by omega))
  have HC := Lib.hid (fun W (hb : Below w.heap.size w W) => verb_is A0 c0 l0 W ⟨tab_below hT.out hb⟩ (Kd.C_below hr0 hb) hc0 hm0)
  rw [hvv, hrr] at HC
  have hv1 : (v == 0) = false := by rw [beq_eq_false_iff_ne]; exact hv0
  have HM := Lib.hid (fun W => order_most.calls v lo hi W hmost)
  have HN := Lib.hid (fun W => order_noProxy.calls v false W hnp)
  have hq1 : (v == 1) = false := by rw [beq_eq_false_iff_ne]; exact hv1'
  have hq6 : (v == 6) = true := by rw [beq_iff_eq]; exact hv6
  have HRL := Lib.hid (show r.length = 2 by rw [hrp]; rfl)
  have HRP := Lib.hid hrp
  clear hnp hv1' hv6 hrp hl hr0 hc0 hm0 hv0 hvv hrr hmost
  have HB0 := Lib.hid (below_alloc (Below.refl w.heap.size w) (.cells #[.int .i64 0, .string ⟨#[]⟩, .string ⟨#[]⟩, .int .i64 0, .string ⟨#[]⟩, .int .i64 0, .bool false, .int .i64 0, .int .i64 0, .int .i64 0] 27))
  have HBK := Lib.hid (alloc_blk w #[.int .i64 0, .string ⟨#[]⟩, .string ⟨#[]⟩, .int .i64 0, .string ⟨#[]⟩, .int .i64 0, .bool false, .int .i64 0, .int .i64 0, .int .i64 0] 27)
  go_enter Tryz.func9, Tryz.ntmps9
  go_wp2_with (first | (go_at_call 22; refine (HC.out _ HB0.out).mono ?_; rintro e w1 ⟨⟨A, c, rfl, hr, hc⟩, hb⟩; have HB1 := Lib.hid (below_step HB0.out hb); have HBK1 := Lib.hid (blk_below HBK.out hb); obtain ⟨ad, ha, hx⟩ := Kd.at_string hr 0 (by omega) (by rw [HRL.out]; omega); cases ha; obtain ⟨A', hcut, hcr, hcl⟩ := cut_from (A := some ad) (n := 1) (l := r) (by rw [HRL.out]; omega) hc; have hcut1 : ∀ W : World, (Instr.slice 22 (.slice (some ad) r.length c) (some (.int .i64 1)) none none).run Tryz.prog W = .ok (.slice A' (r.drop 1).length (c - 1)) W := hcut; have HCR := Lib.hid (hcr _ hr); have HCL := Lib.hid hcl; clear hcr hcl; have hnr : (r.drop 1).length = 1 := (by rw [List.length_drop, HRL.out]); rw [hnr] at hcut1; have HNR := Lib.hid hnr; clear hnr hcut; have hx1 : w1.cell? ad = some (.string p) := (by have h9 := hx; rw [show ad.add (0 : Int).toNat = ad by simp [Addr.add]] at h9; rw [h9, show rdOf ByteArray.empty r 0 = p by rw [HRP.out]; rfl]); have q7 : (0 : Int) < (r.length : Int) := (by rw [HRL.out]; omega); clear hx hr hc hb; have z0 : w1.cell? ⟨w.heap.size, 0, none⟩ = some (.int .i64 0) := (blk_cell HBK1.out 0).trans rfl; have f0 := blk_frozen HBK1.out 0; have z1 : w1.cell? ⟨w.heap.size, 1, none⟩ = some (.string ⟨#[]⟩) := (blk_cell HBK1.out 1).trans rfl; have f1 := blk_frozen HBK1.out 1; have z2 : w1.cell? ⟨w.heap.size, 2, none⟩ = some (.string ⟨#[]⟩) := (blk_cell HBK1.out 2).trans rfl; have f2 := blk_frozen HBK1.out 2; have z3 : w1.cell? ⟨w.heap.size, 3, none⟩ = some (.int .i64 0) := (blk_cell HBK1.out 3).trans rfl; have f3 := blk_frozen HBK1.out 3; have z4 : w1.cell? ⟨w.heap.size, 4, none⟩ = some (.string ⟨#[]⟩) := (blk_cell HBK1.out 4).trans rfl; have f4 := blk_frozen HBK1.out 4; have z5 : w1.cell? ⟨w.heap.size, 5, none⟩ = some (.int .i64 0) := (blk_cell HBK1.out 5).trans rfl; have f5 := blk_frozen HBK1.out 5; have z6 : w1.cell? ⟨w.heap.size, 6, none⟩ = some (.bool false) := (blk_cell HBK1.out 6).trans rfl; have f6 := blk_frozen HBK1.out 6; have z7 : w1.cell? ⟨w.heap.size, 7, none⟩ = some (.int .i64 0) := (blk_cell HBK1.out 7).trans rfl; have f7 := blk_frozen HBK1.out 7; have z8 : w1.cell? ⟨w.heap.size, 8, none⟩ = some (.int .i64 0) := (blk_cell HBK1.out 8).trans rfl; have f8 := blk_frozen HBK1.out 8; have z9 : w1.cell? ⟨w.heap.size, 9, none⟩ = some (.int .i64 0) := (blk_cell HBK1.out 9).trans rfl; have f9 := blk_frozen HBK1.out 9) | (go_at_call 23; refine (HM.out _).mono ?_; rintro e w' ⟨rfl, ⟨nd, rfl⟩⟩) | (go_at_call 24; refine (HN.out _).mono ?_; rintro e w' ⟨rfl, ⟨ne, rfl⟩⟩) | (go_at_call 27; have hbx := alloc_blk (w1.drewN (nd + ne)) (ordC v p ⟨#[]⟩ 0 ⟨#[]⟩ 0 false 0 0 0) 27; have hc4 : Kd.C Kd.string ((w1.drewN (nd + ne)).alloc (.cells (ordC v p ⟨#[]⟩ 0 ⟨#[]⟩ 0 false 0 0 0) 27)) A' (r.drop 1).length (r.drop 1) := Kd.C_alloc (Kd.C_drewN HCR.out _) _; have hq : (r.drop 1).length = 1 := HNR.out; have hd : r.drop 1 = [q] := (by rw [HRP.out]; rfl); rw [hd] at hc4; have hcl4 : [q].length ≤ c - 1 := (by have := HCL.out; rw [hd] at this; exact this); refine (name_is w1.heap.size v p A' (c - 1) [q] (by simp) _ hbx hc4 hcl4).mono ?_; rintro e w5 ⟨rfl, hw⟩; have hgl : w.heap.size < w1.heap.size := blk_lt HBK1.out; have hb5 : w5.heap[w1.heap.size]? = some (.cells #[.int .i64 v, .string p, .string q, .int .i64 0, .string ⟨#[]⟩, .int .i64 0, .bool false, .int .i64 0, .int .i64 0, .int .i64 0] 27 (0, 0)) := (by rw [hw]; exact blk_put (cs := ordC v p ⟨#[]⟩ 0 ⟨#[]⟩ 0 false 0 0 0) hbx 2 _ rfl); have hr5 : w5.heap[w.heap.size]? = some (.cells #[.int .i64 0, .string ⟨#[]⟩, .string ⟨#[]⟩, .int .i64 0, .string ⟨#[]⟩, .int .i64 0, .bool false, .int .i64 0, .int .i64 0, .int .i64 0] 27 (0, 0)) := (by rw [hw]; exact blk_far (blk_alloc (o := .cells _ _) HBK1.out _) (Nat.ne_of_lt hgl) _); have HR5 := Lib.hid hr5; have HB5 := Lib.hid (show Below w.heap.size w w5 by rw [hw]; refine below_set ?_ (Nat.le_of_lt hgl); repeat (first | exact HB1.out | apply pw_below_drewN | apply below_alloc)); clear hw hbx hc4 hq hd hcl4 hgl; have y0 : w5.cell? ⟨w1.heap.size, 0, none⟩ = some (.int .i64 v) := (blk_cell hb5 0).trans rfl; have u0_ : w5.cell? ⟨w.heap.size, 0, none⟩ = some (.int .i64 0) := (blk_cell hr5 0).trans rfl; have g0_ := blk_frozen hr5 0; have y1 : w5.cell? ⟨w1.heap.size, 1, none⟩ = some (.string p) := (blk_cell hb5 1).trans rfl; have u1_ : w5.cell? ⟨w.heap.size, 1, none⟩ = some (.string ⟨#[]⟩) := (blk_cell hr5 1).trans rfl; have g1_ := blk_frozen hr5 1; have y2 : w5.cell? ⟨w1.heap.size, 2, none⟩ = some (.string q) := (blk_cell hb5 2).trans rfl; have u2_ : w5.cell? ⟨w.heap.size, 2, none⟩ = some (.string ⟨#[]⟩) := (blk_cell hr5 2).trans rfl; have g2_ := blk_frozen hr5 2; have y3 : w5.cell? ⟨w1.heap.size, 3, none⟩ = some (.int .i64 0) := (blk_cell hb5 3).trans rfl; have u3_ : w5.cell? ⟨w.heap.size, 3, none⟩ = some (.int .i64 0) := (blk_cell hr5 3).trans rfl; have g3_ := blk_frozen hr5 3; have y4 : w5.cell? ⟨w1.heap.size, 4, none⟩ = some (.string ⟨#[]⟩) := (blk_cell hb5 4).trans rfl; have u4_ : w5.cell? ⟨w.heap.size, 4, none⟩ = some (.string ⟨#[]⟩) := (blk_cell hr5 4).trans rfl; have g4_ := blk_frozen hr5 4; have y5 : w5.cell? ⟨w1.heap.size, 5, none⟩ = some (.int .i64 0) := (blk_cell hb5 5).trans rfl; have u5_ : w5.cell? ⟨w.heap.size, 5, none⟩ = some (.int .i64 0) := (blk_cell hr5 5).trans rfl; have g5_ := blk_frozen hr5 5; have y6 : w5.cell? ⟨w1.heap.size, 6, none⟩ = some (.bool false) := (blk_cell hb5 6).trans rfl; have u6_ : w5.cell? ⟨w.heap.size, 6, none⟩ = some (.bool false) := (blk_cell hr5 6).trans rfl; have g6_ := blk_frozen hr5 6; have y7 : w5.cell? ⟨w1.heap.size, 7, none⟩ = some (.int .i64 0) := (blk_cell hb5 7).trans rfl; have u7_ : w5.cell? ⟨w.heap.size, 7, none⟩ = some (.int .i64 0) := (blk_cell hr5 7).trans rfl; have g7_ := blk_frozen hr5 7; have y8 : w5.cell? ⟨w1.heap.size, 8, none⟩ = some (.int .i64 0) := (blk_cell hb5 8).trans rfl; have u8_ : w5.cell? ⟨w.heap.size, 8, none⟩ = some (.int .i64 0) := (blk_cell hr5 8).trans rfl; have g8_ := blk_frozen hr5 8; have y9 : w5.cell? ⟨w1.heap.size, 9, none⟩ = some (.int .i64 0) := (blk_cell hb5 9).trans rfl; have u9_ : w5.cell? ⟨w.heap.size, 9, none⟩ = some (.int .i64 0) := (blk_cell hr5 9).trans rfl; have g9_ := blk_frozen hr5 9; clear hb5 hr5))
  refine bodyPost_ret (results_ct rfl _ _ w.heap.size 27 _ (0, 0) _ rfl (ord_put w5 w.heap.size 0 ⟨#[]⟩ ⟨#[]⟩ 0 ⟨#[]⟩ 0 false 0 0 0 v p q 0 ⟨#[]⟩ 0 false 0 0 0 _ HR5.out) Tryz.underlying27 rfl (by kernel_rfl)) rfl ?_
  exact ⟨rfl, ord_below w w5 w.heap.size v p q 0 ⟨#[]⟩ 0 false 0 0 0 HB5.out (Nat.le_refl _)⟩
set_option maxRecDepth 100000 in
theorem from_number (A0 : Option Addr) (c0 : Nat) (l0 : List ByteArray) (hl : l0 ≠ []) (w : World) (hT : Aside0 (Tab w)) (hr0 : Kd.C Kd.string w A0 l0.length l0) (hc0 : l0.length ≤ c0) (hm0 : l0.length ≤ 4611686018427387904)
    (v : Int) (r : List ByteArray) (hvv : (verbOf l0).1 = v) (hrr : (verbOf l0).2 = r) (hv0 : v ≠ 0) (lo hi : Int) (hmost : order_most.f v = some (lo, hi)) (hb1 : ¬ (r.length : Int) < lo) (hb2 : ¬ hi < (r.length : Int)) (hnp : order_noProxy.f v = some false) (hv1' : v = 1) (p q : ByteArray) (n : Int) (htp : tickParse q = (n, 0)) (hrp : r = [p, q]) :
    Calls Tryz.prog 9 #[.slice A0 l0.length c0] w fun e w' => e = .returned (.tuple #[.agg (ordC v p ⟨#[]⟩ n ⟨#[]⟩ 0 false 0 0 0), .int .i64 0]) ∧ Below w.heap.size w w' := by
  unfold ordC
  have q0 : ((l0.length : Int) == 0) = false := by rw [beq_eq_false_iff_ne]; intro h; exact hl (List.length_eq_zero_iff.1 (by omega))
  have HC := Lib.hid (fun W (hb : Below w.heap.size w W) => verb_is A0 c0 l0 W ⟨tab_below hT.out hb⟩ (Kd.C_below hr0 hb) hc0 hm0)
  rw [hvv, hrr] at HC
  have hv1 : (v == 0) = false := by rw [beq_eq_false_iff_ne]; exact hv0
  have HM := Lib.hid (fun W => order_most.calls v lo hi W hmost)
  have HN := Lib.hid (fun W => order_noProxy.calls v false W hnp)
  have hq1 : (v == 1) = true := by rw [beq_iff_eq]; exact hv1'
  have HTP := Lib.hid htp
  have HRL := Lib.hid (show r.length = 2 by rw [hrp]; rfl)
  have HRP := Lib.hid hrp
  clear hnp hv1' htp hrp hl hr0 hc0 hm0 hv0 hvv hrr hmost
  have HB0 := Lib.hid (below_alloc (Below.refl w.heap.size w) (.cells #[.int .i64 0, .string ⟨#[]⟩, .string ⟨#[]⟩, .int .i64 0, .string ⟨#[]⟩, .int .i64 0, .bool false, .int .i64 0, .int .i64 0, .int .i64 0] 27))
  have HBK := Lib.hid (alloc_blk w #[.int .i64 0, .string ⟨#[]⟩, .string ⟨#[]⟩, .int .i64 0, .string ⟨#[]⟩, .int .i64 0, .bool false, .int .i64 0, .int .i64 0, .int .i64 0] 27)
  go_enter Tryz.func9, Tryz.ntmps9
  go_wp2_with (first | (go_at_call 22; refine (HC.out _ HB0.out).mono ?_; rintro e w1 ⟨⟨A, c, rfl, hr, hc⟩, hb⟩; have HB1 := Lib.hid (below_step HB0.out hb); have HBK1 := Lib.hid (blk_below HBK.out hb); obtain ⟨ad, ha, hx⟩ := Kd.at_string hr 0 (by omega) (by rw [HRL.out]; omega); cases ha; obtain ⟨A', hcut, hcr, hcl⟩ := cut_from (A := some ad) (n := 1) (l := r) (by rw [HRL.out]; omega) hc; have hcut1 : ∀ W : World, (Instr.slice 22 (.slice (some ad) r.length c) (some (.int .i64 1)) none none).run Tryz.prog W = .ok (.slice A' (r.drop 1).length (c - 1)) W := hcut; have HCR := Lib.hid (hcr _ hr); have HCL := Lib.hid hcl; clear hcr hcl; have hnr : (r.drop 1).length = 1 := (by rw [List.length_drop, HRL.out]); rw [hnr] at hcut1; have HNR := Lib.hid hnr; clear hnr hcut; have hx1 : w1.cell? ad = some (.string p) := (by have h9 := hx; rw [show ad.add (0 : Int).toNat = ad by simp [Addr.add]] at h9; rw [h9, show rdOf ByteArray.empty r 0 = p by rw [HRP.out]; rfl]); have q7 : (0 : Int) < (r.length : Int) := (by rw [HRL.out]; omega); clear hx hr hc hb; have z0 : w1.cell? ⟨w.heap.size, 0, none⟩ = some (.int .i64 0) := (blk_cell HBK1.out 0).trans rfl; have f0 := blk_frozen HBK1.out 0; have z1 : w1.cell? ⟨w.heap.size, 1, none⟩ = some (.string ⟨#[]⟩) := (blk_cell HBK1.out 1).trans rfl; have f1 := blk_frozen HBK1.out 1; have z2 : w1.cell? ⟨w.heap.size, 2, none⟩ = some (.string ⟨#[]⟩) := (blk_cell HBK1.out 2).trans rfl; have f2 := blk_frozen HBK1.out 2; have z3 : w1.cell? ⟨w.heap.size, 3, none⟩ = some (.int .i64 0) := (blk_cell HBK1.out 3).trans rfl; have f3 := blk_frozen HBK1.out 3; have z4 : w1.cell? ⟨w.heap.size, 4, none⟩ = some (.string ⟨#[]⟩) := (blk_cell HBK1.out 4).trans rfl; have f4 := blk_frozen HBK1.out 4; have z5 : w1.cell? ⟨w.heap.size, 5, none⟩ = some (.int .i64 0) := (blk_cell HBK1.out 5).trans rfl; have f5 := blk_frozen HBK1.out 5; have z6 : w1.cell? ⟨w.heap.size, 6, none⟩ = some (.bool false) := (blk_cell HBK1.out 6).trans rfl; have f6 := blk_frozen HBK1.out 6; have z7 : w1.cell? ⟨w.heap.size, 7, none⟩ = some (.int .i64 0) := (blk_cell HBK1.out 7).trans rfl; have f7 := blk_frozen HBK1.out 7; have z8 : w1.cell? ⟨w.heap.size, 8, none⟩ = some (.int .i64 0) := (blk_cell HBK1.out 8).trans rfl; have f8 := blk_frozen HBK1.out 8; have z9 : w1.cell? ⟨w.heap.size, 9, none⟩ = some (.int .i64 0) := (blk_cell HBK1.out 9).trans rfl; have f9 := blk_frozen HBK1.out 9) | (go_at_call 23; refine (HM.out _).mono ?_; rintro e w' ⟨rfl, ⟨nd, rfl⟩⟩) | (go_at_call 24; refine (HN.out _).mono ?_; rintro e w' ⟨rfl, ⟨ne, rfl⟩⟩) | (go_at_call 26; have hbx := alloc_blk (w1.drewN (nd + ne)) (ordC v p ⟨#[]⟩ 0 ⟨#[]⟩ 0 false 0 0 0) 27; have hc4 : Kd.C Kd.string ((w1.drewN (nd + ne)).alloc (.cells (ordC v p ⟨#[]⟩ 0 ⟨#[]⟩ 0 false 0 0 0) 27)) A' (r.drop 1).length (r.drop 1) := Kd.C_alloc (Kd.C_drewN HCR.out _) _; have hq : (r.drop 1).length = 1 := HNR.out; have hd : r.drop 1 = [q] := (by rw [HRP.out]; rfl); rw [hd] at hc4; have hcl4 : [q].length ≤ c - 1 := (by have := HCL.out; rw [hd] at this; exact this); refine (number_is w1.heap.size v p A' (c - 1) [q] (by simp) _ hbx hc4 hcl4 n 0 HTP.out).mono ?_; rintro e w5 ⟨W1, hb6, h6⟩; obtain ⟨-, rfl, hw⟩ := h6.resolve_right (fun hh => hh.1 rfl); have hgl : w.heap.size < w1.heap.size := blk_lt HBK1.out; have hb5 : w5.heap[w1.heap.size]? = some (.cells #[.int .i64 v, .string p, .string ⟨#[]⟩, .int .i64 n, .string ⟨#[]⟩, .int .i64 0, .bool false, .int .i64 0, .int .i64 0, .int .i64 0] 27 (0, 0)) := (by rw [hw]; exact blk_put (cs := ordC v p ⟨#[]⟩ 0 ⟨#[]⟩ 0 false 0 0 0) (blk_below hbx hb6) 3 _ rfl); have hr5 : w5.heap[w.heap.size]? = some (.cells #[.int .i64 0, .string ⟨#[]⟩, .string ⟨#[]⟩, .int .i64 0, .string ⟨#[]⟩, .int .i64 0, .bool false, .int .i64 0, .int .i64 0, .int .i64 0] 27 (0, 0)) := (by rw [hw]; exact blk_far (blk_below (blk_alloc (w := w1.drewN (nd + ne)) (o := .cells _ _) HBK1.out _) hb6) (Nat.ne_of_lt hgl) _); have HR5 := Lib.hid hr5; have HB5 := Lib.hid (show Below w.heap.size w w5 by rw [hw]; refine below_set ?_ (Nat.le_of_lt hgl); refine below_step ?_ hb6; repeat (first | exact HB1.out | apply pw_below_drewN | apply below_alloc)); clear hw hb6 h6 hbx hc4 hq hd hcl4 hgl; have y0 : w5.cell? ⟨w1.heap.size, 0, none⟩ = some (.int .i64 v) := (blk_cell hb5 0).trans rfl; have u0_ : w5.cell? ⟨w.heap.size, 0, none⟩ = some (.int .i64 0) := (blk_cell hr5 0).trans rfl; have g0_ := blk_frozen hr5 0; have y1 : w5.cell? ⟨w1.heap.size, 1, none⟩ = some (.string p) := (blk_cell hb5 1).trans rfl; have u1_ : w5.cell? ⟨w.heap.size, 1, none⟩ = some (.string ⟨#[]⟩) := (blk_cell hr5 1).trans rfl; have g1_ := blk_frozen hr5 1; have y2 : w5.cell? ⟨w1.heap.size, 2, none⟩ = some (.string ⟨#[]⟩) := (blk_cell hb5 2).trans rfl; have u2_ : w5.cell? ⟨w.heap.size, 2, none⟩ = some (.string ⟨#[]⟩) := (blk_cell hr5 2).trans rfl; have g2_ := blk_frozen hr5 2; have y3 : w5.cell? ⟨w1.heap.size, 3, none⟩ = some (.int .i64 n) := (blk_cell hb5 3).trans rfl; have u3_ : w5.cell? ⟨w.heap.size, 3, none⟩ = some (.int .i64 0) := (blk_cell hr5 3).trans rfl; have g3_ := blk_frozen hr5 3; have y4 : w5.cell? ⟨w1.heap.size, 4, none⟩ = some (.string ⟨#[]⟩) := (blk_cell hb5 4).trans rfl; have u4_ : w5.cell? ⟨w.heap.size, 4, none⟩ = some (.string ⟨#[]⟩) := (blk_cell hr5 4).trans rfl; have g4_ := blk_frozen hr5 4; have y5 : w5.cell? ⟨w1.heap.size, 5, none⟩ = some (.int .i64 0) := (blk_cell hb5 5).trans rfl; have u5_ : w5.cell? ⟨w.heap.size, 5, none⟩ = some (.int .i64 0) := (blk_cell hr5 5).trans rfl; have g5_ := blk_frozen hr5 5; have y6 : w5.cell? ⟨w1.heap.size, 6, none⟩ = some (.bool false) := (blk_cell hb5 6).trans rfl; have u6_ : w5.cell? ⟨w.heap.size, 6, none⟩ = some (.bool false) := (blk_cell hr5 6).trans rfl; have g6_ := blk_frozen hr5 6; have y7 : w5.cell? ⟨w1.heap.size, 7, none⟩ = some (.int .i64 0) := (blk_cell hb5 7).trans rfl; have u7_ : w5.cell? ⟨w.heap.size, 7, none⟩ = some (.int .i64 0) := (blk_cell hr5 7).trans rfl; have g7_ := blk_frozen hr5 7; have y8 : w5.cell? ⟨w1.heap.size, 8, none⟩ = some (.int .i64 0) := (blk_cell hb5 8).trans rfl; have u8_ : w5.cell? ⟨w.heap.size, 8, none⟩ = some (.int .i64 0) := (blk_cell hr5 8).trans rfl; have g8_ := blk_frozen hr5 8; have y9 : w5.cell? ⟨w1.heap.size, 9, none⟩ = some (.int .i64 0) := (blk_cell hb5 9).trans rfl; have u9_ : w5.cell? ⟨w.heap.size, 9, none⟩ = some (.int .i64 0) := (blk_cell hr5 9).trans rfl; have g9_ := blk_frozen hr5 9; clear hb5 hr5))
  refine bodyPost_ret (results_ct rfl _ _ w.heap.size 27 _ (0, 0) _ rfl (ord_put w5 w.heap.size 0 ⟨#[]⟩ ⟨#[]⟩ 0 ⟨#[]⟩ 0 false 0 0 0 v p ⟨#[]⟩ n ⟨#[]⟩ 0 false 0 0 0 _ HR5.out) Tryz.underlying27 rfl (by kernel_rfl)) rfl ?_
  exact ⟨rfl, ord_below w w5 w.heap.size v p ⟨#[]⟩ n ⟨#[]⟩ 0 false 0 0 0 HB5.out (Nat.le_refl _)⟩
set_option maxRecDepth 100000 in
theorem from_numbad (A0 : Option Addr) (c0 : Nat) (l0 : List ByteArray) (hl : l0 ≠ []) (w : World) (hT : Aside0 (Tab w)) (hr0 : Kd.C Kd.string w A0 l0.length l0) (hc0 : l0.length ≤ c0) (hm0 : l0.length ≤ 4611686018427387904)
    (v : Int) (r : List ByteArray) (hvv : (verbOf l0).1 = v) (hrr : (verbOf l0).2 = r) (hv0 : v ≠ 0) (lo hi : Int) (hmost : order_most.f v = some (lo, hi)) (hb1 : ¬ (r.length : Int) < lo) (hb2 : ¬ hi < (r.length : Int)) (hnp : order_noProxy.f v = some false) (hv1' : v = 1) (p q : ByteArray) (n er : Int) (htp : tickParse q = (n, er)) (her : er ≠ 0) (hrp : r = [p, q]) :
    Calls Tryz.prog 9 #[.slice A0 l0.length c0] w fun e w' => e = .returned (.tuple #[.agg (ordC 0 ⟨#[]⟩ ⟨#[]⟩ 0 ⟨#[]⟩ 0 false 0 0 0), .int .i64 162]) ∧ Below w.heap.size w w' := by
  unfold ordC
  have q0 : ((l0.length : Int) == 0) = false := by rw [beq_eq_false_iff_ne]; intro h; exact hl (List.length_eq_zero_iff.1 (by omega))
  have HC := Lib.hid (fun W (hb : Below w.heap.size w W) => verb_is A0 c0 l0 W ⟨tab_below hT.out hb⟩ (Kd.C_below hr0 hb) hc0 hm0)
  rw [hvv, hrr] at HC
  have hv1 : (v == 0) = false := by rw [beq_eq_false_iff_ne]; exact hv0
  have HM := Lib.hid (fun W => order_most.calls v lo hi W hmost)
  have HN := Lib.hid (fun W => order_noProxy.calls v false W hnp)
  have hq1 : (v == 1) = true := by rw [beq_iff_eq]; exact hv1'
  have HTP := Lib.hid htp
  have HER := Lib.hid her
  have HRL := Lib.hid (show r.length = 2 by rw [hrp]; rfl)
  have HRP := Lib.hid hrp
  clear hnp hv1' htp her hrp hl hr0 hc0 hm0 hv0 hvv hrr hmost
  have HB0 := Lib.hid (below_alloc (Below.refl w.heap.size w) (.cells #[.int .i64 0, .string ⟨#[]⟩, .string ⟨#[]⟩, .int .i64 0, .string ⟨#[]⟩, .int .i64 0, .bool false, .int .i64 0, .int .i64 0, .int .i64 0] 27))
  have HBK := Lib.hid (alloc_blk w #[.int .i64 0, .string ⟨#[]⟩, .string ⟨#[]⟩, .int .i64 0, .string ⟨#[]⟩, .int .i64 0, .bool false, .int .i64 0, .int .i64 0, .int .i64 0] 27)
  go_enter Tryz.func9, Tryz.ntmps9
  go_wp2_with (first | (go_at_call 22; refine (HC.out _ HB0.out).mono ?_; rintro e w1 ⟨⟨A, c, rfl, hr, hc⟩, hb⟩; have HB1 := Lib.hid (below_step HB0.out hb); have HBK1 := Lib.hid (blk_below HBK.out hb); obtain ⟨ad, ha, hx⟩ := Kd.at_string hr 0 (by omega) (by rw [HRL.out]; omega); cases ha; obtain ⟨A', hcut, hcr, hcl⟩ := cut_from (A := some ad) (n := 1) (l := r) (by rw [HRL.out]; omega) hc; have hcut1 : ∀ W : World, (Instr.slice 22 (.slice (some ad) r.length c) (some (.int .i64 1)) none none).run Tryz.prog W = .ok (.slice A' (r.drop 1).length (c - 1)) W := hcut; have HCR := Lib.hid (hcr _ hr); have HCL := Lib.hid hcl; clear hcr hcl; have hnr : (r.drop 1).length = 1 := (by rw [List.length_drop, HRL.out]); rw [hnr] at hcut1; have HNR := Lib.hid hnr; clear hnr hcut; have hx1 : w1.cell? ad = some (.string p) := (by have h9 := hx; rw [show ad.add (0 : Int).toNat = ad by simp [Addr.add]] at h9; rw [h9, show rdOf ByteArray.empty r 0 = p by rw [HRP.out]; rfl]); have q7 : (0 : Int) < (r.length : Int) := (by rw [HRL.out]; omega); clear hx hr hc hb; have z0 : w1.cell? ⟨w.heap.size, 0, none⟩ = some (.int .i64 0) := (blk_cell HBK1.out 0).trans rfl; have f0 := blk_frozen HBK1.out 0; have z1 : w1.cell? ⟨w.heap.size, 1, none⟩ = some (.string ⟨#[]⟩) := (blk_cell HBK1.out 1).trans rfl; have f1 := blk_frozen HBK1.out 1; have z2 : w1.cell? ⟨w.heap.size, 2, none⟩ = some (.string ⟨#[]⟩) := (blk_cell HBK1.out 2).trans rfl; have f2 := blk_frozen HBK1.out 2; have z3 : w1.cell? ⟨w.heap.size, 3, none⟩ = some (.int .i64 0) := (blk_cell HBK1.out 3).trans rfl; have f3 := blk_frozen HBK1.out 3; have z4 : w1.cell? ⟨w.heap.size, 4, none⟩ = some (.string ⟨#[]⟩) := (blk_cell HBK1.out 4).trans rfl; have f4 := blk_frozen HBK1.out 4; have z5 : w1.cell? ⟨w.heap.size, 5, none⟩ = some (.int .i64 0) := (blk_cell HBK1.out 5).trans rfl; have f5 := blk_frozen HBK1.out 5; have z6 : w1.cell? ⟨w.heap.size, 6, none⟩ = some (.bool false) := (blk_cell HBK1.out 6).trans rfl; have f6 := blk_frozen HBK1.out 6; have z7 : w1.cell? ⟨w.heap.size, 7, none⟩ = some (.int .i64 0) := (blk_cell HBK1.out 7).trans rfl; have f7 := blk_frozen HBK1.out 7; have z8 : w1.cell? ⟨w.heap.size, 8, none⟩ = some (.int .i64 0) := (blk_cell HBK1.out 8).trans rfl; have f8 := blk_frozen HBK1.out 8; have z9 : w1.cell? ⟨w.heap.size, 9, none⟩ = some (.int .i64 0) := (blk_cell HBK1.out 9).trans rfl; have f9 := blk_frozen HBK1.out 9) | (go_at_call 23; refine (HM.out _).mono ?_; rintro e w' ⟨rfl, ⟨nd, rfl⟩⟩) | (go_at_call 24; refine (HN.out _).mono ?_; rintro e w' ⟨rfl, ⟨ne, rfl⟩⟩) | (go_at_call 26; have hbx := alloc_blk (w1.drewN (nd + ne)) (ordC v p ⟨#[]⟩ 0 ⟨#[]⟩ 0 false 0 0 0) 27; have hc4 : Kd.C Kd.string ((w1.drewN (nd + ne)).alloc (.cells (ordC v p ⟨#[]⟩ 0 ⟨#[]⟩ 0 false 0 0 0) 27)) A' (r.drop 1).length (r.drop 1) := Kd.C_alloc (Kd.C_drewN HCR.out _) _; have hq : (r.drop 1).length = 1 := HNR.out; have hd : r.drop 1 = [q] := (by rw [HRP.out]; rfl); rw [hd] at hc4; have hcl4 : [q].length ≤ c - 1 := (by have := HCL.out; rw [hd] at this; exact this); refine (number_is w1.heap.size v p A' (c - 1) [q] (by simp) _ hbx hc4 hcl4 n er HTP.out).mono ?_; rintro e w5 ⟨W1, hb6, h6⟩; obtain ⟨-, rfl, hw⟩ := h6.resolve_left (fun hh => HER.out hh.1); have hgl : w.heap.size < w1.heap.size := blk_lt HBK1.out; have hr5 : w5.heap[w.heap.size]? = some (.cells #[.int .i64 0, .string ⟨#[]⟩, .string ⟨#[]⟩, .int .i64 0, .string ⟨#[]⟩, .int .i64 0, .bool false, .int .i64 0, .int .i64 0, .int .i64 0] 27 (0, 0)) := (by rw [hw]; exact blk_below (blk_alloc (w := w1.drewN (nd + ne)) (o := .cells _ _) HBK1.out _) hb6); have HR5 := Lib.hid hr5; have HB5 := Lib.hid (show Below w.heap.size w w5 by rw [hw]; refine below_step ?_ hb6; repeat (first | exact HB1.out | apply pw_below_drewN | apply below_alloc)); clear hw hb6 h6 hbx hc4 hq hd hcl4 hgl; have u0_ : w5.cell? ⟨w.heap.size, 0, none⟩ = some (.int .i64 0) := (blk_cell hr5 0).trans rfl; have g0_ := blk_frozen hr5 0; have u1_ : w5.cell? ⟨w.heap.size, 1, none⟩ = some (.string ⟨#[]⟩) := (blk_cell hr5 1).trans rfl; have g1_ := blk_frozen hr5 1; have u2_ : w5.cell? ⟨w.heap.size, 2, none⟩ = some (.string ⟨#[]⟩) := (blk_cell hr5 2).trans rfl; have g2_ := blk_frozen hr5 2; have u3_ : w5.cell? ⟨w.heap.size, 3, none⟩ = some (.int .i64 0) := (blk_cell hr5 3).trans rfl; have g3_ := blk_frozen hr5 3; have u4_ : w5.cell? ⟨w.heap.size, 4, none⟩ = some (.string ⟨#[]⟩) := (blk_cell hr5 4).trans rfl; have g4_ := blk_frozen hr5 4; have u5_ : w5.cell? ⟨w.heap.size, 5, none⟩ = some (.int .i64 0) := (blk_cell hr5 5).trans rfl; have g5_ := blk_frozen hr5 5; have u6_ : w5.cell? ⟨w.heap.size, 6, none⟩ = some (.bool false) := (blk_cell hr5 6).trans rfl; have g6_ := blk_frozen hr5 6; have u7_ : w5.cell? ⟨w.heap.size, 7, none⟩ = some (.int .i64 0) := (blk_cell hr5 7).trans rfl; have g7_ := blk_frozen hr5 7; have u8_ : w5.cell? ⟨w.heap.size, 8, none⟩ = some (.int .i64 0) := (blk_cell hr5 8).trans rfl; have g8_ := blk_frozen hr5 8; have u9_ : w5.cell? ⟨w.heap.size, 9, none⟩ = some (.int .i64 0) := (blk_cell hr5 9).trans rfl; have g9_ := blk_frozen hr5 9; clear hr5))
  refine bodyPost_ret (results_ct rfl _ _ w.heap.size 27 _ (0, 0) _ rfl (ord_put w5 w.heap.size 0 ⟨#[]⟩ ⟨#[]⟩ 0 ⟨#[]⟩ 0 false 0 0 0 0 ⟨#[]⟩ ⟨#[]⟩ 0 ⟨#[]⟩ 0 false 0 0 0 _ HR5.out) Tryz.underlying27 rfl (by kernel_rfl)) rfl ?_
  exact ⟨rfl, ord_below w w5 w.heap.size 0 ⟨#[]⟩ ⟨#[]⟩ 0 ⟨#[]⟩ 0 false 0 0 0 HB5.out (Nat.le_refl _)⟩
end Go.Proofs.YtlglbpjccpdloaaGreatDoor.Ext
namespace Go.Proofs.YtlglbpjccpdloaaGreatDoor.PToxR
open Go.Proofs.YtlglbpjccpdloaaGreatDoor.Ext Go.RowKit Go.Proofs.YtlglbpjccpdloaaGreatDoorW.PrintWords Go.Proofs.YtlglbpjccpdloaaGreatDoorW.PrintLast Go.Proofs.YtlglbpjccpdloaaGreatDoorW.PrintMore
attribute [local go_sem] max2_int min2_int max_two min_two max_three min_three max_four min_four   -- for this text's walks alone
set_option linter.unusedVariables false
set_option linter.unusedSimpArgs false
def errW : Option Int → Value
 | none => .nilIface
 | some c => .iface 0 (.int .i64 c)
theorem errW_none : errW none = .nilIface := rfl
theorem errW_some (c : Int) : errW (some c) = .iface 0 (.int .i64 c) := rfl
end Go.Proofs.YtlglbpjccpdloaaGreatDoor.PToxR
namespace Go.Proofs.YtlglbpjccpdloaaGreatDoor.PToxR
open Go.Proofs.YtlglbpjccpdloaaGreatDoor.Ext Go.RowKit Go.Proofs.YtlglbpjccpdloaaGreatDoorW.PrintWords Go.Proofs.YtlglbpjccpdloaaGreatDoorW.PrintLast Go.Proofs.YtlglbpjccpdloaaGreatDoorW.PrintMore
attribute [local go_sem] max2_int min2_int max_two min_two max_three min_three max_four min_four   -- for this text's walks alone
set_option linter.unusedVariables false
set_option linter.unusedSimpArgs false
def chicaneref09_Name.l0 : Nat → ByteArray → Int → Option (Bool)
 | 0, _, _ => none
 | k + 1, x0, x3 => if x3 < (x0.size : Int) then (if 0 ≤ x3 then (if (bt x0 x3) ≥ 97 then (if (bt x0 x3) ≥ 48 then (if ((bt x0 x3) ≤ 122) then (chicaneref09_Name.l0 k x0 (wrap64 (x3 + 1))) else (if ((bt x0 x3) ≤ 57) then (chicaneref09_Name.l0 k x0 (wrap64 (x3 + 1))) else (if (bt x0 x3) = 95 then (chicaneref09_Name.l0 k x0 (wrap64 (x3 + 1))) else (if (bt x0 x3) = 45 then (chicaneref09_Name.l0 k x0 (wrap64 (x3 + 1))) else (some false))))) else (if ((bt x0 x3) ≤ 122) then (chicaneref09_Name.l0 k x0 (wrap64 (x3 + 1))) else (if (bt x0 x3) = 95 then (chicaneref09_Name.l0 k x0 (wrap64 (x3 + 1))) else (if (bt x0 x3) = 45 then (chicaneref09_Name.l0 k x0 (wrap64 (x3 + 1))) else (some false))))) else (if (bt x0 x3) ≥ 48 then (if ((bt x0 x3) ≤ 57) then (chicaneref09_Name.l0 k x0 (wrap64 (x3 + 1))) else (if (bt x0 x3) = 95 then (chicaneref09_Name.l0 k x0 (wrap64 (x3 + 1))) else (if (bt x0 x3) = 45 then (chicaneref09_Name.l0 k x0 (wrap64 (x3 + 1))) else (some false)))) else (if (bt x0 x3) = 95 then (chicaneref09_Name.l0 k x0 (wrap64 (x3 + 1))) else (if (bt x0 x3) = 45 then (chicaneref09_Name.l0 k x0 (wrap64 (x3 + 1))) else (some false))))) else (none)) else (if (x0.size : Int) > 0 then (some (decide ((x0.size : Int) ≤ 16))) else (some false))
def chicaneref09_Name.f (k : Nat) (a0 : ByteArray) : Option (Bool) := chicaneref09_Name.l0 k a0 0
set_option maxHeartbeats 8000000 in
set_option maxRecDepth 100000 in
theorem chicaneref09_Name.calls (k : Nat) (a0 : ByteArray) (r : Bool) (w : World) (h : chicaneref09_Name.f k a0 = some r) :
  Calls Tryz.prog 87 #[.string a0] w fun e w' => e = .returned (.bool r) ∧ Drawn0 w w' := by
 have H : (chicaneref09_Name.l0 k a0 0) = some r := h
 clear h
 have H' := Aside0.mk H
 clear H
 go_enter Tryz.func87, Tryz.ntmps87
 go_wp2
 go_loopg [3] k (fun kq v3 w' => ∃ (x3_1 : Int), v3 = .int .i64 x3_1 ∧ Aside0 (chicaneref09_Name.l0 kq a0 x3_1 = some r) ∧ Aside0 (kq ≤ k) ∧ Drawn0 w w')
 case atStart => exact ⟨(0), (by first | rfl | (simp; done) | (simp [*]; done)), H', ⟨Nat.le_refl _⟩, by repeat (first | exact Drawn0.refl _ | apply Drawn0.step)⟩
 case round =>
  clear H'
  obtain ⟨x3_1, rfl, HA, HK1, ⟨m1, rfl⟩⟩ := hrel
  cases gk with
  | zero => exact absurd HA.out (by simp [chicaneref09_Name.l0])
  | succ k1 =>
   have H := HA.out
   clear HA
   simp only [chicaneref09_Name.l0] at H
   by_cases c2 : x3_1 < (a0.size : Int)
   ·rw [if_pos c2] at H
    have c2b0 : decide (x3_1 < (a0.size : Int)) = true := decide_eq_true c2
    clear c2
    by_cases c3 : 0 ≤ x3_1
    ·rw [if_pos c3] at H
     have c3b0 : decide (0 ≤ x3_1) = true := decide_eq_true c3
     clear c3
     by_cases c5 : (bt a0 x3_1) ≥ 97
     ·rw [if_pos c5] at H
      have c5b0 : decide (97 ≤ (bt a0 x3_1)) = true := decide_eq_true c5
      clear c5
      by_cases c6 : (bt a0 x3_1) ≥ 48
      ·rw [if_pos c6] at H
       have c6b0 : decide (48 ≤ (bt a0 x3_1)) = true := decide_eq_true c6
       clear c6
       by_cases c7 : ((bt a0 x3_1) ≤ 122)
       ·rw [if_pos c7] at H
        have c7b0 : decide ((bt a0 x3_1) ≤ 122) = true := decide_eq_true c7
        clear c7
        have H' := Aside0.mk H
        clear H
        have p4 : 0 ≤ (x3_1 : Int) := of_decide_eq_true (by first | (with_reducible assumption) | assumption)
        have q4 : x3_1 < (a0.size : Int) := of_decide_eq_true (by first | (with_reducible assumption) | assumption)
        have hx4 := bt_at a0 x3_1
        replace p4 := eq_true p4
        replace q4 := eq_true q4
        go_wp2
        go_roundg k1
        case measure => have := HK1.out; omega
        case rel => exact ⟨(wrap64 (x3_1 + 1)), (by first | rfl | (simp; done) | (simp [*]; done)), H', ⟨by have := HK1.out; omega⟩, by repeat (first | exact Drawn0.refl _ | apply Drawn0.step)⟩
       ·rw [if_neg c7] at H
        have c7b0 : decide ((bt a0 x3_1) ≤ 122) = false := decide_eq_false c7
        clear c7
        by_cases c8 : ((bt a0 x3_1) ≤ 57)
        ·rw [if_pos c8] at H
         have c8b0 : decide ((bt a0 x3_1) ≤ 57) = true := decide_eq_true c8
         clear c8
         have H' := Aside0.mk H
         clear H
         have p4 : 0 ≤ (x3_1 : Int) := of_decide_eq_true (by first | (with_reducible assumption) | assumption)
         have q4 : x3_1 < (a0.size : Int) := of_decide_eq_true (by first | (with_reducible assumption) | assumption)
         have hx4 := bt_at a0 x3_1
         replace p4 := eq_true p4
         replace q4 := eq_true q4
         go_wp2
         go_roundg k1
         case measure => have := HK1.out; omega
         case rel => exact ⟨(wrap64 (x3_1 + 1)), (by first | rfl | (simp; done) | (simp [*]; done)), H', ⟨by have := HK1.out; omega⟩, by repeat (first | exact Drawn0.refl _ | apply Drawn0.step)⟩
        ·rw [if_neg c8] at H
         have c8b0 : decide ((bt a0 x3_1) ≤ 57) = false := decide_eq_false c8
         clear c8
         by_cases c9 : (bt a0 x3_1) = 95
         ·rw [if_pos c9] at H
          have c9b0 : ((bt a0 x3_1) == 95) = true := beq_iff_eq.mpr c9
          have c9b1 : ((bt a0 x3_1) != 95) = false := bne_eq_false_iff_eq.mpr c9
          clear c9
          have H' := Aside0.mk H
          clear H
          have p4 : 0 ≤ (x3_1 : Int) := of_decide_eq_true (by first | (with_reducible assumption) | assumption)
          have q4 : x3_1 < (a0.size : Int) := of_decide_eq_true (by first | (with_reducible assumption) | assumption)
          have hx4 := bt_at a0 x3_1
          replace p4 := eq_true p4
          replace q4 := eq_true q4
          go_wp2
          go_roundg k1
          case measure => have := HK1.out; omega
          case rel => exact ⟨(wrap64 (x3_1 + 1)), (by first | rfl | (simp; done) | (simp [*]; done)), H', ⟨by have := HK1.out; omega⟩, by repeat (first | exact Drawn0.refl _ | apply Drawn0.step)⟩
         ·rw [if_neg c9] at H
          have c9b0 : ((bt a0 x3_1) == 95) = false := beq_eq_false_iff_ne.mpr c9
          have c9b1 : ((bt a0 x3_1) != 95) = true := bne_iff_ne.mpr c9
          by_cases c10 : (bt a0 x3_1) = 45
          ·rw [if_pos c10] at H
           have c10b0 : ((bt a0 x3_1) == 45) = true := beq_iff_eq.mpr c10
           have c10b1 : ((bt a0 x3_1) != 45) = false := bne_eq_false_iff_eq.mpr c10
           clear c10
           have H' := Aside0.mk H
           clear H
           have p4 : 0 ≤ (x3_1 : Int) := of_decide_eq_true (by first | (with_reducible assumption) | assumption)
           have q4 : x3_1 < (a0.size : Int) := of_decide_eq_true (by first | (with_reducible assumption) | assumption)
           have hx4 := bt_at a0 x3_1
           replace p4 := eq_true p4
           replace q4 := eq_true q4
           go_wp2
           go_roundg k1
           case measure => have := HK1.out; omega
           case rel => exact ⟨(wrap64 (x3_1 + 1)), (by first | rfl | (simp; done) | (simp [*]; done)), H', ⟨by have := HK1.out; omega⟩, by repeat (first | exact Drawn0.refl _ | apply Drawn0.step)⟩
          ·rw [if_neg c10] at H
           have c10b0 : ((bt a0 x3_1) == 45) = false := beq_eq_false_iff_ne.mpr c10
           have c10b1 : ((bt a0 x3_1) != 45) = true := bne_iff_ne.mpr c10
           obtain rfl := Option.some.inj H
           have p4 : 0 ≤ (x3_1 : Int) := of_decide_eq_true (by first | (with_reducible assumption) | assumption)
           have q4 : x3_1 < (a0.size : Int) := of_decide_eq_true (by first | (with_reducible assumption) | assumption)
           have hx4 := bt_at a0 x3_1
           replace p4 := eq_true p4
           replace q4 := eq_true q4
           go_wp2
           go_ret
           exact ⟨by first | rfl | (simp; done) | (simp [*]; done), by repeat (first | exact Drawn0.refl _ | apply Drawn0.step)⟩
      ·rw [if_neg c6] at H
       have c6b0 : decide (48 ≤ (bt a0 x3_1)) = false := decide_eq_false c6
       clear c6
       by_cases c11 : ((bt a0 x3_1) ≤ 122)
       ·rw [if_pos c11] at H
        have c11b0 : decide ((bt a0 x3_1) ≤ 122) = true := decide_eq_true c11
        clear c11
        have H' := Aside0.mk H
        clear H
        have p4 : 0 ≤ (x3_1 : Int) := of_decide_eq_true (by first | (with_reducible assumption) | assumption)
        have q4 : x3_1 < (a0.size : Int) := of_decide_eq_true (by first | (with_reducible assumption) | assumption)
        have hx4 := bt_at a0 x3_1
        replace p4 := eq_true p4
        replace q4 := eq_true q4
        go_wp2
        go_roundg k1
        case measure => have := HK1.out; omega
        case rel => exact ⟨(wrap64 (x3_1 + 1)), (by first | rfl | (simp; done) | (simp [*]; done)), H', ⟨by have := HK1.out; omega⟩, by repeat (first | exact Drawn0.refl _ | apply Drawn0.step)⟩
       ·rw [if_neg c11] at H
        have c11b0 : decide ((bt a0 x3_1) ≤ 122) = false := decide_eq_false c11
        clear c11
        by_cases c12 : (bt a0 x3_1) = 95
        ·rw [if_pos c12] at H
         have c12b0 : ((bt a0 x3_1) == 95) = true := beq_iff_eq.mpr c12
         have c12b1 : ((bt a0 x3_1) != 95) = false := bne_eq_false_iff_eq.mpr c12
         clear c12
         have H' := Aside0.mk H
         clear H
         have p4 : 0 ≤ (x3_1 : Int) := of_decide_eq_true (by first | (with_reducible assumption) | assumption)
         have q4 : x3_1 < (a0.size : Int) := of_decide_eq_true (by first | (with_reducible assumption) | assumption)
         have hx4 := bt_at a0 x3_1
         replace p4 := eq_true p4
         replace q4 := eq_true q4
         go_wp2
         go_roundg k1
         case measure => have := HK1.out; omega
         case rel => exact ⟨(wrap64 (x3_1 + 1)), (by first | rfl | (simp; done) | (simp [*]; done)), H', ⟨by have := HK1.out; omega⟩, by repeat (first | exact Drawn0.refl _ | apply Drawn0.step)⟩
        ·rw [if_neg c12] at H
         have c12b0 : ((bt a0 x3_1) == 95) = false := beq_eq_false_iff_ne.mpr c12
         have c12b1 : ((bt a0 x3_1) != 95) = true := bne_iff_ne.mpr c12
         by_cases c13 : (bt a0 x3_1) = 45
         ·rw [if_pos c13] at H
          have c13b0 : ((bt a0 x3_1) == 45) = true := beq_iff_eq.mpr c13
          have c13b1 : ((bt a0 x3_1) != 45) = false := bne_eq_false_iff_eq.mpr c13
          clear c13
          have H' := Aside0.mk H
          clear H
          have p4 : 0 ≤ (x3_1 : Int) := of_decide_eq_true (by first | (with_reducible assumption) | assumption)
          have q4 : x3_1 < (a0.size : Int) := of_decide_eq_true (by first | (with_reducible assumption) | assumption)
          have hx4 := bt_at a0 x3_1
          replace p4 := eq_true p4
          replace q4 := eq_true q4
          go_wp2
          go_roundg k1
          case measure => have := HK1.out; omega
          case rel => exact ⟨(wrap64 (x3_1 + 1)), (by first | rfl | (simp; done) | (simp [*]; done)), H', ⟨by have := HK1.out; omega⟩, by repeat (first | exact Drawn0.refl _ | apply Drawn0.step)⟩
         ·rw [if_neg c13] at H
          have c13b0 : ((bt a0 x3_1) == 45) = false := beq_eq_false_iff_ne.mpr c13
          have c13b1 : ((bt a0 x3_1) != 45) = true := bne_iff_ne.mpr c13
          obtain rfl := Option.some.inj H
          have p4 : 0 ≤ (x3_1 : Int) := of_decide_eq_true (by first | (with_reducible assumption) | assumption)
          have q4 : x3_1 < (a0.size : Int) := of_decide_eq_true (by first | (with_reducible assumption) | assumption)
          have hx4 := bt_at a0 x3_1
          replace p4 := eq_true p4
          replace q4 := eq_true q4
          go_wp2
          go_ret
          exact ⟨by first | rfl | (simp; done) | (simp [*]; done), by repeat (first | exact Drawn0.refl _ | apply Drawn0.step)⟩
     ·rw [if_neg c5] at H
      have c5b0 : decide (97 ≤ (bt a0 x3_1)) = false := decide_eq_false c5
      clear c5
      by_cases c14 : (bt a0 x3_1) ≥ 48
      ·rw [if_pos c14] at H
       have c14b0 : decide (48 ≤ (bt a0 x3_1)) = true := decide_eq_true c14
       clear c14
       by_cases c15 : ((bt a0 x3_1) ≤ 57)
       ·rw [if_pos c15] at H
        have c15b0 : decide ((bt a0 x3_1) ≤ 57) = true := decide_eq_true c15
        clear c15
        have H' := Aside0.mk H
        clear H
        have p4 : 0 ≤ (x3_1 : Int) := of_decide_eq_true (by first | (with_reducible assumption) | assumption)
        have q4 : x3_1 < (a0.size : Int) := of_decide_eq_true (by first | (with_reducible assumption) | assumption)
        have hx4 := bt_at a0 x3_1
        replace p4 := eq_true p4
        replace q4 := eq_true q4
        go_wp2
        go_roundg k1
        case measure => have := HK1.out; omega
        case rel => exact ⟨(wrap64 (x3_1 + 1)), (by first | rfl | (simp; done) | (simp [*]; done)), H', ⟨by have := HK1.out; omega⟩, by repeat (first | exact Drawn0.refl _ | apply Drawn0.step)⟩
       ·rw [if_neg c15] at H
        have c15b0 : decide ((bt a0 x3_1) ≤ 57) = false := decide_eq_false c15
        clear c15
        by_cases c16 : (bt a0 x3_1) = 95
        ·rw [if_pos c16] at H
         have c16b0 : ((bt a0 x3_1) == 95) = true := beq_iff_eq.mpr c16
         have c16b1 : ((bt a0 x3_1) != 95) = false := bne_eq_false_iff_eq.mpr c16
         clear c16
         have H' := Aside0.mk H
         clear H
         have p4 : 0 ≤ (x3_1 : Int) := of_decide_eq_true (by first | (with_reducible assumption) | assumption)
         have q4 : x3_1 < (a0.size : Int) := of_decide_eq_true (by first | (with_reducible assumption) | assumption)
         have hx4 := bt_at a0 x3_1
         replace p4 := eq_true p4
         replace q4 := eq_true q4
         go_wp2
         go_roundg k1
         case measure => have := HK1.out; omega
         case rel => exact ⟨(wrap64 (x3_1 + 1)), (by first | rfl | (simp; done) | (simp [*]; done)), H', ⟨by have := HK1.out; omega⟩, by repeat (first | exact Drawn0.refl _ | apply Drawn0.step)⟩
        ·rw [if_neg c16] at H
         have c16b0 : ((bt a0 x3_1) == 95) = false := beq_eq_false_iff_ne.mpr c16
         have c16b1 : ((bt a0 x3_1) != 95) = true := bne_iff_ne.mpr c16
         by_cases c17 : (bt a0 x3_1) = 45
         ·rw [if_pos c17] at H
          have c17b0 : ((bt a0 x3_1) == 45) = true := beq_iff_eq.mpr c17
          have c17b1 : ((bt a0 x3_1) != 45) = false := bne_eq_false_iff_eq.mpr c17
          clear c17
          have H' := Aside0.mk H
          clear H
          have p4 : 0 ≤ (x3_1 : Int) := of_decide_eq_true (by first | (with_reducible assumption) | assumption)
          have q4 : x3_1 < (a0.size : Int) := of_decide_eq_true (by first | (with_reducible assumption) | assumption)
          have hx4 := bt_at a0 x3_1
          replace p4 := eq_true p4
          replace q4 := eq_true q4
          go_wp2
          go_roundg k1
          case measure => have := HK1.out; omega
          case rel => exact ⟨(wrap64 (x3_1 + 1)), (by first | rfl | (simp; done) | (simp [*]; done)), H', ⟨by have := HK1.out; omega⟩, by repeat (first | exact Drawn0.refl _ | apply Drawn0.step)⟩
         ·rw [if_neg c17] at H
          have c17b0 : ((bt a0 x3_1) == 45) = false := beq_eq_false_iff_ne.mpr c17
          have c17b1 : ((bt a0 x3_1) != 45) = true := bne_iff_ne.mpr c17
          obtain rfl := Option.some.inj H
          have p4 : 0 ≤ (x3_1 : Int) := of_decide_eq_true (by first | (with_reducible assumption) | assumption)
          have q4 : x3_1 < (a0.size : Int) := of_decide_eq_true (by first | (with_reducible assumption) | assumption)
          have hx4 := bt_at a0 x3_1
          replace p4 := eq_true p4
          replace q4 := eq_true q4
          go_wp2
          go_ret
          exact ⟨by first | rfl | (simp; done) | (simp [*]; done), by repeat (first | exact Drawn0.refl _ | apply Drawn0.step)⟩
      ·rw [if_neg c14] at H
       have c14b0 : decide (48 ≤ (bt a0 x3_1)) = false := decide_eq_false c14
       clear c14
       by_cases c18 : (bt a0 x3_1) = 95
       ·rw [if_pos c18] at H
        have c18b0 : ((bt a0 x3_1) == 95) = true := beq_iff_eq.mpr c18
        have c18b1 : ((bt a0 x3_1) != 95) = false := bne_eq_false_iff_eq.mpr c18
        clear c18
        have H' := Aside0.mk H
        clear H
        have p4 : 0 ≤ (x3_1 : Int) := of_decide_eq_true (by first | (with_reducible assumption) | assumption)
        have q4 : x3_1 < (a0.size : Int) := of_decide_eq_true (by first | (with_reducible assumption) | assumption)
        have hx4 := bt_at a0 x3_1
        replace p4 := eq_true p4
        replace q4 := eq_true q4
        go_wp2
        go_roundg k1
        case measure => have := HK1.out; omega
        case rel => exact ⟨(wrap64 (x3_1 + 1)), (by first | rfl | (simp; done) | (simp [*]; done)), H', ⟨by have := HK1.out; omega⟩, by repeat (first | exact Drawn0.refl _ | apply Drawn0.step)⟩
       ·rw [if_neg c18] at H
        have c18b0 : ((bt a0 x3_1) == 95) = false := beq_eq_false_iff_ne.mpr c18
        have c18b1 : ((bt a0 x3_1) != 95) = true := bne_iff_ne.mpr c18
        by_cases c19 : (bt a0 x3_1) = 45
        ·rw [if_pos c19] at H
         have c19b0 : ((bt a0 x3_1) == 45) = true := beq_iff_eq.mpr c19
         have c19b1 : ((bt a0 x3_1) != 45) = false := bne_eq_false_iff_eq.mpr c19
         clear c19
         have H' := Aside0.mk H
         clear H
         have p4 : 0 ≤ (x3_1 : Int) := of_decide_eq_true (by first | (with_reducible assumption) | assumption)
         have q4 : x3_1 < (a0.size : Int) := of_decide_eq_true (by first | (with_reducible assumption) | assumption)
         have hx4 := bt_at a0 x3_1
         replace p4 := eq_true p4
         replace q4 := eq_true q4
         go_wp2
         go_roundg k1
         case measure => have := HK1.out; omega
         case rel => exact ⟨(wrap64 (x3_1 + 1)), (by first | rfl | (simp; done) | (simp [*]; done)), H', ⟨by have := HK1.out; omega⟩, by repeat (first | exact Drawn0.refl _ | apply Drawn0.step)⟩
        ·rw [if_neg c19] at H
         have c19b0 : ((bt a0 x3_1) == 45) = false := beq_eq_false_iff_ne.mpr c19
         have c19b1 : ((bt a0 x3_1) != 45) = true := bne_iff_ne.mpr c19
         obtain rfl := Option.some.inj H
         have p4 : 0 ≤ (x3_1 : Int) := of_decide_eq_true (by first | (with_reducible assumption) | assumption)
         have q4 : x3_1 < (a0.size : Int) := of_decide_eq_true (by first | (with_reducible assumption) | assumption)
         have hx4 := bt_at a0 x3_1
         replace p4 := eq_true p4
         replace q4 := eq_true q4
         go_wp2
         go_ret
         exact ⟨by first | rfl | (simp; done) | (simp [*]; done), by repeat (first | exact Drawn0.refl _ | apply Drawn0.step)⟩
    ·rw [if_neg c3] at H
     exact absurd H (by simp)
   ·rw [if_neg c2] at H
    have c2b0 : decide (x3_1 < (a0.size : Int)) = false := decide_eq_false c2
    clear c2
    by_cases c20 : (a0.size : Int) > 0
    ·rw [if_pos c20] at H
     have c20b0 : decide (0 < (a0.size : Int)) = true := decide_eq_true c20
     have c20b1 : decide (0 < a0.size) = true := decide_eq_true (by omega)
     clear c20
     obtain rfl := Option.some.inj H
     go_wp2
     go_ret
     exact ⟨by first | rfl | (simp; done) | (simp [*]; done), by repeat (first | exact Drawn0.refl _ | apply Drawn0.step)⟩
    ·rw [if_neg c20] at H
     have c20b0 : decide (0 < (a0.size : Int)) = false := decide_eq_false c20
     have c20b1 : decide (0 < a0.size) = false := decide_eq_false (by omega)
     clear c20
     obtain rfl := Option.some.inj H
     go_wp2
     go_ret
     exact ⟨by first | rfl | (simp; done) | (simp [*]; done), by repeat (first | exact Drawn0.refl _ | apply Drawn0.step)⟩
def chicaneref01_Top.f  : Option (Int) := some 1099511627776
set_option maxHeartbeats 8000000 in
set_option maxRecDepth 100000 in
theorem chicaneref01_Top.calls  (r : Int) (w : World) (h : chicaneref01_Top.f  = some r) :
  Calls Tryz.prog 53 #[] w fun e w' => e = .returned (.int .i64 r) ∧ Drawn0 w w' := by
 have H : (some 1099511627776) = some r := h
 clear h
 obtain rfl := Option.some.inj H
 go_enter Tryz.func53, Tryz.ntmps53
 go_wp2
 go_ret
 exact ⟨by first | rfl | (simp; done) | (simp [*]; done), by repeat (first | exact Drawn0.refl _ | apply Drawn0.step)⟩
def chicaneref01_Near.f (a0 : Int) : Option (Int) := if a0 < 0 then (some 0) else ((chicaneref01_Top.f).bind fun t101 => (if a0 > t101 then ((chicaneref01_Top.f).bind fun t102 => (some t102)) else (some a0)))
set_option maxHeartbeats 8000000 in
set_option maxRecDepth 100000 in
theorem chicaneref01_Near.calls (a0 : Int) (r : Int) (w : World) (h : chicaneref01_Near.f a0 = some r) :
  Calls Tryz.prog 43 #[.int .i64 a0] w fun e w' => e = .returned (.int .i64 r) ∧ Drawn0 w w' := by
 have H : (if a0 < 0 then (some 0) else ((chicaneref01_Top.f).bind fun t101 => (if a0 > t101 then ((chicaneref01_Top.f).bind fun t102 => (some t102)) else (some a0)))) = some r := h
 clear h
 by_cases c2 : a0 < 0
 ·rw [if_pos c2] at H
  have c2b0 : decide (a0 < 0) = true := decide_eq_true c2
  clear c2
  obtain rfl := Option.some.inj H
  go_enter Tryz.func43, Tryz.ntmps43
  go_wp2
  go_ret
  exact ⟨by first | rfl | (simp; done) | (simp [*]; done), by repeat (first | exact Drawn0.refl _ | apply Drawn0.step)⟩
 ·rw [if_neg c2] at H
  have c2b0 : decide (a0 < 0) = false := decide_eq_false c2
  clear c2
  replace H := Option.bind_eq_some_iff.mp H
  obtain ⟨t101, A30, H⟩ := H
  replace H : (if a0 > t101 then ((chicaneref01_Top.f).bind fun t102 => (some t102)) else (some a0)) = some r := H
  have A3 := Aside0.mk A30
  clear A30
  by_cases c4 : a0 > t101
  ·rw [if_pos c4] at H
   have c4b0 : decide (t101 < a0) = true := decide_eq_true c4
   clear c4
   replace H := Option.bind_eq_some_iff.mp H
   obtain ⟨t102, A50, H⟩ := H
   replace H : (some t102) = some r := H
   have A5 := Aside0.mk A50
   clear A50
   obtain rfl := Option.some.inj H
   go_enter Tryz.func43, Tryz.ntmps43
   go_wp2_with (first | ((with_reducible refine gate_callee (f := 53) rfl ?_); refine goesL_ (some 6) rfl rfl Tryz.func53 (by kernel_rfl) rfl #[] rfl (by (try simp only [List.map_toArray, List.map_cons, List.map_nil]); first | done | rfl | (simp only [List.length_drop, List.length_take]; rfl)) ?_; (with_reducible refine (chicaneref01_Top.calls  t101 _ A3.out).mono ?_); rintro e w' ⟨rfl, ⟨nd, rfl⟩⟩; refine ⟨_, rfl, ?_⟩) | ((with_reducible refine gate_callee (f := 53) rfl ?_); refine goesL_ (some 8) rfl rfl Tryz.func53 (by kernel_rfl) rfl #[] rfl (by (try simp only [List.map_toArray, List.map_cons, List.map_nil]); first | done | rfl | (simp only [List.length_drop, List.length_take]; rfl)) ?_; (with_reducible refine (chicaneref01_Top.calls  t102 _ A5.out).mono ?_); rintro e w' ⟨rfl, ⟨nd, rfl⟩⟩; refine ⟨_, rfl, ?_⟩))
   go_ret
   exact ⟨by first | rfl | (simp; done) | (simp [*]; done), by repeat (first | exact Drawn0.refl _ | apply Drawn0.step)⟩
  ·rw [if_neg c4] at H
   have c4b0 : decide (t101 < a0) = false := decide_eq_false c4
   clear c4
   obtain rfl := Option.some.inj H
   go_enter Tryz.func43, Tryz.ntmps43
   go_wp2_with (first | ((with_reducible refine gate_callee (f := 53) rfl ?_); refine goesL_ (some 6) rfl rfl Tryz.func53 (by kernel_rfl) rfl #[] rfl (by (try simp only [List.map_toArray, List.map_cons, List.map_nil]); first | done | rfl | (simp only [List.length_drop, List.length_take]; rfl)) ?_; (with_reducible refine (chicaneref01_Top.calls  t101 _ A3.out).mono ?_); rintro e w' ⟨rfl, ⟨nd, rfl⟩⟩; refine ⟨_, rfl, ?_⟩))
   go_ret
   exact ⟨by first | rfl | (simp; done) | (simp [*]; done), by repeat (first | exact Drawn0.refl _ | apply Drawn0.step)⟩
def chicaneref09_right.f (a0 : Int) : Option (Bool) := (chicaneref01_Near.f a0).bind fun t103 => (some (t103 == a0))
set_option maxHeartbeats 8000000 in
set_option maxRecDepth 100000 in
theorem chicaneref09_right.calls (a0 : Int) (r : Bool) (w : World) (h : chicaneref09_right.f a0 = some r) :
  Calls Tryz.prog 102 #[.int .i64 a0] w fun e w' => e = .returned (.bool r) ∧ Drawn0 w w' := by
 have H : ((chicaneref01_Near.f a0).bind fun t103 => (some (t103 == a0))) = some r := h
 clear h
 replace H := Option.bind_eq_some_iff.mp H
 obtain ⟨t103, A20, H⟩ := H
 replace H : (some (t103 == a0)) = some r := H
 have A2 := Aside0.mk A20
 clear A20
 obtain rfl := Option.some.inj H
 go_enter Tryz.func102, Tryz.ntmps102
 go_wp2_with (first | ((with_reducible refine gate_callee (f := 43) rfl ?_); refine goesL_ (some 4) rfl rfl Tryz.func43 (by kernel_rfl) rfl #[.int .i64 a0] rfl (by (try simp only [List.map_toArray, List.map_cons, List.map_nil]); first | done | rfl | (simp only [List.length_drop, List.length_take]; rfl)) ?_; (with_reducible refine (chicaneref01_Near.calls a0 t103 _ A2.out).mono ?_); rintro e w' ⟨rfl, ⟨nd, rfl⟩⟩; refine ⟨_, rfl, ?_⟩))
 go_ret
 exact ⟨by first | rfl | (simp; done) | (simp [*]; done), by repeat (first | exact Drawn0.refl _ | apply Drawn0.step)⟩
def chicaneref09_numbers.j0 : Nat → Bool → ByteArray → Int → Bool → Int → Int → Int → Option (Bool)
 | 0, _, _, _, _, _, _, _ => none
 | k + 1, x12, x105000, x105001, x105002, x105003, x105004, x105005 => if x12 = true then (some false) else (if x105001 = 1 then (some (decide (x105005 ≤ x105004))) else (if x105001 = 2 then (if x105005 ≥ 1 then (some (decide (x105005 ≤ 4096))) else (some false)) else (if x105001 = 3 then (if x105004 ≥ 1 then (some (decide (x105004 ≤ 4096))) else (some false)) else (if x105001 = 4 then (if x105004 > 0 then (some (x105005 == 0)) else (some false)) else (if x105001 = 5 then (if x105004 > 0 then (some (x105005 == 0)) else (some false)) else (some (x105005 == 0)))))))
def chicaneref09_numbers.f (k : Nat) (a0_0 : ByteArray) (a0_1 : Int) (a0_2 : Bool) (a0_3 : Int) (a0_4 : Int) (a0_5 : Int) : Option (Bool) := (chicaneref09_right.f a0_4).bind fun t105 => (if t105 = true then ((chicaneref09_right.f a0_5).bind fun t106 => (chicaneref09_numbers.j0 k (!t106) a0_0 a0_1 a0_2 a0_3 a0_4 a0_5)) else (chicaneref09_numbers.j0 k true a0_0 a0_1 a0_2 a0_3 a0_4 a0_5))
set_option maxHeartbeats 8000000 in
set_option maxRecDepth 100000 in
theorem chicaneref09_numbers.calls (k : Nat) (a0_0 : ByteArray) (a0_1 : Int) (a0_2 : Bool) (a0_3 : Int) (a0_4 : Int) (a0_5 : Int) (r : Bool) (w : World) (h : chicaneref09_numbers.f k a0_0 a0_1 a0_2 a0_3 a0_4 a0_5 = some r) :
  Calls Tryz.prog 88 #[.agg #[.string a0_0, .int .i64 a0_1, .bool a0_2, .int .i64 a0_3, .int .i64 a0_4, .int .i64 a0_5]] w fun e w' => e = .returned (.bool r) ∧ Below w.heap.size w w' := by
 have hu25 := Tryz.underlying25
 have HB := Aside0.mk (Below.refl w.heap.size w)
 have H : ((chicaneref09_right.f a0_4).bind fun t105 => (if t105 = true then ((chicaneref09_right.f a0_5).bind fun t106 => (chicaneref09_numbers.j0 k (!t106) a0_0 a0_1 a0_2 a0_3 a0_4 a0_5)) else (chicaneref09_numbers.j0 k true a0_0 a0_1 a0_2 a0_3 a0_4 a0_5))) = some r := h
 clear h
 have HC2 := Aside0.mk H
 clear H
 go_enter Tryz.func88, Tryz.ntmps88
 go_upto_region 1 with (first | ((with_reducible refine gate_dst (N := 1) rfl ?_); refine box_event ?hg (N := 1) ?hd (cs := #[.string a0_0, .int .i64 a0_1, .bool a0_2, .int .i64 a0_3, .int .i64 a0_4, .int .i64 a0_5]) (t := 25) ?hr ?_; (case hd => rfl); (case hg => rfl); (case hr => first | (go_simp; done) | (go_simp; rfl)); intro gb104 hg w3 hbox hb; have n0_ := Aside0.mk (below_step (by repeat (first | (with_reducible first | exact HB.out | apply below_alloc | apply pw_below_drewN | apply below_drew1) | exact HB.out)) hb); have n1_ := Aside0.mk (hbox); have n2_ := Aside0.mk ((by rw [hg]; exact (below_size (by repeat (first | (with_reducible first | exact HB.out | apply below_alloc | apply pw_below_drewN | apply below_drew1) | exact HB.out))) : w.heap.size ≤ gb104)); have n3_ := Aside0.mk ((by rw [hg]; exact (below_size (by repeat (first | (with_reducible first | exact HB.out | apply below_alloc | apply pw_below_drewN | apply below_drew1) | exact HB.out))) : w.heap.size ≤ gb104)); clear HB; have HB := n0_; have BK104 := n1_; have GW104 := n2_; have GE104 := n3_; clear n0_ n1_ n2_ n3_; clear hb hbox hg))
 (try simp only [Act.put, List.setIfInBounds_toArray, List.set_cons_zero, List.set_cons_succ])
 go_cut [12] (fun v12 wc => ∃ (kq : Nat) (x12_1 : Bool), v12 = .bool x12_1 ∧ Aside0 (chicaneref09_numbers.j0 kq x12_1 a0_0 a0_1 a0_2 a0_3 a0_4 a0_5 = some r) ∧ Aside0 (kq ≤ k) ∧ Aside0 (wc.heap[gb104]? = some (.cells #[.string a0_0, .int .i64 a0_1, .bool a0_2, .int .i64 a0_3, .int .i64 a0_4, .int .i64 a0_5] 25 (0, 0))) ∧ Aside0 (Below w.heap.size w wc))
 case first =>
  have H := HC2.out
  clear HC2
  replace H := Option.bind_eq_some_iff.mp H
  obtain ⟨t105, A40, H⟩ := H
  replace H : (if t105 = true then ((chicaneref09_right.f a0_5).bind fun t106 => (chicaneref09_numbers.j0 k (!t106) a0_0 a0_1 a0_2 a0_3 a0_4 a0_5)) else (chicaneref09_numbers.j0 k true a0_0 a0_1 a0_2 a0_3 a0_4 a0_5)) = some r := H
  have A4 := Aside0.mk A40
  clear A40
  by_cases c5 : t105 = true
  ·subst c5
   have H1 : ((chicaneref09_right.f a0_5).bind fun t106 => (chicaneref09_numbers.j0 k (!t106) a0_0 a0_1 a0_2 a0_3 a0_4 a0_5)) = some r := by rw [if_pos rfl] at H; exact H
   clear H
   have H := H1
   clear H1
   replace H := Option.bind_eq_some_iff.mp H
   obtain ⟨t106, A60, H⟩ := H
   replace H : (chicaneref09_numbers.j0 k (!t106) a0_0 a0_1 a0_2 a0_3 a0_4 a0_5) = some r := H
   have A6 := Aside0.mk A60
   clear A60
   have H' := Aside0.mk H
   clear H
   have hcz7_0 : w3.cell? ⟨gb104, 0, none⟩ = some (.string a0_0) := (blk_cell BK104.out 0).trans rfl
   have hcz7_1 : w3.cell? ⟨gb104, 1, none⟩ = some (.int .i64 a0_1) := (blk_cell BK104.out 1).trans rfl
   have hcz7_2 : w3.cell? ⟨gb104, 2, none⟩ = some (.bool a0_2) := (blk_cell BK104.out 2).trans rfl
   have hcz7_3 : w3.cell? ⟨gb104, 3, none⟩ = some (.int .i64 a0_3) := (blk_cell BK104.out 3).trans rfl
   have hcz7_4 : w3.cell? ⟨gb104, 4, none⟩ = some (.int .i64 a0_4) := (blk_cell BK104.out 4).trans rfl
   have hcz7_5 : w3.cell? ⟨gb104, 5, none⟩ = some (.int .i64 a0_5) := (blk_cell BK104.out 5).trans rfl
   have hfz7_0 := blk_frozen BK104.out 0
   have hfz7_1 := blk_frozen BK104.out 1
   have hfz7_2 := blk_frozen BK104.out 2
   have hfz7_3 := blk_frozen BK104.out 3
   have hfz7_4 := blk_frozen BK104.out 4
   have hfz7_5 := blk_frozen BK104.out 5
   go_wp2_with (first | ((with_reducible refine gate_callee (f := 102) rfl ?_); refine goesL_ (some 5) rfl rfl Tryz.func102 (by kernel_rfl) rfl #[.int .i64 a0_4] rfl (by (try simp only [List.map_toArray, List.map_cons, List.map_nil]); first | done | rfl | (simp only [List.length_drop, List.length_take]; rfl)) ?_; (with_reducible refine (chicaneref09_right.calls a0_4 true _ A4.out).mono ?_); rintro e w' ⟨rfl, ⟨nd, rfl⟩⟩; refine ⟨_, rfl, ?_⟩) | (go_at_call 102; (with_reducible refine (chicaneref09_right.calls a0_5 t106 _ A6.out).mono ?_); rintro e w' ⟨rfl, ⟨nd, rfl⟩⟩))
   go_meet
   case rel => exact ⟨_, (!t106), (by first | rfl | (simp; done) | (simp [*]; done)), H', ⟨by first | omega | exact Nat.le_refl _⟩, ⟨by (with_reducible repeat (first | refine blk_drewN ?_ _ | refine blk_drew ?_ | refine blk_alloc ?_ _)); exact BK104.out⟩, ⟨by repeat (first | (with_reducible first | exact HB.out | apply below_alloc | apply pw_below_drewN | apply below_drew1 | refine below_set ?_ GE104.out) | exact HB.out)⟩⟩
  ·replace c5 := Bool.eq_false_iff.mpr c5
   subst c5
   have H1 : (chicaneref09_numbers.j0 k true a0_0 a0_1 a0_2 a0_3 a0_4 a0_5) = some r := by rw [if_neg (show ¬ (false = true) by decide)] at H; exact H
   clear H
   have H := H1
   clear H1
   have H' := Aside0.mk H
   clear H
   have hcz8_0 : w3.cell? ⟨gb104, 0, none⟩ = some (.string a0_0) := (blk_cell BK104.out 0).trans rfl
   have hcz8_1 : w3.cell? ⟨gb104, 1, none⟩ = some (.int .i64 a0_1) := (blk_cell BK104.out 1).trans rfl
   have hcz8_2 : w3.cell? ⟨gb104, 2, none⟩ = some (.bool a0_2) := (blk_cell BK104.out 2).trans rfl
   have hcz8_3 : w3.cell? ⟨gb104, 3, none⟩ = some (.int .i64 a0_3) := (blk_cell BK104.out 3).trans rfl
   have hcz8_4 : w3.cell? ⟨gb104, 4, none⟩ = some (.int .i64 a0_4) := (blk_cell BK104.out 4).trans rfl
   have hcz8_5 : w3.cell? ⟨gb104, 5, none⟩ = some (.int .i64 a0_5) := (blk_cell BK104.out 5).trans rfl
   have hfz8_0 := blk_frozen BK104.out 0
   have hfz8_1 := blk_frozen BK104.out 1
   have hfz8_2 := blk_frozen BK104.out 2
   have hfz8_3 := blk_frozen BK104.out 3
   have hfz8_4 := blk_frozen BK104.out 4
   have hfz8_5 := blk_frozen BK104.out 5
   go_wp2_with (first | ((with_reducible refine gate_callee (f := 102) rfl ?_); refine goesL_ (some 5) rfl rfl Tryz.func102 (by kernel_rfl) rfl #[.int .i64 a0_4] rfl (by (try simp only [List.map_toArray, List.map_cons, List.map_nil]); first | done | rfl | (simp only [List.length_drop, List.length_take]; rfl)) ?_; (with_reducible refine (chicaneref09_right.calls a0_4 false _ A4.out).mono ?_); rintro e w' ⟨rfl, ⟨nd, rfl⟩⟩; refine ⟨_, rfl, ?_⟩))
   go_meet
   case rel => exact ⟨_, (true), (by first | rfl | (simp; done) | (simp [*]; done)), H', ⟨by first | omega | exact Nat.le_refl _⟩, ⟨by (with_reducible repeat (first | refine blk_drewN ?_ _ | refine blk_drew ?_ | refine blk_alloc ?_ _)); exact BK104.out⟩, ⟨by repeat (first | (with_reducible first | exact HB.out | apply below_alloc | apply pw_below_drewN | apply below_drew1 | refine below_set ?_ GE104.out) | exact HB.out)⟩⟩
 case rest =>
  clear HC2
  try clear c1
  try clear p2
  try clear c5
  try clear c8
  try clear hcz7_0
  try clear hcz7_1
  try clear hcz7_2
  try clear hcz7_3
  try clear hcz7_4
  try clear hcz7_5
  try clear hcz8_0
  try clear hcz8_1
  try clear hcz8_2
  try clear hcz8_3
  try clear hcz8_4
  try clear hcz8_5
  try clear hfz7_0
  try clear hfz7_1
  try clear hfz7_2
  try clear hfz7_3
  try clear hfz7_4
  try clear hfz7_5
  try clear hfz8_0
  try clear hfz8_1
  try clear hfz8_2
  try clear hfz8_3
  try clear hfz8_4
  try clear hfz8_5
  obtain ⟨kq, x12_1, rfl, HA, HJ1, BK104, HB⟩ := hcut
  cases kq with
  | zero => exact absurd HA.out (by simp [chicaneref09_numbers.j0])
  | succ kj1 =>
   have H := HA.out
   clear HA
   simp only [chicaneref09_numbers.j0] at H
   by_cases c9 : x12_1 = true
   ·subst c9
    have H1 : (some false) = some r := by rw [if_pos rfl] at H; exact H
    clear H
    have H := H1
    clear H1
    obtain rfl := Option.some.inj H
    go_wp2
    go_ret
    exact ⟨by first | rfl | (simp [errW_none, errW_some] <;> rfl) | (simp [*, errW_none, errW_some] <;> rfl), by repeat (first | (with_reducible first | exact HB.out | apply below_alloc | apply pw_below_drewN | apply below_drew1 | refine below_set ?_ GE104.out) | exact HB.out)⟩
   ·replace c9 := Bool.eq_false_iff.mpr c9
    subst c9
    have H1 : (if a0_1 = 1 then (some (decide (a0_5 ≤ a0_4))) else (if a0_1 = 2 then (if a0_5 ≥ 1 then (some (decide (a0_5 ≤ 4096))) else (some false)) else (if a0_1 = 3 then (if a0_4 ≥ 1 then (some (decide (a0_4 ≤ 4096))) else (some false)) else (if a0_1 = 4 then (if a0_4 > 0 then (some (a0_5 == 0)) else (some false)) else (if a0_1 = 5 then (if a0_4 > 0 then (some (a0_5 == 0)) else (some false)) else (some (a0_5 == 0))))))) = some r := by rw [if_neg (show ¬ (false = true) by decide)] at H; exact H
    clear H
    have H := H1
    clear H1
    by_cases c10 : a0_1 = 1
    ·rw [if_pos c10] at H
     have c10b0 : (a0_1 == 1) = true := beq_iff_eq.mpr c10
     have c10b1 : (a0_1 != 1) = false := bne_eq_false_iff_eq.mpr c10
     clear c10
     obtain rfl := Option.some.inj H
     have hcz11_0 : wc.cell? ⟨gb104, 0, none⟩ = some (.string a0_0) := (blk_cell BK104.out 0).trans rfl
     have hcz11_1 : wc.cell? ⟨gb104, 1, none⟩ = some (.int .i64 a0_1) := (blk_cell BK104.out 1).trans rfl
     have hcz11_2 : wc.cell? ⟨gb104, 2, none⟩ = some (.bool a0_2) := (blk_cell BK104.out 2).trans rfl
     have hcz11_3 : wc.cell? ⟨gb104, 3, none⟩ = some (.int .i64 a0_3) := (blk_cell BK104.out 3).trans rfl
     have hcz11_4 : wc.cell? ⟨gb104, 4, none⟩ = some (.int .i64 a0_4) := (blk_cell BK104.out 4).trans rfl
     have hcz11_5 : wc.cell? ⟨gb104, 5, none⟩ = some (.int .i64 a0_5) := (blk_cell BK104.out 5).trans rfl
     have hfz11_0 := blk_frozen BK104.out 0
     have hfz11_1 := blk_frozen BK104.out 1
     have hfz11_2 := blk_frozen BK104.out 2
     have hfz11_3 := blk_frozen BK104.out 3
     have hfz11_4 := blk_frozen BK104.out 4
     have hfz11_5 := blk_frozen BK104.out 5
     go_wp2
     go_ret
     exact ⟨by first | rfl | (simp [errW_none, errW_some] <;> rfl) | (simp [*, errW_none, errW_some] <;> rfl), by repeat (first | (with_reducible first | exact HB.out | apply below_alloc | apply pw_below_drewN | apply below_drew1 | refine below_set ?_ GE104.out) | exact HB.out)⟩
    ·rw [if_neg c10] at H
     have c10b0 : (a0_1 == 1) = false := beq_eq_false_iff_ne.mpr c10
     have c10b1 : (a0_1 != 1) = true := bne_iff_ne.mpr c10
     by_cases c12 : a0_1 = 2
     ·rw [if_pos c12] at H
      have c12b0 : (a0_1 == 2) = true := beq_iff_eq.mpr c12
      have c12b1 : (a0_1 != 2) = false := bne_eq_false_iff_eq.mpr c12
      clear c12
      by_cases c13 : a0_5 ≥ 1
      ·rw [if_pos c13] at H
       have c13b0 : decide (1 ≤ a0_5) = true := decide_eq_true c13
       clear c13
       obtain rfl := Option.some.inj H
       have hcz14_0 : wc.cell? ⟨gb104, 0, none⟩ = some (.string a0_0) := (blk_cell BK104.out 0).trans rfl
       have hcz14_1 : wc.cell? ⟨gb104, 1, none⟩ = some (.int .i64 a0_1) := (blk_cell BK104.out 1).trans rfl
       have hcz14_2 : wc.cell? ⟨gb104, 2, none⟩ = some (.bool a0_2) := (blk_cell BK104.out 2).trans rfl
       have hcz14_3 : wc.cell? ⟨gb104, 3, none⟩ = some (.int .i64 a0_3) := (blk_cell BK104.out 3).trans rfl
       have hcz14_4 : wc.cell? ⟨gb104, 4, none⟩ = some (.int .i64 a0_4) := (blk_cell BK104.out 4).trans rfl
       have hcz14_5 : wc.cell? ⟨gb104, 5, none⟩ = some (.int .i64 a0_5) := (blk_cell BK104.out 5).trans rfl
       have hfz14_0 := blk_frozen BK104.out 0
       have hfz14_1 := blk_frozen BK104.out 1
       have hfz14_2 := blk_frozen BK104.out 2
       have hfz14_3 := blk_frozen BK104.out 3
       have hfz14_4 := blk_frozen BK104.out 4
       have hfz14_5 := blk_frozen BK104.out 5
       go_wp2
       go_ret
       exact ⟨by first | rfl | (simp [errW_none, errW_some] <;> rfl) | (simp [*, errW_none, errW_some] <;> rfl), by repeat (first | (with_reducible first | exact HB.out | apply below_alloc | apply pw_below_drewN | apply below_drew1 | refine below_set ?_ GE104.out) | exact HB.out)⟩
      ·rw [if_neg c13] at H
       have c13b0 : decide (1 ≤ a0_5) = false := decide_eq_false c13
       clear c13
       obtain rfl := Option.some.inj H
       have hcz15_0 : wc.cell? ⟨gb104, 0, none⟩ = some (.string a0_0) := (blk_cell BK104.out 0).trans rfl
       have hcz15_1 : wc.cell? ⟨gb104, 1, none⟩ = some (.int .i64 a0_1) := (blk_cell BK104.out 1).trans rfl
       have hcz15_2 : wc.cell? ⟨gb104, 2, none⟩ = some (.bool a0_2) := (blk_cell BK104.out 2).trans rfl
       have hcz15_3 : wc.cell? ⟨gb104, 3, none⟩ = some (.int .i64 a0_3) := (blk_cell BK104.out 3).trans rfl
       have hcz15_4 : wc.cell? ⟨gb104, 4, none⟩ = some (.int .i64 a0_4) := (blk_cell BK104.out 4).trans rfl
       have hcz15_5 : wc.cell? ⟨gb104, 5, none⟩ = some (.int .i64 a0_5) := (blk_cell BK104.out 5).trans rfl
       have hfz15_0 := blk_frozen BK104.out 0
       have hfz15_1 := blk_frozen BK104.out 1
       have hfz15_2 := blk_frozen BK104.out 2
       have hfz15_3 := blk_frozen BK104.out 3
       have hfz15_4 := blk_frozen BK104.out 4
       have hfz15_5 := blk_frozen BK104.out 5
       go_wp2
       go_ret
       exact ⟨by first | rfl | (simp [errW_none, errW_some] <;> rfl) | (simp [*, errW_none, errW_some] <;> rfl), by repeat (first | (with_reducible first | exact HB.out | apply below_alloc | apply pw_below_drewN | apply below_drew1 | refine below_set ?_ GE104.out) | exact HB.out)⟩
     ·rw [if_neg c12] at H
      have c12b0 : (a0_1 == 2) = false := beq_eq_false_iff_ne.mpr c12
      have c12b1 : (a0_1 != 2) = true := bne_iff_ne.mpr c12
      by_cases c16 : a0_1 = 3
      ·rw [if_pos c16] at H
       have c16b0 : (a0_1 == 3) = true := beq_iff_eq.mpr c16
       have c16b1 : (a0_1 != 3) = false := bne_eq_false_iff_eq.mpr c16
       clear c16
       by_cases c17 : a0_4 ≥ 1
       ·rw [if_pos c17] at H
        have c17b0 : decide (1 ≤ a0_4) = true := decide_eq_true c17
        clear c17
        obtain rfl := Option.some.inj H
        have hcz18_0 : wc.cell? ⟨gb104, 0, none⟩ = some (.string a0_0) := (blk_cell BK104.out 0).trans rfl
        have hcz18_1 : wc.cell? ⟨gb104, 1, none⟩ = some (.int .i64 a0_1) := (blk_cell BK104.out 1).trans rfl
        have hcz18_2 : wc.cell? ⟨gb104, 2, none⟩ = some (.bool a0_2) := (blk_cell BK104.out 2).trans rfl
        have hcz18_3 : wc.cell? ⟨gb104, 3, none⟩ = some (.int .i64 a0_3) := (blk_cell BK104.out 3).trans rfl
        have hcz18_4 : wc.cell? ⟨gb104, 4, none⟩ = some (.int .i64 a0_4) := (blk_cell BK104.out 4).trans rfl
        have hcz18_5 : wc.cell? ⟨gb104, 5, none⟩ = some (.int .i64 a0_5) := (blk_cell BK104.out 5).trans rfl
        have hfz18_0 := blk_frozen BK104.out 0
        have hfz18_1 := blk_frozen BK104.out 1
        have hfz18_2 := blk_frozen BK104.out 2
        have hfz18_3 := blk_frozen BK104.out 3
        have hfz18_4 := blk_frozen BK104.out 4
        have hfz18_5 := blk_frozen BK104.out 5
        go_wp2
        go_ret
        exact ⟨by first | rfl | (simp [errW_none, errW_some] <;> rfl) | (simp [*, errW_none, errW_some] <;> rfl), by repeat (first | (with_reducible first | exact HB.out | apply below_alloc | apply pw_below_drewN | apply below_drew1 | refine below_set ?_ GE104.out) | exact HB.out)⟩
       ·rw [if_neg c17] at H
        have c17b0 : decide (1 ≤ a0_4) = false := decide_eq_false c17
        clear c17
        obtain rfl := Option.some.inj H
        have hcz19_0 : wc.cell? ⟨gb104, 0, none⟩ = some (.string a0_0) := (blk_cell BK104.out 0).trans rfl
        have hcz19_1 : wc.cell? ⟨gb104, 1, none⟩ = some (.int .i64 a0_1) := (blk_cell BK104.out 1).trans rfl
        have hcz19_2 : wc.cell? ⟨gb104, 2, none⟩ = some (.bool a0_2) := (blk_cell BK104.out 2).trans rfl
        have hcz19_3 : wc.cell? ⟨gb104, 3, none⟩ = some (.int .i64 a0_3) := (blk_cell BK104.out 3).trans rfl
        have hcz19_4 : wc.cell? ⟨gb104, 4, none⟩ = some (.int .i64 a0_4) := (blk_cell BK104.out 4).trans rfl
        have hcz19_5 : wc.cell? ⟨gb104, 5, none⟩ = some (.int .i64 a0_5) := (blk_cell BK104.out 5).trans rfl
        have hfz19_0 := blk_frozen BK104.out 0
        have hfz19_1 := blk_frozen BK104.out 1
        have hfz19_2 := blk_frozen BK104.out 2
        have hfz19_3 := blk_frozen BK104.out 3
        have hfz19_4 := blk_frozen BK104.out 4
        have hfz19_5 := blk_frozen BK104.out 5
        go_wp2
        go_ret
        exact ⟨by first | rfl | (simp [errW_none, errW_some] <;> rfl) | (simp [*, errW_none, errW_some] <;> rfl), by repeat (first | (with_reducible first | exact HB.out | apply below_alloc | apply pw_below_drewN | apply below_drew1 | refine below_set ?_ GE104.out) | exact HB.out)⟩
      ·rw [if_neg c16] at H
       have c16b0 : (a0_1 == 3) = false := beq_eq_false_iff_ne.mpr c16
       have c16b1 : (a0_1 != 3) = true := bne_iff_ne.mpr c16
       by_cases c20 : a0_1 = 4
       ·rw [if_pos c20] at H
        have c20b0 : (a0_1 == 4) = true := beq_iff_eq.mpr c20
        have c20b1 : (a0_1 != 4) = false := bne_eq_false_iff_eq.mpr c20
        clear c20
        by_cases c21 : a0_4 > 0
        ·rw [if_pos c21] at H
         have c21b0 : decide (0 < a0_4) = true := decide_eq_true c21
         clear c21
         obtain rfl := Option.some.inj H
         have hcz22_0 : wc.cell? ⟨gb104, 0, none⟩ = some (.string a0_0) := (blk_cell BK104.out 0).trans rfl
         have hcz22_1 : wc.cell? ⟨gb104, 1, none⟩ = some (.int .i64 a0_1) := (blk_cell BK104.out 1).trans rfl
         have hcz22_2 : wc.cell? ⟨gb104, 2, none⟩ = some (.bool a0_2) := (blk_cell BK104.out 2).trans rfl
         have hcz22_3 : wc.cell? ⟨gb104, 3, none⟩ = some (.int .i64 a0_3) := (blk_cell BK104.out 3).trans rfl
         have hcz22_4 : wc.cell? ⟨gb104, 4, none⟩ = some (.int .i64 a0_4) := (blk_cell BK104.out 4).trans rfl
         have hcz22_5 : wc.cell? ⟨gb104, 5, none⟩ = some (.int .i64 a0_5) := (blk_cell BK104.out 5).trans rfl
         have hfz22_0 := blk_frozen BK104.out 0
         have hfz22_1 := blk_frozen BK104.out 1
         have hfz22_2 := blk_frozen BK104.out 2
         have hfz22_3 := blk_frozen BK104.out 3
         have hfz22_4 := blk_frozen BK104.out 4
         have hfz22_5 := blk_frozen BK104.out 5
         go_wp2
         go_ret
         exact ⟨by first | rfl | (simp [errW_none, errW_some] <;> rfl) | (simp [*, errW_none, errW_some] <;> rfl), by repeat (first | (with_reducible first | exact HB.out | apply below_alloc | apply pw_below_drewN | apply below_drew1 | refine below_set ?_ GE104.out) | exact HB.out)⟩
        ·rw [if_neg c21] at H
         have c21b0 : decide (0 < a0_4) = false := decide_eq_false c21
         clear c21
         obtain rfl := Option.some.inj H
         have hcz23_0 : wc.cell? ⟨gb104, 0, none⟩ = some (.string a0_0) := (blk_cell BK104.out 0).trans rfl
         have hcz23_1 : wc.cell? ⟨gb104, 1, none⟩ = some (.int .i64 a0_1) := (blk_cell BK104.out 1).trans rfl
         have hcz23_2 : wc.cell? ⟨gb104, 2, none⟩ = some (.bool a0_2) := (blk_cell BK104.out 2).trans rfl
         have hcz23_3 : wc.cell? ⟨gb104, 3, none⟩ = some (.int .i64 a0_3) := (blk_cell BK104.out 3).trans rfl
         have hcz23_4 : wc.cell? ⟨gb104, 4, none⟩ = some (.int .i64 a0_4) := (blk_cell BK104.out 4).trans rfl
         have hcz23_5 : wc.cell? ⟨gb104, 5, none⟩ = some (.int .i64 a0_5) := (blk_cell BK104.out 5).trans rfl
         have hfz23_0 := blk_frozen BK104.out 0
         have hfz23_1 := blk_frozen BK104.out 1
         have hfz23_2 := blk_frozen BK104.out 2
         have hfz23_3 := blk_frozen BK104.out 3
         have hfz23_4 := blk_frozen BK104.out 4
         have hfz23_5 := blk_frozen BK104.out 5
         go_wp2
         go_ret
         exact ⟨by first | rfl | (simp [errW_none, errW_some] <;> rfl) | (simp [*, errW_none, errW_some] <;> rfl), by repeat (first | (with_reducible first | exact HB.out | apply below_alloc | apply pw_below_drewN | apply below_drew1 | refine below_set ?_ GE104.out) | exact HB.out)⟩
       ·rw [if_neg c20] at H
        have c20b0 : (a0_1 == 4) = false := beq_eq_false_iff_ne.mpr c20
        have c20b1 : (a0_1 != 4) = true := bne_iff_ne.mpr c20
        by_cases c24 : a0_1 = 5
        ·rw [if_pos c24] at H
         have c24b0 : (a0_1 == 5) = true := beq_iff_eq.mpr c24
         have c24b1 : (a0_1 != 5) = false := bne_eq_false_iff_eq.mpr c24
         clear c24
         by_cases c25 : a0_4 > 0
         ·rw [if_pos c25] at H
          have c25b0 : decide (0 < a0_4) = true := decide_eq_true c25
          clear c25
          obtain rfl := Option.some.inj H
          have hcz26_0 : wc.cell? ⟨gb104, 0, none⟩ = some (.string a0_0) := (blk_cell BK104.out 0).trans rfl
          have hcz26_1 : wc.cell? ⟨gb104, 1, none⟩ = some (.int .i64 a0_1) := (blk_cell BK104.out 1).trans rfl
          have hcz26_2 : wc.cell? ⟨gb104, 2, none⟩ = some (.bool a0_2) := (blk_cell BK104.out 2).trans rfl
          have hcz26_3 : wc.cell? ⟨gb104, 3, none⟩ = some (.int .i64 a0_3) := (blk_cell BK104.out 3).trans rfl
          have hcz26_4 : wc.cell? ⟨gb104, 4, none⟩ = some (.int .i64 a0_4) := (blk_cell BK104.out 4).trans rfl
          have hcz26_5 : wc.cell? ⟨gb104, 5, none⟩ = some (.int .i64 a0_5) := (blk_cell BK104.out 5).trans rfl
          have hfz26_0 := blk_frozen BK104.out 0
          have hfz26_1 := blk_frozen BK104.out 1
          have hfz26_2 := blk_frozen BK104.out 2
          have hfz26_3 := blk_frozen BK104.out 3
          have hfz26_4 := blk_frozen BK104.out 4
          have hfz26_5 := blk_frozen BK104.out 5
          go_wp2
          go_ret
          exact ⟨by first | rfl | (simp [errW_none, errW_some] <;> rfl) | (simp [*, errW_none, errW_some] <;> rfl), by repeat (first | (with_reducible first | exact HB.out | apply below_alloc | apply pw_below_drewN | apply below_drew1 | refine below_set ?_ GE104.out) | exact HB.out)⟩
         ·rw [if_neg c25] at H
          have c25b0 : decide (0 < a0_4) = false := decide_eq_false c25
          clear c25
          obtain rfl := Option.some.inj H
          have hcz27_0 : wc.cell? ⟨gb104, 0, none⟩ = some (.string a0_0) := (blk_cell BK104.out 0).trans rfl
          have hcz27_1 : wc.cell? ⟨gb104, 1, none⟩ = some (.int .i64 a0_1) := (blk_cell BK104.out 1).trans rfl
          have hcz27_2 : wc.cell? ⟨gb104, 2, none⟩ = some (.bool a0_2) := (blk_cell BK104.out 2).trans rfl
          have hcz27_3 : wc.cell? ⟨gb104, 3, none⟩ = some (.int .i64 a0_3) := (blk_cell BK104.out 3).trans rfl
          have hcz27_4 : wc.cell? ⟨gb104, 4, none⟩ = some (.int .i64 a0_4) := (blk_cell BK104.out 4).trans rfl
          have hcz27_5 : wc.cell? ⟨gb104, 5, none⟩ = some (.int .i64 a0_5) := (blk_cell BK104.out 5).trans rfl
          have hfz27_0 := blk_frozen BK104.out 0
          have hfz27_1 := blk_frozen BK104.out 1
          have hfz27_2 := blk_frozen BK104.out 2
          have hfz27_3 := blk_frozen BK104.out 3
          have hfz27_4 := blk_frozen BK104.out 4
          have hfz27_5 := blk_frozen BK104.out 5
          go_wp2
          go_ret
          exact ⟨by first | rfl | (simp [errW_none, errW_some] <;> rfl) | (simp [*, errW_none, errW_some] <;> rfl), by repeat (first | (with_reducible first | exact HB.out | apply below_alloc | apply pw_below_drewN | apply below_drew1 | refine below_set ?_ GE104.out) | exact HB.out)⟩
        ·rw [if_neg c24] at H
         have c24b0 : (a0_1 == 5) = false := beq_eq_false_iff_ne.mpr c24
         have c24b1 : (a0_1 != 5) = true := bne_iff_ne.mpr c24
         obtain rfl := Option.some.inj H
         have hcz28_0 : wc.cell? ⟨gb104, 0, none⟩ = some (.string a0_0) := (blk_cell BK104.out 0).trans rfl
         have hcz28_1 : wc.cell? ⟨gb104, 1, none⟩ = some (.int .i64 a0_1) := (blk_cell BK104.out 1).trans rfl
         have hcz28_2 : wc.cell? ⟨gb104, 2, none⟩ = some (.bool a0_2) := (blk_cell BK104.out 2).trans rfl
         have hcz28_3 : wc.cell? ⟨gb104, 3, none⟩ = some (.int .i64 a0_3) := (blk_cell BK104.out 3).trans rfl
         have hcz28_4 : wc.cell? ⟨gb104, 4, none⟩ = some (.int .i64 a0_4) := (blk_cell BK104.out 4).trans rfl
         have hcz28_5 : wc.cell? ⟨gb104, 5, none⟩ = some (.int .i64 a0_5) := (blk_cell BK104.out 5).trans rfl
         have hfz28_0 := blk_frozen BK104.out 0
         have hfz28_1 := blk_frozen BK104.out 1
         have hfz28_2 := blk_frozen BK104.out 2
         have hfz28_3 := blk_frozen BK104.out 3
         have hfz28_4 := blk_frozen BK104.out 4
         have hfz28_5 := blk_frozen BK104.out 5
         go_wp2
         go_ret
         exact ⟨by first | rfl | (simp [errW_none, errW_some] <;> rfl) | (simp [*, errW_none, errW_some] <;> rfl), by repeat (first | (with_reducible first | exact HB.out | apply below_alloc | apply pw_below_drewN | apply below_drew1 | refine below_set ?_ GE104.out) | exact HB.out)⟩
end Go.Proofs.YtlglbpjccpdloaaGreatDoor.PToxR
namespace Go.Proofs.YtlglbpjccpdloaaGreatDoor.PToxR
open Go.Proofs.YtlglbpjccpdloaaGreatDoor.Ext Go.RowKit Go.Proofs.YtlglbpjccpdloaaGreatDoorW.PrintWords Go.Proofs.YtlglbpjccpdloaaGreatDoorW.PrintLast Go.Proofs.YtlglbpjccpdloaaGreatDoorW.PrintMore
attribute [local go_sem] max2_int min2_int max_two min_two max_three min_three max_four min_four   -- for this text's walks alone
set_option linter.unusedVariables false
set_option linter.unusedSimpArgs false
def chicaneref09_Check.j0 : Nat → Bool → ByteArray → Int → Bool → Int → Int → Int → Option (Int)
 | 0, _, _, _, _, _, _, _ => none
 | k + 1, x14, x108000, x108001, x108002, x108003, x108004, x108005 => if x14 = true then (some 91) else (if x108003 < 0 then (some 92) else (if x108003 > 100 then (some 92) else ((chicaneref09_numbers.f k x108000 x108001 x108002 x108003 x108004 x108005).bind fun t109 => (if t109 = true then (some 0) else (some 92)))))
def chicaneref09_Check.f (k : Nat) (a0_0 : ByteArray) (a0_1 : Int) (a0_2 : Bool) (a0_3 : Int) (a0_4 : Int) (a0_5 : Int) : Option (Int) := (chicaneref09_Name.f k a0_0).bind fun t108 => (if t108 = true then (if a0_1 < 1 then (chicaneref09_Check.j0 k true a0_0 a0_1 a0_2 a0_3 a0_4 a0_5) else (chicaneref09_Check.j0 k (decide (a0_1 > 7)) a0_0 a0_1 a0_2 a0_3 a0_4 a0_5)) else (some 90))
set_option maxHeartbeats 8000000 in
set_option maxRecDepth 100000 in
theorem chicaneref09_Check.calls (k : Nat) (a0_0 : ByteArray) (a0_1 : Int) (a0_2 : Bool) (a0_3 : Int) (a0_4 : Int) (a0_5 : Int) (r : Int) (w : World) (h : chicaneref09_Check.f k a0_0 a0_1 a0_2 a0_3 a0_4 a0_5 = some r) :
  Calls Tryz.prog 62 #[.agg #[.string a0_0, .int .i64 a0_1, .bool a0_2, .int .i64 a0_3, .int .i64 a0_4, .int .i64 a0_5]] w fun e w' => e = .returned (.int .i64 r) ∧ Below w.heap.size w w' := by
 have hu25 := Tryz.underlying25
 have HB := Aside0.mk (Below.refl w.heap.size w)
 have H : ((chicaneref09_Name.f k a0_0).bind fun t108 => (if t108 = true then (if a0_1 < 1 then (chicaneref09_Check.j0 k true a0_0 a0_1 a0_2 a0_3 a0_4 a0_5) else (chicaneref09_Check.j0 k (decide (a0_1 > 7)) a0_0 a0_1 a0_2 a0_3 a0_4 a0_5)) else (some 90))) = some r := h
 clear h
 replace H := Option.bind_eq_some_iff.mp H
 obtain ⟨t108, A20, H⟩ := H
 replace H : (if t108 = true then (if a0_1 < 1 then (chicaneref09_Check.j0 k true a0_0 a0_1 a0_2 a0_3 a0_4 a0_5) else (chicaneref09_Check.j0 k (decide (a0_1 > 7)) a0_0 a0_1 a0_2 a0_3 a0_4 a0_5)) else (some 90)) = some r := H
 have A2 := Aside0.mk A20
 clear A20
 by_cases c3 : t108 = true
 ·subst c3
  have H1 : (if a0_1 < 1 then (chicaneref09_Check.j0 k true a0_0 a0_1 a0_2 a0_3 a0_4 a0_5) else (chicaneref09_Check.j0 k (decide (a0_1 > 7)) a0_0 a0_1 a0_2 a0_3 a0_4 a0_5)) = some r := by rw [if_pos rfl] at H; exact H
  clear H
  have H := H1
  clear H1
  have HC4 := Aside0.mk H
  clear H
  go_enter Tryz.func62, Tryz.ntmps62
  go_upto_region 3 with (first | ((with_reducible refine gate_dst (N := 1) rfl ?_); refine box_event ?hg (N := 1) ?hd (cs := #[.string a0_0, .int .i64 a0_1, .bool a0_2, .int .i64 a0_3, .int .i64 a0_4, .int .i64 a0_5]) (t := 25) ?hr ?_; (case hd => rfl); (case hg => rfl); (case hr => first | (go_simp; done) | (go_simp; rfl)); intro gb107 hg w5 hbox hb; have n0_ := Aside0.mk (below_step (by repeat (first | (with_reducible first | exact HB.out | apply below_alloc | apply pw_below_drewN | apply below_drew1) | exact HB.out)) hb); have n1_ := Aside0.mk (hbox); have n2_ := Aside0.mk ((by rw [hg]; exact (below_size (by repeat (first | (with_reducible first | exact HB.out | apply below_alloc | apply pw_below_drewN | apply below_drew1) | exact HB.out))) : w.heap.size ≤ gb107)); have n3_ := Aside0.mk ((by rw [hg]; exact (below_size (by repeat (first | (with_reducible first | exact HB.out | apply below_alloc | apply pw_below_drewN | apply below_drew1) | exact HB.out))) : w.heap.size ≤ gb107)); clear HB; have HB := n0_; have BK107 := n1_; have GW107 := n2_; have GE107 := n3_; clear n0_ n1_ n2_ n3_; clear hb hbox hg; have hcz6_0 : w5.cell? ⟨gb107, 0, none⟩ = some (.string a0_0) := (blk_cell BK107.out 0).trans rfl; have hcz6_1 : w5.cell? ⟨gb107, 1, none⟩ = some (.int .i64 a0_1) := (blk_cell BK107.out 1).trans rfl; have hcz6_2 : w5.cell? ⟨gb107, 2, none⟩ = some (.bool a0_2) := (blk_cell BK107.out 2).trans rfl; have hcz6_3 : w5.cell? ⟨gb107, 3, none⟩ = some (.int .i64 a0_3) := (blk_cell BK107.out 3).trans rfl; have hcz6_4 : w5.cell? ⟨gb107, 4, none⟩ = some (.int .i64 a0_4) := (blk_cell BK107.out 4).trans rfl; have hcz6_5 : w5.cell? ⟨gb107, 5, none⟩ = some (.int .i64 a0_5) := (blk_cell BK107.out 5).trans rfl; have hfz6_0 := blk_frozen BK107.out 0; have hfz6_1 := blk_frozen BK107.out 1; have hfz6_2 := blk_frozen BK107.out 2; have hfz6_3 := blk_frozen BK107.out 3; have hfz6_4 := blk_frozen BK107.out 4; have hfz6_5 := blk_frozen BK107.out 5) | ((with_reducible refine gate_callee (f := 87) rfl ?_); refine goesL_ (some 5) rfl rfl Tryz.func87 (by kernel_rfl) rfl #[.string a0_0] rfl (by (try simp only [List.map_toArray, List.map_cons, List.map_nil]); first | done | rfl | (simp only [List.length_drop, List.length_take]; rfl)) ?_; (with_reducible refine (chicaneref09_Name.calls k a0_0 true _ A2.out).mono ?_); rintro e w' ⟨rfl, ⟨nd, rfl⟩⟩; refine ⟨_, rfl, ?_⟩))
  (try simp only [Act.put, List.setIfInBounds_toArray, List.set_cons_zero, List.set_cons_succ])
  go_cut [14] (fun v14 wc => ∃ (kq : Nat) (x14_3 : Bool), v14 = .bool x14_3 ∧ Aside0 (chicaneref09_Check.j0 kq x14_3 a0_0 a0_1 a0_2 a0_3 a0_4 a0_5 = some r) ∧ Aside0 (kq ≤ k) ∧ Aside0 (wc.heap[gb107]? = some (.cells #[.string a0_0, .int .i64 a0_1, .bool a0_2, .int .i64 a0_3, .int .i64 a0_4, .int .i64 a0_5] 25 (0, 0))) ∧ Aside0 (Below w.heap.size w wc))
  case first =>
   have H := HC4.out
   clear HC4
   by_cases c7 : a0_1 < 1
   ·rw [if_pos c7] at H
    have c7b0 : decide (a0_1 < 1) = true := decide_eq_true c7
    clear c7
    (first | rw [c7b0] | (simp only [i64_w, i32_w]; rw [c7b0]) | skip)
    have H' := Aside0.mk H
    clear H
    have hcz8_0 : w5.cell? ⟨gb107, 0, none⟩ = some (.string a0_0) := (blk_cell BK107.out 0).trans rfl
    have hcz8_1 : w5.cell? ⟨gb107, 1, none⟩ = some (.int .i64 a0_1) := (blk_cell BK107.out 1).trans rfl
    have hcz8_2 : w5.cell? ⟨gb107, 2, none⟩ = some (.bool a0_2) := (blk_cell BK107.out 2).trans rfl
    have hcz8_3 : w5.cell? ⟨gb107, 3, none⟩ = some (.int .i64 a0_3) := (blk_cell BK107.out 3).trans rfl
    have hcz8_4 : w5.cell? ⟨gb107, 4, none⟩ = some (.int .i64 a0_4) := (blk_cell BK107.out 4).trans rfl
    have hcz8_5 : w5.cell? ⟨gb107, 5, none⟩ = some (.int .i64 a0_5) := (blk_cell BK107.out 5).trans rfl
    have hfz8_0 := blk_frozen BK107.out 0
    have hfz8_1 := blk_frozen BK107.out 1
    have hfz8_2 := blk_frozen BK107.out 2
    have hfz8_3 := blk_frozen BK107.out 3
    have hfz8_4 := blk_frozen BK107.out 4
    have hfz8_5 := blk_frozen BK107.out 5
    go_wp2
    go_meet
    case rel => exact ⟨_, (true), (by first | rfl | (simp; done) | (simp [*]; done)), H', ⟨by first | omega | exact Nat.le_refl _⟩, ⟨by (with_reducible repeat (first | refine blk_drewN ?_ _ | refine blk_drew ?_ | refine blk_alloc ?_ _)); exact BK107.out⟩, ⟨by repeat (first | (with_reducible first | exact HB.out | apply below_alloc | apply pw_below_drewN | apply below_drew1 | refine below_set ?_ GE107.out) | exact HB.out)⟩⟩
   ·rw [if_neg c7] at H
    have c7b0 : decide (a0_1 < 1) = false := decide_eq_false c7
    clear c7
    (first | rw [c7b0] | (simp only [i64_w, i32_w]; rw [c7b0]) | skip)
    have H' := Aside0.mk H
    clear H
    have hcz9_0 : w5.cell? ⟨gb107, 0, none⟩ = some (.string a0_0) := (blk_cell BK107.out 0).trans rfl
    have hcz9_1 : w5.cell? ⟨gb107, 1, none⟩ = some (.int .i64 a0_1) := (blk_cell BK107.out 1).trans rfl
    have hcz9_2 : w5.cell? ⟨gb107, 2, none⟩ = some (.bool a0_2) := (blk_cell BK107.out 2).trans rfl
    have hcz9_3 : w5.cell? ⟨gb107, 3, none⟩ = some (.int .i64 a0_3) := (blk_cell BK107.out 3).trans rfl
    have hcz9_4 : w5.cell? ⟨gb107, 4, none⟩ = some (.int .i64 a0_4) := (blk_cell BK107.out 4).trans rfl
    have hcz9_5 : w5.cell? ⟨gb107, 5, none⟩ = some (.int .i64 a0_5) := (blk_cell BK107.out 5).trans rfl
    have hfz9_0 := blk_frozen BK107.out 0
    have hfz9_1 := blk_frozen BK107.out 1
    have hfz9_2 := blk_frozen BK107.out 2
    have hfz9_3 := blk_frozen BK107.out 3
    have hfz9_4 := blk_frozen BK107.out 4
    have hfz9_5 := blk_frozen BK107.out 5
    go_wp2
    go_meet
    case rel => exact ⟨_, (decide (a0_1 > 7)), (by first | rfl | (simp; done) | (simp [*]; done)), H', ⟨by first | omega | exact Nat.le_refl _⟩, ⟨by (with_reducible repeat (first | refine blk_drewN ?_ _ | refine blk_drew ?_ | refine blk_alloc ?_ _)); exact BK107.out⟩, ⟨by repeat (first | (with_reducible first | exact HB.out | apply below_alloc | apply pw_below_drewN | apply below_drew1 | refine below_set ?_ GE107.out) | exact HB.out)⟩⟩
  case rest =>
   clear HC4
   try clear p2
   try clear c3
   try clear c6
   try clear c7
   try clear c7b0
   try clear c8
   try clear hcz6_0
   try clear hcz6_1
   try clear hcz6_2
   try clear hcz6_3
   try clear hcz6_4
   try clear hcz6_5
   try clear hcz8_0
   try clear hcz8_1
   try clear hcz8_2
   try clear hcz8_3
   try clear hcz8_4
   try clear hcz8_5
   try clear hcz9_0
   try clear hcz9_1
   try clear hcz9_2
   try clear hcz9_3
   try clear hcz9_4
   try clear hcz9_5
   try clear hfz6_0
   try clear hfz6_1
   try clear hfz6_2
   try clear hfz6_3
   try clear hfz6_4
   try clear hfz6_5
   try clear hfz8_0
   try clear hfz8_1
   try clear hfz8_2
   try clear hfz8_3
   try clear hfz8_4
   try clear hfz8_5
   try clear hfz9_0
   try clear hfz9_1
   try clear hfz9_2
   try clear hfz9_3
   try clear hfz9_4
   try clear hfz9_5
   obtain ⟨kq, x14_3, rfl, HA, HJ3, BK107, HB⟩ := hcut
   cases kq with
   | zero => exact absurd HA.out (by simp [chicaneref09_Check.j0])
   | succ kj3 =>
    have H := HA.out
    clear HA
    simp only [chicaneref09_Check.j0] at H
    by_cases c10 : x14_3 = true
    ·subst c10
     have H1 : (some 91) = some r := by rw [if_pos rfl] at H; exact H
     clear H
     have H := H1
     clear H1
     obtain rfl := Option.some.inj H
     go_wp2
     go_ret
     exact ⟨by first | rfl | (simp [errW_none, errW_some] <;> rfl) | (simp [*, errW_none, errW_some] <;> rfl), by repeat (first | (with_reducible first | exact HB.out | apply below_alloc | apply pw_below_drewN | apply below_drew1 | refine below_set ?_ GE107.out) | exact HB.out)⟩
    ·replace c10 := Bool.eq_false_iff.mpr c10
     subst c10
     have H1 : (if a0_3 < 0 then (some 92) else (if a0_3 > 100 then (some 92) else ((chicaneref09_numbers.f kj3 a0_0 a0_1 a0_2 a0_3 a0_4 a0_5).bind fun t109 => (if t109 = true then (some 0) else (some 92))))) = some r := by rw [if_neg (show ¬ (false = true) by decide)] at H; exact H
     clear H
     have H := H1
     clear H1
     by_cases c11 : a0_3 < 0
     ·rw [if_pos c11] at H
      have c11b0 : decide (a0_3 < 0) = true := decide_eq_true c11
      clear c11
      obtain rfl := Option.some.inj H
      have hcz12_0 : wc.cell? ⟨gb107, 0, none⟩ = some (.string a0_0) := (blk_cell BK107.out 0).trans rfl
      have hcz12_1 : wc.cell? ⟨gb107, 1, none⟩ = some (.int .i64 a0_1) := (blk_cell BK107.out 1).trans rfl
      have hcz12_2 : wc.cell? ⟨gb107, 2, none⟩ = some (.bool a0_2) := (blk_cell BK107.out 2).trans rfl
      have hcz12_3 : wc.cell? ⟨gb107, 3, none⟩ = some (.int .i64 a0_3) := (blk_cell BK107.out 3).trans rfl
      have hcz12_4 : wc.cell? ⟨gb107, 4, none⟩ = some (.int .i64 a0_4) := (blk_cell BK107.out 4).trans rfl
      have hcz12_5 : wc.cell? ⟨gb107, 5, none⟩ = some (.int .i64 a0_5) := (blk_cell BK107.out 5).trans rfl
      have hfz12_0 := blk_frozen BK107.out 0
      have hfz12_1 := blk_frozen BK107.out 1
      have hfz12_2 := blk_frozen BK107.out 2
      have hfz12_3 := blk_frozen BK107.out 3
      have hfz12_4 := blk_frozen BK107.out 4
      have hfz12_5 := blk_frozen BK107.out 5
      go_wp2
      go_ret
      exact ⟨by first | rfl | (simp [errW_none, errW_some] <;> rfl) | (simp [*, errW_none, errW_some] <;> rfl), by repeat (first | (with_reducible first | exact HB.out | apply below_alloc | apply pw_below_drewN | apply below_drew1 | refine below_set ?_ GE107.out) | exact HB.out)⟩
     ·rw [if_neg c11] at H
      have c11b0 : decide (a0_3 < 0) = false := decide_eq_false c11
      clear c11
      by_cases c13 : a0_3 > 100
      ·rw [if_pos c13] at H
       have c13b0 : decide (100 < a0_3) = true := decide_eq_true c13
       clear c13
       obtain rfl := Option.some.inj H
       have hcz14_0 : wc.cell? ⟨gb107, 0, none⟩ = some (.string a0_0) := (blk_cell BK107.out 0).trans rfl
       have hcz14_1 : wc.cell? ⟨gb107, 1, none⟩ = some (.int .i64 a0_1) := (blk_cell BK107.out 1).trans rfl
       have hcz14_2 : wc.cell? ⟨gb107, 2, none⟩ = some (.bool a0_2) := (blk_cell BK107.out 2).trans rfl
       have hcz14_3 : wc.cell? ⟨gb107, 3, none⟩ = some (.int .i64 a0_3) := (blk_cell BK107.out 3).trans rfl
       have hcz14_4 : wc.cell? ⟨gb107, 4, none⟩ = some (.int .i64 a0_4) := (blk_cell BK107.out 4).trans rfl
       have hcz14_5 : wc.cell? ⟨gb107, 5, none⟩ = some (.int .i64 a0_5) := (blk_cell BK107.out 5).trans rfl
       have hfz14_0 := blk_frozen BK107.out 0
       have hfz14_1 := blk_frozen BK107.out 1
       have hfz14_2 := blk_frozen BK107.out 2
       have hfz14_3 := blk_frozen BK107.out 3
       have hfz14_4 := blk_frozen BK107.out 4
       have hfz14_5 := blk_frozen BK107.out 5
       go_wp2
       go_ret
       exact ⟨by first | rfl | (simp [errW_none, errW_some] <;> rfl) | (simp [*, errW_none, errW_some] <;> rfl), by repeat (first | (with_reducible first | exact HB.out | apply below_alloc | apply pw_below_drewN | apply below_drew1 | refine below_set ?_ GE107.out) | exact HB.out)⟩
      ·rw [if_neg c13] at H
       have c13b0 : decide (100 < a0_3) = false := decide_eq_false c13
       clear c13
       replace H := Option.bind_eq_some_iff.mp H
       obtain ⟨t109, A150, H⟩ := H
       replace H : (if t109 = true then (some 0) else (some 92)) = some r := H
       have A15 := Aside0.mk A150
       clear A150
       by_cases c16 : t109 = true
       ·subst c16
        have H1 : (some 0) = some r := by rw [if_pos rfl] at H; exact H
        clear H
        have H := H1
        clear H1
        obtain rfl := Option.some.inj H
        have hcz17_0 : wc.cell? ⟨gb107, 0, none⟩ = some (.string a0_0) := (blk_cell BK107.out 0).trans rfl
        have hcz17_1 : wc.cell? ⟨gb107, 1, none⟩ = some (.int .i64 a0_1) := (blk_cell BK107.out 1).trans rfl
        have hcz17_2 : wc.cell? ⟨gb107, 2, none⟩ = some (.bool a0_2) := (blk_cell BK107.out 2).trans rfl
        have hcz17_3 : wc.cell? ⟨gb107, 3, none⟩ = some (.int .i64 a0_3) := (blk_cell BK107.out 3).trans rfl
        have hcz17_4 : wc.cell? ⟨gb107, 4, none⟩ = some (.int .i64 a0_4) := (blk_cell BK107.out 4).trans rfl
        have hcz17_5 : wc.cell? ⟨gb107, 5, none⟩ = some (.int .i64 a0_5) := (blk_cell BK107.out 5).trans rfl
        have hfz17_0 := blk_frozen BK107.out 0
        have hfz17_1 := blk_frozen BK107.out 1
        have hfz17_2 := blk_frozen BK107.out 2
        have hfz17_3 := blk_frozen BK107.out 3
        have hfz17_4 := blk_frozen BK107.out 4
        have hfz17_5 := blk_frozen BK107.out 5
        go_wp2_with (first | (go_at_call 88; (with_reducible refine (chicaneref09_numbers.calls kj3 a0_0 a0_1 a0_2 a0_3 a0_4 a0_5 true _ A15.out).mono ?_); rintro e w18 ⟨rfl, hb⟩; have n0_ := Aside0.mk (blk_below (g := gb107) (o := .cells #[.string a0_0, .int .i64 a0_1, .bool a0_2, .int .i64 a0_3, .int .i64 a0_4, .int .i64 a0_5] 25 (0, 0)) (by (with_reducible repeat (first | refine blk_drewN ?_ _ | refine blk_drew ?_ | refine blk_alloc ?_ _)); exact BK107.out) hb); have n1_ := Aside0.mk (below_step (by repeat (first | (with_reducible first | exact HB.out | apply below_alloc | apply pw_below_drewN | apply below_drew1 | refine below_set ?_ GE107.out) | exact HB.out)) hb); clear BK107; clear HB; have BK107 := n0_; have HB := n1_; clear n0_ n1_; (try clear hb); (try clear hb2); (try clear hk); (try clear hi)))
        go_ret
        exact ⟨by first | rfl | (simp [errW_none, errW_some] <;> rfl) | (simp [*, errW_none, errW_some] <;> rfl), by repeat (first | (with_reducible first | exact HB.out | apply below_alloc | apply pw_below_drewN | apply below_drew1 | refine below_set ?_ GE107.out) | exact HB.out)⟩
       ·replace c16 := Bool.eq_false_iff.mpr c16
        subst c16
        have H1 : (some 92) = some r := by rw [if_neg (show ¬ (false = true) by decide)] at H; exact H
        clear H
        have H := H1
        clear H1
        obtain rfl := Option.some.inj H
        have hcz19_0 : wc.cell? ⟨gb107, 0, none⟩ = some (.string a0_0) := (blk_cell BK107.out 0).trans rfl
        have hcz19_1 : wc.cell? ⟨gb107, 1, none⟩ = some (.int .i64 a0_1) := (blk_cell BK107.out 1).trans rfl
        have hcz19_2 : wc.cell? ⟨gb107, 2, none⟩ = some (.bool a0_2) := (blk_cell BK107.out 2).trans rfl
        have hcz19_3 : wc.cell? ⟨gb107, 3, none⟩ = some (.int .i64 a0_3) := (blk_cell BK107.out 3).trans rfl
        have hcz19_4 : wc.cell? ⟨gb107, 4, none⟩ = some (.int .i64 a0_4) := (blk_cell BK107.out 4).trans rfl
        have hcz19_5 : wc.cell? ⟨gb107, 5, none⟩ = some (.int .i64 a0_5) := (blk_cell BK107.out 5).trans rfl
        have hfz19_0 := blk_frozen BK107.out 0
        have hfz19_1 := blk_frozen BK107.out 1
        have hfz19_2 := blk_frozen BK107.out 2
        have hfz19_3 := blk_frozen BK107.out 3
        have hfz19_4 := blk_frozen BK107.out 4
        have hfz19_5 := blk_frozen BK107.out 5
        go_wp2_with (first | (go_at_call 88; (with_reducible refine (chicaneref09_numbers.calls kj3 a0_0 a0_1 a0_2 a0_3 a0_4 a0_5 false _ A15.out).mono ?_); rintro e w20 ⟨rfl, hb⟩; have n0_ := Aside0.mk (blk_below (g := gb107) (o := .cells #[.string a0_0, .int .i64 a0_1, .bool a0_2, .int .i64 a0_3, .int .i64 a0_4, .int .i64 a0_5] 25 (0, 0)) (by (with_reducible repeat (first | refine blk_drewN ?_ _ | refine blk_drew ?_ | refine blk_alloc ?_ _)); exact BK107.out) hb); have n1_ := Aside0.mk (below_step (by repeat (first | (with_reducible first | exact HB.out | apply below_alloc | apply pw_below_drewN | apply below_drew1 | refine below_set ?_ GE107.out) | exact HB.out)) hb); clear BK107; clear HB; have BK107 := n0_; have HB := n1_; clear n0_ n1_; (try clear hb); (try clear hb2); (try clear hk); (try clear hi)))
        go_ret
        exact ⟨by first | rfl | (simp [errW_none, errW_some] <;> rfl) | (simp [*, errW_none, errW_some] <;> rfl), by repeat (first | (with_reducible first | exact HB.out | apply below_alloc | apply pw_below_drewN | apply below_drew1 | refine below_set ?_ GE107.out) | exact HB.out)⟩
 ·replace c3 := Bool.eq_false_iff.mpr c3
  subst c3
  have H1 : (some 90) = some r := by rw [if_neg (show ¬ (false = true) by decide)] at H; exact H
  clear H
  have H := H1
  clear H1
  obtain rfl := Option.some.inj H
  go_enter Tryz.func62, Tryz.ntmps62
  go_wp2_with (first | ((with_reducible refine gate_dst (N := 1) rfl ?_); refine box_event ?hg (N := 1) ?hd (cs := #[.string a0_0, .int .i64 a0_1, .bool a0_2, .int .i64 a0_3, .int .i64 a0_4, .int .i64 a0_5]) (t := 25) ?hr ?_; (case hd => rfl); (case hg => rfl); (case hr => first | (go_simp; done) | (go_simp; rfl)); intro gb107 hg w21 hbox hb; have n0_ := Aside0.mk (below_step (by repeat (first | (with_reducible first | exact HB.out | apply below_alloc | apply pw_below_drewN | apply below_drew1) | exact HB.out)) hb); have n1_ := Aside0.mk (hbox); have n2_ := Aside0.mk ((by rw [hg]; exact (below_size (by repeat (first | (with_reducible first | exact HB.out | apply below_alloc | apply pw_below_drewN | apply below_drew1) | exact HB.out))) : w.heap.size ≤ gb107)); have n3_ := Aside0.mk ((by rw [hg]; exact (below_size (by repeat (first | (with_reducible first | exact HB.out | apply below_alloc | apply pw_below_drewN | apply below_drew1) | exact HB.out))) : w.heap.size ≤ gb107)); clear HB; have HB := n0_; have BK107 := n1_; have GW107 := n2_; have GE107 := n3_; clear n0_ n1_ n2_ n3_; clear hb hbox hg; have hcz22_0 : w21.cell? ⟨gb107, 0, none⟩ = some (.string a0_0) := (blk_cell BK107.out 0).trans rfl; have hcz22_1 : w21.cell? ⟨gb107, 1, none⟩ = some (.int .i64 a0_1) := (blk_cell BK107.out 1).trans rfl; have hcz22_2 : w21.cell? ⟨gb107, 2, none⟩ = some (.bool a0_2) := (blk_cell BK107.out 2).trans rfl; have hcz22_3 : w21.cell? ⟨gb107, 3, none⟩ = some (.int .i64 a0_3) := (blk_cell BK107.out 3).trans rfl; have hcz22_4 : w21.cell? ⟨gb107, 4, none⟩ = some (.int .i64 a0_4) := (blk_cell BK107.out 4).trans rfl; have hcz22_5 : w21.cell? ⟨gb107, 5, none⟩ = some (.int .i64 a0_5) := (blk_cell BK107.out 5).trans rfl; have hfz22_0 := blk_frozen BK107.out 0; have hfz22_1 := blk_frozen BK107.out 1; have hfz22_2 := blk_frozen BK107.out 2; have hfz22_3 := blk_frozen BK107.out 3; have hfz22_4 := blk_frozen BK107.out 4; have hfz22_5 := blk_frozen BK107.out 5) | ((with_reducible refine gate_callee (f := 87) rfl ?_); refine goesL_ (some 5) rfl rfl Tryz.func87 (by kernel_rfl) rfl #[.string a0_0] rfl (by (try simp only [List.map_toArray, List.map_cons, List.map_nil]); first | done | rfl | (simp only [List.length_drop, List.length_take]; rfl)) ?_; (with_reducible refine (chicaneref09_Name.calls k a0_0 false _ A2.out).mono ?_); rintro e w' ⟨rfl, ⟨nd, rfl⟩⟩; refine ⟨_, rfl, ?_⟩))
  go_ret
  exact ⟨by first | rfl | (simp [errW_none, errW_some] <;> rfl) | (simp [*, errW_none, errW_some] <;> rfl), by repeat (first | (with_reducible first | exact HB.out | apply below_alloc | apply pw_below_drewN | apply below_drew1 | refine below_set ?_ GE107.out) | exact HB.out)⟩
def chicaneref09_Word.f (a0 : Int) : Option (ByteArray) := if a0 = 1 then (some (⟨#[108, 97, 116, 101, 110, 99, 121]⟩ : ByteArray)) else (if a0 = 2 then (some (⟨#[98, 97, 110, 100, 119, 105, 100, 116, 104]⟩ : ByteArray)) else (if a0 = 3 then (some (⟨#[115, 108, 105, 99, 101, 114]⟩ : ByteArray)) else (if a0 = 4 then (some (⟨#[116, 105, 109, 101, 111, 117, 116]⟩ : ByteArray)) else (if a0 = 5 then (some (⟨#[114, 101, 115, 101, 116, 95, 112, 101, 101, 114]⟩ : ByteArray)) else (if a0 = 6 then (some (⟨#[108, 105, 109, 105, 116, 95, 100, 97, 116, 97]⟩ : ByteArray)) else (if a0 = 7 then (some (⟨#[115, 108, 111, 119, 95, 99, 108, 111, 115, 101]⟩ : ByteArray)) else (some (⟨#[]⟩ : ByteArray))))))))
set_option maxHeartbeats 8000000 in
set_option maxRecDepth 100000 in
theorem chicaneref09_Word.calls (a0 : Int) (r : ByteArray) (w : World) (h : chicaneref09_Word.f a0 = some r) :
  Calls Tryz.prog 63 #[.int .i64 a0] w fun e w' => e = .returned (.string r) ∧ Drawn0 w w' := by
 have H : (if a0 = 1 then (some (⟨#[108, 97, 116, 101, 110, 99, 121]⟩ : ByteArray)) else (if a0 = 2 then (some (⟨#[98, 97, 110, 100, 119, 105, 100, 116, 104]⟩ : ByteArray)) else (if a0 = 3 then (some (⟨#[115, 108, 105, 99, 101, 114]⟩ : ByteArray)) else (if a0 = 4 then (some (⟨#[116, 105, 109, 101, 111, 117, 116]⟩ : ByteArray)) else (if a0 = 5 then (some (⟨#[114, 101, 115, 101, 116, 95, 112, 101, 101, 114]⟩ : ByteArray)) else (if a0 = 6 then (some (⟨#[108, 105, 109, 105, 116, 95, 100, 97, 116, 97]⟩ : ByteArray)) else (if a0 = 7 then (some (⟨#[115, 108, 111, 119, 95, 99, 108, 111, 115, 101]⟩ : ByteArray)) else (some (⟨#[]⟩ : ByteArray))))))))) = some r := h
 clear h
 by_cases c2 : a0 = 1
 ·rw [if_pos c2] at H
  have c2b0 : (a0 == 1) = true := beq_iff_eq.mpr c2
  have c2b1 : (a0 != 1) = false := bne_eq_false_iff_eq.mpr c2
  clear c2
  obtain rfl := Option.some.inj H
  go_enter Tryz.func63, Tryz.ntmps63
  go_wp2
  go_ret
  exact ⟨by first | rfl | (simp; done) | (simp [*]; done), by repeat (first | exact Drawn0.refl _ | apply Drawn0.step)⟩
 ·rw [if_neg c2] at H
  have c2b0 : (a0 == 1) = false := beq_eq_false_iff_ne.mpr c2
  have c2b1 : (a0 != 1) = true := bne_iff_ne.mpr c2
  by_cases c3 : a0 = 2
  ·rw [if_pos c3] at H
   have c3b0 : (a0 == 2) = true := beq_iff_eq.mpr c3
   have c3b1 : (a0 != 2) = false := bne_eq_false_iff_eq.mpr c3
   clear c3
   obtain rfl := Option.some.inj H
   go_enter Tryz.func63, Tryz.ntmps63
   go_wp2
   go_ret
   exact ⟨by first | rfl | (simp; done) | (simp [*]; done), by repeat (first | exact Drawn0.refl _ | apply Drawn0.step)⟩
  ·rw [if_neg c3] at H
   have c3b0 : (a0 == 2) = false := beq_eq_false_iff_ne.mpr c3
   have c3b1 : (a0 != 2) = true := bne_iff_ne.mpr c3
   by_cases c4 : a0 = 3
   ·rw [if_pos c4] at H
    have c4b0 : (a0 == 3) = true := beq_iff_eq.mpr c4
    have c4b1 : (a0 != 3) = false := bne_eq_false_iff_eq.mpr c4
    clear c4
    obtain rfl := Option.some.inj H
    go_enter Tryz.func63, Tryz.ntmps63
    go_wp2
    go_ret
    exact ⟨by first | rfl | (simp; done) | (simp [*]; done), by repeat (first | exact Drawn0.refl _ | apply Drawn0.step)⟩
   ·rw [if_neg c4] at H
    have c4b0 : (a0 == 3) = false := beq_eq_false_iff_ne.mpr c4
    have c4b1 : (a0 != 3) = true := bne_iff_ne.mpr c4
    by_cases c5 : a0 = 4
    ·rw [if_pos c5] at H
     have c5b0 : (a0 == 4) = true := beq_iff_eq.mpr c5
     have c5b1 : (a0 != 4) = false := bne_eq_false_iff_eq.mpr c5
     clear c5
     obtain rfl := Option.some.inj H
     go_enter Tryz.func63, Tryz.ntmps63
     go_wp2
     go_ret
     exact ⟨by first | rfl | (simp; done) | (simp [*]; done), by repeat (first | exact Drawn0.refl _ | apply Drawn0.step)⟩
    ·rw [if_neg c5] at H
     have c5b0 : (a0 == 4) = false := beq_eq_false_iff_ne.mpr c5
     have c5b1 : (a0 != 4) = true := bne_iff_ne.mpr c5
     by_cases c6 : a0 = 5
     ·rw [if_pos c6] at H
      have c6b0 : (a0 == 5) = true := beq_iff_eq.mpr c6
      have c6b1 : (a0 != 5) = false := bne_eq_false_iff_eq.mpr c6
      clear c6
      obtain rfl := Option.some.inj H
      go_enter Tryz.func63, Tryz.ntmps63
      go_wp2
      go_ret
      exact ⟨by first | rfl | (simp; done) | (simp [*]; done), by repeat (first | exact Drawn0.refl _ | apply Drawn0.step)⟩
     ·rw [if_neg c6] at H
      have c6b0 : (a0 == 5) = false := beq_eq_false_iff_ne.mpr c6
      have c6b1 : (a0 != 5) = true := bne_iff_ne.mpr c6
      by_cases c7 : a0 = 6
      ·rw [if_pos c7] at H
       have c7b0 : (a0 == 6) = true := beq_iff_eq.mpr c7
       have c7b1 : (a0 != 6) = false := bne_eq_false_iff_eq.mpr c7
       clear c7
       obtain rfl := Option.some.inj H
       go_enter Tryz.func63, Tryz.ntmps63
       go_wp2
       go_ret
       exact ⟨by first | rfl | (simp; done) | (simp [*]; done), by repeat (first | exact Drawn0.refl _ | apply Drawn0.step)⟩
      ·rw [if_neg c7] at H
       have c7b0 : (a0 == 6) = false := beq_eq_false_iff_ne.mpr c7
       have c7b1 : (a0 != 6) = true := bne_iff_ne.mpr c7
       by_cases c8 : a0 = 7
       ·rw [if_pos c8] at H
        have c8b0 : (a0 == 7) = true := beq_iff_eq.mpr c8
        have c8b1 : (a0 != 7) = false := bne_eq_false_iff_eq.mpr c8
        clear c8
        obtain rfl := Option.some.inj H
        go_enter Tryz.func63, Tryz.ntmps63
        go_wp2
        go_ret
        exact ⟨by first | rfl | (simp; done) | (simp [*]; done), by repeat (first | exact Drawn0.refl _ | apply Drawn0.step)⟩
       ·rw [if_neg c8] at H
        have c8b0 : (a0 == 7) = false := beq_eq_false_iff_ne.mpr c8
        have c8b1 : (a0 != 7) = true := bne_iff_ne.mpr c8
        obtain rfl := Option.some.inj H
        go_enter Tryz.func63, Tryz.ntmps63
        go_wp2
        go_ret
        exact ⟨by first | rfl | (simp; done) | (simp [*]; done), by repeat (first | exact Drawn0.refl _ | apply Drawn0.step)⟩
def chicaneref01_Text.l0 : Nat → Int → ByteArray → Option (ByteArray)
 | 0, _, _ => none
 | k + 1, x0, x3 => if x0 > 0 then (if 0 ≤ (Int.tmod x0 10) then (if (Int.tmod x0 10) ≤ (wrap64 ((Int.tmod x0 10) + 1)) then (if (wrap64 ((Int.tmod x0 10) + 1)) ≤ 10 then (if ((⟨#[48, 49, 50, 51, 52, 53, 54, 55, 56, 57]⟩ : ByteArray).extract ((Int.tmod x0 10) : Int).toNat ((wrap64 ((Int.tmod x0 10) + 1)) : Int).toNat).size + x3.size ≤ 9223372036854775807 then (chicaneref01_Text.l0 k (wrap64 (Int.tdiv x0 10)) (((⟨#[48, 49, 50, 51, 52, 53, 54, 55, 56, 57]⟩ : ByteArray).extract ((Int.tmod x0 10) : Int).toNat ((wrap64 ((Int.tmod x0 10) + 1)) : Int).toNat) ++ x3)) else (none)) else (none)) else (none)) else (none)) else (if x3.toList = ([] : List UInt8) then (if 0 ≤ (Int.tmod x0 10) then (if (Int.tmod x0 10) ≤ (wrap64 ((Int.tmod x0 10) + 1)) then (if (wrap64 ((Int.tmod x0 10) + 1)) ≤ 10 then (if ((⟨#[48, 49, 50, 51, 52, 53, 54, 55, 56, 57]⟩ : ByteArray).extract ((Int.tmod x0 10) : Int).toNat ((wrap64 ((Int.tmod x0 10) + 1)) : Int).toNat).size + x3.size ≤ 9223372036854775807 then (chicaneref01_Text.l0 k (wrap64 (Int.tdiv x0 10)) (((⟨#[48, 49, 50, 51, 52, 53, 54, 55, 56, 57]⟩ : ByteArray).extract ((Int.tmod x0 10) : Int).toNat ((wrap64 ((Int.tmod x0 10) + 1)) : Int).toNat) ++ x3)) else (none)) else (none)) else (none)) else (none)) else (some x3))
def chicaneref01_Text.f (k : Nat) (a0 : Int) : Option (ByteArray) := (chicaneref01_Near.f a0).bind fun t110 => (chicaneref01_Text.l0 k t110 (⟨#[]⟩ : ByteArray))
set_option maxHeartbeats 8000000 in
set_option maxRecDepth 100000 in
theorem chicaneref01_Text.calls (k : Nat) (a0 : Int) (r : ByteArray) (w : World) (h : chicaneref01_Text.f k a0 = some r) :
  Calls Tryz.prog 38 #[.int .i64 a0] w fun e w' => e = .returned (.string r) ∧ Drawn0 w w' := by
 have H : ((chicaneref01_Near.f a0).bind fun t110 => (chicaneref01_Text.l0 k t110 (⟨#[]⟩ : ByteArray))) = some r := h
 clear h
 replace H := Option.bind_eq_some_iff.mp H
 obtain ⟨t110, A20, H⟩ := H
 replace H : (chicaneref01_Text.l0 k t110 (⟨#[]⟩ : ByteArray)) = some r := H
 have A2 := Aside0.mk A20
 clear A20
 have H' := Aside0.mk H
 clear H
 go_enter Tryz.func38, Tryz.ntmps38
 go_wp2_with (first | ((with_reducible refine gate_callee (f := 43) rfl ?_); refine goesL_ (some 5) rfl rfl Tryz.func43 (by kernel_rfl) rfl #[.int .i64 a0] rfl (by (try simp only [List.map_toArray, List.map_cons, List.map_nil]); first | done | rfl | (simp only [List.length_drop, List.length_take]; rfl)) ?_; (with_reducible refine (chicaneref01_Near.calls a0 t110 _ A2.out).mono ?_); rintro e w' ⟨rfl, ⟨nd, rfl⟩⟩; refine ⟨_, rfl, ?_⟩))
 go_loopg [0, 3] k (fun kq v0 v3 w' => ∃ (x0_1 : Int) (x3_1 : ByteArray), v0 = .int .i64 x0_1 ∧ v3 = .string x3_1 ∧ Aside0 (chicaneref01_Text.l0 kq x0_1 x3_1 = some r) ∧ Aside0 (kq ≤ k) ∧ Drawn0 w w')
 case atStart => exact ⟨(t110), ((⟨#[]⟩ : ByteArray)), (by first | rfl | (simp; done) | (simp [*]; done)), (by first | rfl | (simp; done) | (simp [*]; done)), H', ⟨Nat.le_refl _⟩, by repeat (first | exact Drawn0.refl _ | apply Drawn0.step)⟩
 case round =>
  clear H'
  try clear p2
  obtain ⟨x0_1, x3_1, rfl, rfl, HA, HK1, ⟨m1, rfl⟩⟩ := hrel
  cases gk with
  | zero => exact absurd HA.out (by simp [chicaneref01_Text.l0])
  | succ k1 =>
   have H := HA.out
   clear HA
   simp only [chicaneref01_Text.l0] at H
   by_cases c3 : x0_1 > 0
   ·rw [if_pos c3] at H
    have c3b0 : decide (0 < x0_1) = true := decide_eq_true c3
    clear c3
    obtain ⟨ji4, hji4⟩ : ∃ j_ : Int, (Int.tmod x0_1 10) = j_ := ⟨_, rfl⟩
    replace H : (if 0 ≤ (ji4) then (if (ji4) ≤ (wrap64 ((ji4) + 1)) then (if (wrap64 ((ji4) + 1)) ≤ 10 then (if ((⟨#[48, 49, 50, 51, 52, 53, 54, 55, 56, 57]⟩ : ByteArray).extract ((ji4) : Int).toNat ((wrap64 ((ji4) + 1)) : Int).toNat).size + x3_1.size ≤ 9223372036854775807 then (chicaneref01_Text.l0 k1 (wrap64 (Int.tdiv x0_1 10)) (((⟨#[48, 49, 50, 51, 52, 53, 54, 55, 56, 57]⟩ : ByteArray).extract ((ji4) : Int).toNat ((wrap64 ((ji4) + 1)) : Int).toNat) ++ x3_1)) else (none)) else (none)) else (none)) else (none)) = some r := by first | (rw [hji4] at H; exact H) | (simp only [hji4] at H ⊢; exact H)
    by_cases c5 : 0 ≤ (ji4)
    ·rw [if_pos c5] at H
     have c5b0 := eq_true c5
     have c5b1 : decide (0 ≤ (ji4)) = true := decide_eq_true c5
     clear c5
     by_cases c6 : (ji4) ≤ (wrap64 ((ji4) + 1))
     ·rw [if_pos c6] at H
      have c6b0 := eq_true c6
      have c6b1 : decide ((ji4) ≤ (wrap64 ((ji4) + 1))) = true := decide_eq_true c6
      by_cases c7 : (wrap64 ((ji4) + 1)) ≤ 10
      ·rw [if_pos c7] at H
       have c7b0 := eq_true c7
       have c7b1 : decide ((wrap64 ((ji4) + 1)) ≤ 10) = true := decide_eq_true c7
       by_cases c8 : ((⟨#[48, 49, 50, 51, 52, 53, 54, 55, 56, 57]⟩ : ByteArray).extract ((ji4) : Int).toNat ((wrap64 ((ji4) + 1)) : Int).toNat).size + x3_1.size ≤ 9223372036854775807
       ·rw [if_pos c8] at H
        have c8b0 := eq_true c8
        have c8b1 : decide (((⟨#[48, 49, 50, 51, 52, 53, 54, 55, 56, 57]⟩ : ByteArray).extract ((ji4) : Int).toNat ((wrap64 ((ji4) + 1)) : Int).toNat).size + x3_1.size ≤ 9223372036854775807) = true := decide_eq_true c8
        try have c8b2 : (9223372036854775807 < ((⟨#[48, 49, 50, 51, 52, 53, 54, 55, 56, 57]⟩ : ByteArray).extract ((ji4) : Int).toNat ((wrap64 ((ji4) + 1)) : Int).toNat).size + x3_1.size) = False := eq_false (Nat.not_lt.2 c8)
        have H' := Aside0.mk H
        clear H
        go_wp2
        go_roundg k1
        case measure => have := HK1.out; omega
        case rel => exact ⟨(wrap64 (Int.tdiv x0_1 10)), (((⟨#[48, 49, 50, 51, 52, 53, 54, 55, 56, 57]⟩ : ByteArray).extract ((ji4) : Int).toNat ((wrap64 ((ji4) + 1)) : Int).toNat) ++ x3_1), (by first | rfl | (simp; done) | (simp [*]; done)), (by first | rfl | (simp; done) | (simp only [← hji4] <;> (first | rfl | simp)) | (simp [*]; done)), H', ⟨by have := HK1.out; omega⟩, by repeat (first | exact Drawn0.refl _ | apply Drawn0.step)⟩
       ·rw [if_neg c8] at H
        exact absurd H (by simp)
      ·rw [if_neg c7] at H
       exact absurd H (by simp)
     ·rw [if_neg c6] at H
      exact absurd H (by simp)
    ·rw [if_neg c5] at H
     exact absurd H (by simp)
   ·rw [if_neg c3] at H
    have c3b0 : decide (0 < x0_1) = false := decide_eq_false c3
    clear c3
    by_cases c9 : x3_1.toList = ([] : List UInt8)
    ·rw [if_pos c9] at H
     have c9b0 : (x3_1.toList == ([] : List UInt8)) = true := beq_iff_eq.mpr c9
     have c9b1 : (x3_1.toList != ([] : List UInt8)) = false := bne_eq_false_iff_eq.mpr c9
     clear c9
     obtain ⟨ji10, hji10⟩ : ∃ j_ : Int, (Int.tmod x0_1 10) = j_ := ⟨_, rfl⟩
     replace H : (if 0 ≤ (ji10) then (if (ji10) ≤ (wrap64 ((ji10) + 1)) then (if (wrap64 ((ji10) + 1)) ≤ 10 then (if ((⟨#[48, 49, 50, 51, 52, 53, 54, 55, 56, 57]⟩ : ByteArray).extract ((ji10) : Int).toNat ((wrap64 ((ji10) + 1)) : Int).toNat).size + x3_1.size ≤ 9223372036854775807 then (chicaneref01_Text.l0 k1 (wrap64 (Int.tdiv x0_1 10)) (((⟨#[48, 49, 50, 51, 52, 53, 54, 55, 56, 57]⟩ : ByteArray).extract ((ji10) : Int).toNat ((wrap64 ((ji10) + 1)) : Int).toNat) ++ x3_1)) else (none)) else (none)) else (none)) else (none)) = some r := by first | (rw [hji10] at H; exact H) | (simp only [hji10] at H ⊢; exact H)
     by_cases c11 : 0 ≤ (ji10)
     ·rw [if_pos c11] at H
      have c11b0 := eq_true c11
      have c11b1 : decide (0 ≤ (ji10)) = true := decide_eq_true c11
      clear c11
      by_cases c12 : (ji10) ≤ (wrap64 ((ji10) + 1))
      ·rw [if_pos c12] at H
       have c12b0 := eq_true c12
       have c12b1 : decide ((ji10) ≤ (wrap64 ((ji10) + 1))) = true := decide_eq_true c12
       by_cases c13 : (wrap64 ((ji10) + 1)) ≤ 10
       ·rw [if_pos c13] at H
        have c13b0 := eq_true c13
        have c13b1 : decide ((wrap64 ((ji10) + 1)) ≤ 10) = true := decide_eq_true c13
        by_cases c14 : ((⟨#[48, 49, 50, 51, 52, 53, 54, 55, 56, 57]⟩ : ByteArray).extract ((ji10) : Int).toNat ((wrap64 ((ji10) + 1)) : Int).toNat).size + x3_1.size ≤ 9223372036854775807
        ·rw [if_pos c14] at H
         have c14b0 := eq_true c14
         have c14b1 : decide (((⟨#[48, 49, 50, 51, 52, 53, 54, 55, 56, 57]⟩ : ByteArray).extract ((ji10) : Int).toNat ((wrap64 ((ji10) + 1)) : Int).toNat).size + x3_1.size ≤ 9223372036854775807) = true := decide_eq_true c14
         try have c14b2 : (9223372036854775807 < ((⟨#[48, 49, 50, 51, 52, 53, 54, 55, 56, 57]⟩ : ByteArray).extract ((ji10) : Int).toNat ((wrap64 ((ji10) + 1)) : Int).toNat).size + x3_1.size) = False := eq_false (Nat.not_lt.2 c14)
         have H' := Aside0.mk H
         clear H
         go_wp2
         go_roundg k1
         case measure => have := HK1.out; omega
         case rel => exact ⟨(wrap64 (Int.tdiv x0_1 10)), (((⟨#[48, 49, 50, 51, 52, 53, 54, 55, 56, 57]⟩ : ByteArray).extract ((ji10) : Int).toNat ((wrap64 ((ji10) + 1)) : Int).toNat) ++ x3_1), (by first | rfl | (simp; done) | (simp [*]; done)), (by first | rfl | (simp; done) | (simp only [← hji10] <;> (first | rfl | simp)) | (simp [*]; done)), H', ⟨by have := HK1.out; omega⟩, by repeat (first | exact Drawn0.refl _ | apply Drawn0.step)⟩
        ·rw [if_neg c14] at H
         exact absurd H (by simp)
       ·rw [if_neg c13] at H
        exact absurd H (by simp)
      ·rw [if_neg c12] at H
       exact absurd H (by simp)
     ·rw [if_neg c11] at H
      exact absurd H (by simp)
    ·rw [if_neg c9] at H
     have c9b0 : (x3_1.toList == ([] : List UInt8)) = false := beq_eq_false_iff_ne.mpr c9
     have c9b1 : (x3_1.toList != ([] : List UInt8)) = true := bne_iff_ne.mpr c9
     obtain rfl := Option.some.inj H
     go_wp2
     go_ret
     exact ⟨by first | rfl | (simp; done) | (simp [*]; done), by repeat (first | exact Drawn0.refl _ | apply Drawn0.step)⟩
def chicaneref09_Kind.l0 : Nat → ByteArray → Int → Option (Int)
 | 0, _, _ => none
 | k + 1, x0, x3 => if x3 ≤ 7 then ((chicaneref09_Word.f x3).bind fun t111 => (if t111.toList = x0.toList then (some x3) else (chicaneref09_Kind.l0 k x0 (wrap64 (x3 + 1))))) else (some 0)
def chicaneref09_Kind.f (k : Nat) (a0 : ByteArray) : Option (Int) := chicaneref09_Kind.l0 k a0 1
set_option maxHeartbeats 8000000 in
set_option maxRecDepth 100000 in
theorem chicaneref09_Kind.calls (k : Nat) (a0 : ByteArray) (r : Int) (w : World) (h : chicaneref09_Kind.f k a0 = some r) :
  Calls Tryz.prog 81 #[.string a0] w fun e w' => e = .returned (.int .i64 r) ∧ Drawn0 w w' := by
 have H : (chicaneref09_Kind.l0 k a0 1) = some r := h
 clear h
 have H' := Aside0.mk H
 clear H
 go_enter Tryz.func81, Tryz.ntmps81
 go_wp2
 go_loopg [3] k (fun kq v3 w' => ∃ (x3_1 : Int), v3 = .int .i64 x3_1 ∧ Aside0 (chicaneref09_Kind.l0 kq a0 x3_1 = some r) ∧ Aside0 (kq ≤ k) ∧ Drawn0 w w')
 case atStart => exact ⟨(1), (by first | rfl | (simp; done) | (simp [*]; done)), H', ⟨Nat.le_refl _⟩, by repeat (first | exact Drawn0.refl _ | apply Drawn0.step)⟩
 case round =>
  clear H'
  obtain ⟨x3_1, rfl, HA, HK1, ⟨m1, rfl⟩⟩ := hrel
  cases gk with
  | zero => exact absurd HA.out (by simp [chicaneref09_Kind.l0])
  | succ k1 =>
   have H := HA.out
   clear HA
   simp only [chicaneref09_Kind.l0] at H
   by_cases c2 : x3_1 ≤ 7
   ·rw [if_pos c2] at H
    have c2b0 : decide (x3_1 ≤ 7) = true := decide_eq_true c2
    clear c2
    replace H := Option.bind_eq_some_iff.mp H
    obtain ⟨t111, A30, H⟩ := H
    replace H : (if t111.toList = a0.toList then (some x3_1) else (chicaneref09_Kind.l0 k1 a0 (wrap64 (x3_1 + 1)))) = some r := H
    have A3 := Aside0.mk A30
    clear A30
    by_cases c4 : t111.toList = a0.toList
    ·rw [if_pos c4] at H
     have c4b0 : (t111.toList == a0.toList) = true := beq_iff_eq.mpr c4
     have c4b1 : (t111.toList != a0.toList) = false := bne_eq_false_iff_eq.mpr c4
     clear c4
     obtain rfl := Option.some.inj H
     go_wp2_with (first | ((with_reducible refine gate_callee (f := 63) rfl ?_); refine goesL_ (some 9) rfl rfl Tryz.func63 (by kernel_rfl) rfl #[.int .i64 x3_1] rfl (by (try simp only [List.map_toArray, List.map_cons, List.map_nil]); first | done | rfl | (simp only [List.length_drop, List.length_take]; rfl)) ?_; (with_reducible refine (chicaneref09_Word.calls x3_1 t111 _ A3.out).mono ?_); rintro e w' ⟨rfl, ⟨nd, rfl⟩⟩; refine ⟨_, rfl, ?_⟩))
     go_ret
     exact ⟨by first | rfl | (simp; done) | (simp [*]; done), by repeat (first | exact Drawn0.refl _ | apply Drawn0.step)⟩
    ·rw [if_neg c4] at H
     have c4b0 : (t111.toList == a0.toList) = false := beq_eq_false_iff_ne.mpr c4
     have c4b1 : (t111.toList != a0.toList) = true := bne_iff_ne.mpr c4
     have H' := Aside0.mk H
     clear H
     go_wp2_with (first | ((with_reducible refine gate_callee (f := 63) rfl ?_); refine goesL_ (some 9) rfl rfl Tryz.func63 (by kernel_rfl) rfl #[.int .i64 x3_1] rfl (by (try simp only [List.map_toArray, List.map_cons, List.map_nil]); first | done | rfl | (simp only [List.length_drop, List.length_take]; rfl)) ?_; (with_reducible refine (chicaneref09_Word.calls x3_1 t111 _ A3.out).mono ?_); rintro e w' ⟨rfl, ⟨nd, rfl⟩⟩; refine ⟨_, rfl, ?_⟩))
     go_roundg k1
     case measure => have := HK1.out; omega
     case rel => exact ⟨(wrap64 (x3_1 + 1)), (by first | rfl | (simp; done) | (simp [*]; done)), H', ⟨by have := HK1.out; omega⟩, by repeat (first | exact Drawn0.refl _ | apply Drawn0.step)⟩
   ·rw [if_neg c2] at H
    have c2b0 : decide (x3_1 ≤ 7) = false := decide_eq_false c2
    clear c2
    obtain rfl := Option.some.inj H
    go_wp2
    go_ret
    exact ⟨by first | rfl | (simp; done) | (simp [*]; done), by repeat (first | exact Drawn0.refl _ | apply Drawn0.step)⟩
def chicaneref09_Numbers.j0 : Nat → Int → Bool → Option (Int)
 | 0, _, _ => none
 | k + 1, x0, x8 => if x8 = true then (some 0) else (if x0 ≤ 3 then (some 2) else (some 1))
def chicaneref09_Numbers.f (k : Nat) (a0 : Int) : Option (Int) := if a0 < 1 then (chicaneref09_Numbers.j0 k a0 true) else (chicaneref09_Numbers.j0 k a0 (decide (a0 > 7)))
set_option maxHeartbeats 8000000 in
set_option maxRecDepth 100000 in
theorem chicaneref09_Numbers.calls (k : Nat) (a0 : Int) (r : Int) (w : World) (h : chicaneref09_Numbers.f k a0 = some r) :
  Calls Tryz.prog 82 #[.int .i64 a0] w fun e w' => e = .returned (.int .i64 r) ∧ Drawn0 w w' := by
 have H : (if a0 < 1 then (chicaneref09_Numbers.j0 k a0 true) else (chicaneref09_Numbers.j0 k a0 (decide (a0 > 7)))) = some r := h
 clear h
 have HC2 := Aside0.mk H
 clear H
 go_enter Tryz.func82, Tryz.ntmps82
 go_upto_region 1 with (fail)
 go_cut [8] (fun v8 wc => ∃ (kq : Nat) (x8_1 : Bool), v8 = .bool x8_1 ∧ Aside0 (chicaneref09_Numbers.j0 kq a0 x8_1 = some r) ∧ Aside0 (kq ≤ k) ∧ Drawn0 w wc)
 case first =>
  have H := HC2.out
  clear HC2
  by_cases c3 : a0 < 1
  ·rw [if_pos c3] at H
   have c3b0 : decide (a0 < 1) = true := decide_eq_true c3
   clear c3
   (first | rw [c3b0] | (simp only [i64_w, i32_w]; rw [c3b0]) | skip)
   have H' := Aside0.mk H
   clear H
   go_wp2
   go_meet
   case rel => exact ⟨_, (true), (by first | rfl | (simp; done) | (simp [*]; done)), H', ⟨by first | omega | exact Nat.le_refl _⟩, by repeat (first | exact Drawn0.refl _ | apply Drawn0.step)⟩
  ·rw [if_neg c3] at H
   have c3b0 : decide (a0 < 1) = false := decide_eq_false c3
   clear c3
   (first | rw [c3b0] | (simp only [i64_w, i32_w]; rw [c3b0]) | skip)
   have H' := Aside0.mk H
   clear H
   go_wp2
   go_meet
   case rel => exact ⟨_, (decide (a0 > 7)), (by first | rfl | (simp; done) | (simp [*]; done)), H', ⟨by first | omega | exact Nat.le_refl _⟩, by repeat (first | exact Drawn0.refl _ | apply Drawn0.step)⟩
 case rest =>
  clear HC2
  try clear p2
  try clear c3
  try clear c3b0
  obtain ⟨kq, x8_1, rfl, HA, HJ1, ⟨mc1, rfl⟩⟩ := hcut
  cases kq with
  | zero => exact absurd HA.out (by simp [chicaneref09_Numbers.j0])
  | succ kj1 =>
   have H := HA.out
   clear HA
   simp only [chicaneref09_Numbers.j0] at H
   by_cases c4 : x8_1 = true
   ·subst c4
    have H1 : (some 0) = some r := by rw [if_pos rfl] at H; exact H
    clear H
    have H := H1
    clear H1
    obtain rfl := Option.some.inj H
    go_wp2
    go_ret
    exact ⟨by first | rfl | (simp; done) | (simp [*]; done), by repeat (first | exact Drawn0.refl _ | apply Drawn0.step)⟩
   ·replace c4 := Bool.eq_false_iff.mpr c4
    subst c4
    have H1 : (if a0 ≤ 3 then (some 2) else (some 1)) = some r := by rw [if_neg (show ¬ (false = true) by decide)] at H; exact H
    clear H
    have H := H1
    clear H1
    by_cases c5 : a0 ≤ 3
    ·rw [if_pos c5] at H
     have c5b0 : decide (a0 ≤ 3) = true := decide_eq_true c5
     clear c5
     obtain rfl := Option.some.inj H
     go_wp2
     go_ret
     exact ⟨by first | rfl | (simp; done) | (simp [*]; done), by repeat (first | exact Drawn0.refl _ | apply Drawn0.step)⟩
    ·rw [if_neg c5] at H
     have c5b0 : decide (a0 ≤ 3) = false := decide_eq_false c5
     clear c5
     obtain rfl := Option.some.inj H
     go_wp2
     go_ret
     exact ⟨by first | rfl | (simp; done) | (simp [*]; done), by repeat (first | exact Drawn0.refl _ | apply Drawn0.step)⟩
end Go.Proofs.YtlglbpjccpdloaaGreatDoor.PToxR
namespace Go.Proofs.YtlglbpjccpdloaaGreatDoor.PToxR
open Go.Proofs.YtlglbpjccpdloaaGreatDoor.Ext Go.RowKit Go.Proofs.YtlglbpjccpdloaaGreatDoorW.PrintWords Go.Proofs.YtlglbpjccpdloaaGreatDoorW.PrintLast Go.Proofs.YtlglbpjccpdloaaGreatDoorW.PrintMore
attribute [local go_sem] max2_int min2_int max_two min_two max_three min_three max_four min_four   -- for this text's walks alone
set_option linter.unusedVariables false
set_option linter.unusedSimpArgs false
mutual
def chicaneref01_Parse.l0 : Nat → ByteArray → Int → Int → Option (Int × Int)
 | 0, _, _, _ => none
 | k + 1, x0, x4, x5 => if x5 < (x0.size : Int) then (chicaneref01_Parse.j1 k x0 x4 x5 (decide (x5 < 14))) else (chicaneref01_Parse.j1 k x0 x4 x5 false)
def chicaneref01_Parse.j1 : Nat → ByteArray → Int → Int → Bool → Option (Int × Int)
 | 0, _, _, _, _ => none
 | k + 1, x0, x4, x5, x13 => if x13 = true then (if 0 ≤ x5 then (if x5 < (x0.size : Int) then (if (bt x0 x5) ≥ 48 then (if (bt x0 x5) ≤ 57 then (chicaneref01_Parse.l0 k x0 (wrap64 ((wrap64 ((wrap64 (x4 * 10)) + (wrap64 (bt x0 x5)))) - 48)) (wrap64 (x5 + 1))) else (chicaneref01_Parse.l0 k x0 x4 (wrap64 (x5 + 1)))) else (chicaneref01_Parse.l0 k x0 x4 (wrap64 (x5 + 1)))) else (none)) else (none)) else ((chicaneref01_Top.f).bind fun t112 => (if x4 > t112 then (some (0, 10)) else ((chicaneref01_Text.f k x4).bind fun t113 => (if t113.toList = x0.toList then (some (x4, 0)) else (some (0, 10))))))
end
def chicaneref01_Parse.f (k : Nat) (a0 : ByteArray) : Option (Int × Int) := chicaneref01_Parse.l0 k a0 0 0
set_option maxHeartbeats 8000000 in
set_option maxRecDepth 100000 in
theorem chicaneref01_Parse.calls (k : Nat) (a0 : ByteArray) (r1 : Int) (r2 : Int) (w : World) (h : chicaneref01_Parse.f k a0 = some (r1, r2)) :
  Calls Tryz.prog 32 #[.string a0] w fun e w' => e = .returned (.tuple #[.int .i64 r1, .int .i64 r2]) ∧ Drawn0 w w' := by
 have H : (chicaneref01_Parse.l0 k a0 0 0) = some (r1, r2) := h
 clear h
 have H' := Aside0.mk H
 clear H
 go_enter Tryz.func32, Tryz.ntmps32
 go_wp2
 go_loopg [4, 5] k (fun kq v4 v5 w' => ∃ (x4_1 : Int) (x5_1 : Int), v4 = .int .i64 x4_1 ∧ v5 = .int .i64 x5_1 ∧ Aside0 (chicaneref01_Parse.l0 kq a0 x4_1 x5_1 = some (r1, r2)) ∧ Aside0 (kq ≤ k) ∧ Drawn0 w w')
 case atStart => exact ⟨(0), (0), (by first | rfl | (simp; done) | (simp [*]; done)), (by first | rfl | (simp; done) | (simp [*]; done)), H', ⟨Nat.le_refl _⟩, by repeat (first | exact Drawn0.refl _ | apply Drawn0.step)⟩
 case round =>
  clear H'
  obtain ⟨x4_1, x5_1, rfl, rfl, HA, HK1, ⟨m1, rfl⟩⟩ := hrel
  cases gk with
  | zero => exact absurd HA.out (by simp [chicaneref01_Parse.l0])
  | succ k1 =>
   have H := HA.out
   clear HA
   simp only [chicaneref01_Parse.l0] at H
   have HC2 := Aside0.mk H
   clear H
   go_upto_region 3 with (fail)
   go_cut [13] (fun v13 wc => ∃ (kq : Nat) (x13_1 : Bool), v13 = .bool x13_1 ∧ Aside0 (chicaneref01_Parse.j1 kq a0 x4_1 x5_1 x13_1 = some (r1, r2)) ∧ Aside0 (kq ≤ k1) ∧ Drawn0 w wc)
   case first =>
    have H := HC2.out
    clear HC2
    by_cases c3 : x5_1 < (a0.size : Int)
    ·rw [if_pos c3] at H
     have c3b0 : decide (x5_1 < (a0.size : Int)) = true := decide_eq_true c3
     clear c3
     (first | rw [c3b0] | (simp only [i64_w, i32_w]; rw [c3b0]) | skip)
     have H' := Aside0.mk H
     clear H
     go_wp2
     go_meet
     case rel => exact ⟨_, (decide (x5_1 < 14)), (by first | rfl | (simp; done) | (simp [*]; done)), H', ⟨by have := HK1.out; first | omega | exact Nat.le_refl _⟩, by repeat (first | exact Drawn0.refl _ | apply Drawn0.step)⟩
    ·rw [if_neg c3] at H
     have c3b0 : decide (x5_1 < (a0.size : Int)) = false := decide_eq_false c3
     clear c3
     (first | rw [c3b0] | (simp only [i64_w, i32_w]; rw [c3b0]) | skip)
     have H' := Aside0.mk H
     clear H
     go_wp2
     go_meet
     case rel => exact ⟨_, (false), (by first | rfl | (simp; done) | (simp [*]; done)), H', ⟨by have := HK1.out; first | omega | exact Nat.le_refl _⟩, by repeat (first | exact Drawn0.refl _ | apply Drawn0.step)⟩
   case rest =>
    clear HC2
    try clear p2
    try clear c3
    try clear c3b0
    obtain ⟨kq, x13_1, rfl, HA, HJ1, ⟨mc1, rfl⟩⟩ := hcut
    cases kq with
    | zero => exact absurd HA.out (by simp [chicaneref01_Parse.j1])
    | succ kj1 =>
     have H := HA.out
     clear HA
     simp only [chicaneref01_Parse.j1] at H
     by_cases c4 : x13_1 = true
     ·subst c4
      have H1 : (if 0 ≤ x5_1 then (if x5_1 < (a0.size : Int) then (if (bt a0 x5_1) ≥ 48 then (if (bt a0 x5_1) ≤ 57 then (chicaneref01_Parse.l0 kj1 a0 (wrap64 ((wrap64 ((wrap64 (x4_1 * 10)) + (wrap64 (bt a0 x5_1)))) - 48)) (wrap64 (x5_1 + 1))) else (chicaneref01_Parse.l0 kj1 a0 x4_1 (wrap64 (x5_1 + 1)))) else (chicaneref01_Parse.l0 kj1 a0 x4_1 (wrap64 (x5_1 + 1)))) else (none)) else (none)) = some (r1, r2) := by rw [if_pos rfl] at H; exact H
      clear H
      have H := H1
      clear H1
      by_cases c5 : 0 ≤ x5_1
      ·rw [if_pos c5] at H
       have c5b0 : decide (0 ≤ x5_1) = true := decide_eq_true c5
       clear c5
       by_cases c6 : x5_1 < (a0.size : Int)
       ·rw [if_pos c6] at H
        have c6b0 : decide (x5_1 < (a0.size : Int)) = true := decide_eq_true c6
        clear c6
        by_cases c8 : (bt a0 x5_1) ≥ 48
        ·rw [if_pos c8] at H
         have c8b0 : decide (48 ≤ (bt a0 x5_1)) = true := decide_eq_true c8
         clear c8
         by_cases c10 : (bt a0 x5_1) ≤ 57
         ·rw [if_pos c10] at H
          have c10b0 : decide ((bt a0 x5_1) ≤ 57) = true := decide_eq_true c10
          clear c10
          have H' := Aside0.mk H
          clear H
          have p7 : 0 ≤ (x5_1 : Int) := of_decide_eq_true (by first | (with_reducible assumption) | assumption)
          have q7 : x5_1 < (a0.size : Int) := of_decide_eq_true (by first | (with_reducible assumption) | assumption)
          have hx7 := bt_at a0 x5_1
          replace p7 := eq_true p7
          replace q7 := eq_true q7
          have p9 : 0 ≤ (x5_1 : Int) := of_decide_eq_true (by first | (with_reducible assumption) | assumption)
          have q9 : x5_1 < (a0.size : Int) := of_decide_eq_true (by first | (with_reducible assumption) | assumption)
          have hx9 := bt_at a0 x5_1
          replace p9 := eq_true p9
          replace q9 := eq_true q9
          have p11 : 0 ≤ (x5_1 : Int) := of_decide_eq_true (by first | (with_reducible assumption) | assumption)
          have q11 : x5_1 < (a0.size : Int) := of_decide_eq_true (by first | (with_reducible assumption) | assumption)
          have hx11 := bt_at a0 x5_1
          replace p11 := eq_true p11
          replace q11 := eq_true q11
          go_wp2
          go_roundg kj1
          case measure => have := HK1.out; have := HJ1.out; omega
          case rel => exact ⟨(wrap64 ((wrap64 ((wrap64 (x4_1 * 10)) + (wrap64 (bt a0 x5_1)))) - 48)), (wrap64 (x5_1 + 1)), (by first | rfl | (simp; done) | (simp [*]; done)), (by first | rfl | (simp; done) | (simp [*]; done)), H', ⟨by have := HK1.out; have := HJ1.out; omega⟩, by repeat (first | exact Drawn0.refl _ | apply Drawn0.step)⟩
         ·rw [if_neg c10] at H
          have c10b0 : decide ((bt a0 x5_1) ≤ 57) = false := decide_eq_false c10
          clear c10
          have H' := Aside0.mk H
          clear H
          have p7 : 0 ≤ (x5_1 : Int) := of_decide_eq_true (by first | (with_reducible assumption) | assumption)
          have q7 : x5_1 < (a0.size : Int) := of_decide_eq_true (by first | (with_reducible assumption) | assumption)
          have hx7 := bt_at a0 x5_1
          replace p7 := eq_true p7
          replace q7 := eq_true q7
          have p9 : 0 ≤ (x5_1 : Int) := of_decide_eq_true (by first | (with_reducible assumption) | assumption)
          have q9 : x5_1 < (a0.size : Int) := of_decide_eq_true (by first | (with_reducible assumption) | assumption)
          have hx9 := bt_at a0 x5_1
          replace p9 := eq_true p9
          replace q9 := eq_true q9
          go_wp2
          go_roundg kj1
          case measure => have := HK1.out; have := HJ1.out; omega
          case rel => exact ⟨(x4_1), (wrap64 (x5_1 + 1)), (by first | rfl | (simp; done) | (simp [*]; done)), (by first | rfl | (simp; done) | (simp [*]; done)), H', ⟨by have := HK1.out; have := HJ1.out; omega⟩, by repeat (first | exact Drawn0.refl _ | apply Drawn0.step)⟩
        ·rw [if_neg c8] at H
         have c8b0 : decide (48 ≤ (bt a0 x5_1)) = false := decide_eq_false c8
         clear c8
         have H' := Aside0.mk H
         clear H
         have p7 : 0 ≤ (x5_1 : Int) := of_decide_eq_true (by first | (with_reducible assumption) | assumption)
         have q7 : x5_1 < (a0.size : Int) := of_decide_eq_true (by first | (with_reducible assumption) | assumption)
         have hx7 := bt_at a0 x5_1
         replace p7 := eq_true p7
         replace q7 := eq_true q7
         go_wp2
         go_roundg kj1
         case measure => have := HK1.out; have := HJ1.out; omega
         case rel => exact ⟨(x4_1), (wrap64 (x5_1 + 1)), (by first | rfl | (simp; done) | (simp [*]; done)), (by first | rfl | (simp; done) | (simp [*]; done)), H', ⟨by have := HK1.out; have := HJ1.out; omega⟩, by repeat (first | exact Drawn0.refl _ | apply Drawn0.step)⟩
       ·rw [if_neg c6] at H
        exact absurd H (by simp)
      ·rw [if_neg c5] at H
       exact absurd H (by simp)
     ·replace c4 := Bool.eq_false_iff.mpr c4
      subst c4
      have H1 : ((chicaneref01_Top.f).bind fun t112 => (if x4_1 > t112 then (some (0, 10)) else ((chicaneref01_Text.f kj1 x4_1).bind fun t113 => (if t113.toList = a0.toList then (some (x4_1, 0)) else (some (0, 10)))))) = some (r1, r2) := by rw [if_neg (show ¬ (false = true) by decide)] at H; exact H
      clear H
      have H := H1
      clear H1
      replace H := Option.bind_eq_some_iff.mp H
      obtain ⟨t112, A120, H⟩ := H
      replace H : (if x4_1 > t112 then (some (0, 10)) else ((chicaneref01_Text.f kj1 x4_1).bind fun t113 => (if t113.toList = a0.toList then (some (x4_1, 0)) else (some (0, 10))))) = some (r1, r2) := H
      have A12 := Aside0.mk A120
      clear A120
      by_cases c13 : x4_1 > t112
      ·rw [if_pos c13] at H
       have c13b0 : decide (t112 < x4_1) = true := decide_eq_true c13
       clear c13
       simp only [Option.some.injEq, Prod.mk.injEq] at H
       obtain ⟨rfl, rfl⟩ := H
       go_wp2_with (first | ((with_reducible refine gate_callee (f := 53) rfl ?_); refine goesL_ (some 35) rfl rfl Tryz.func53 (by kernel_rfl) rfl #[] rfl (by (try simp only [List.map_toArray, List.map_cons, List.map_nil]); first | done | rfl | (simp only [List.length_drop, List.length_take]; rfl)) ?_; (with_reducible refine (chicaneref01_Top.calls  t112 _ A12.out).mono ?_); rintro e w' ⟨rfl, ⟨nd, rfl⟩⟩; refine ⟨_, rfl, ?_⟩))
       go_ret2
       exact ⟨by first | rfl | (simp; done) | (simp [*]; done), by repeat (first | exact Drawn0.refl _ | apply Drawn0.step)⟩
      ·rw [if_neg c13] at H
       have c13b0 : decide (t112 < x4_1) = false := decide_eq_false c13
       clear c13
       replace H := Option.bind_eq_some_iff.mp H
       obtain ⟨t113, A140, H⟩ := H
       replace H : (if t113.toList = a0.toList then (some (x4_1, 0)) else (some (0, 10))) = some (r1, r2) := H
       have A14 := Aside0.mk A140
       clear A140
       by_cases c15 : t113.toList = a0.toList
       ·rw [if_pos c15] at H
        have c15b0 : (t113.toList == a0.toList) = true := beq_iff_eq.mpr c15
        have c15b1 : (t113.toList != a0.toList) = false := bne_eq_false_iff_eq.mpr c15
        clear c15
        simp only [Option.some.injEq, Prod.mk.injEq] at H
        obtain ⟨rfl, rfl⟩ := H
        go_wp2_with (first | ((with_reducible refine gate_callee (f := 53) rfl ?_); refine goesL_ (some 35) rfl rfl Tryz.func53 (by kernel_rfl) rfl #[] rfl (by (try simp only [List.map_toArray, List.map_cons, List.map_nil]); first | done | rfl | (simp only [List.length_drop, List.length_take]; rfl)) ?_; (with_reducible refine (chicaneref01_Top.calls  t112 _ A12.out).mono ?_); rintro e w' ⟨rfl, ⟨nd, rfl⟩⟩; refine ⟨_, rfl, ?_⟩) | (go_at_call 38; (with_reducible refine (chicaneref01_Text.calls kj1 x4_1 t113 _ A14.out).mono ?_); rintro e w' ⟨rfl, ⟨nd, rfl⟩⟩))
        go_ret2
        exact ⟨by first | rfl | (simp; done) | (simp [*]; done), by repeat (first | exact Drawn0.refl _ | apply Drawn0.step)⟩
       ·rw [if_neg c15] at H
        have c15b0 : (t113.toList == a0.toList) = false := beq_eq_false_iff_ne.mpr c15
        have c15b1 : (t113.toList != a0.toList) = true := bne_iff_ne.mpr c15
        simp only [Option.some.injEq, Prod.mk.injEq] at H
        obtain ⟨rfl, rfl⟩ := H
        go_wp2_with (first | ((with_reducible refine gate_callee (f := 53) rfl ?_); refine goesL_ (some 35) rfl rfl Tryz.func53 (by kernel_rfl) rfl #[] rfl (by (try simp only [List.map_toArray, List.map_cons, List.map_nil]); first | done | rfl | (simp only [List.length_drop, List.length_take]; rfl)) ?_; (with_reducible refine (chicaneref01_Top.calls  t112 _ A12.out).mono ?_); rintro e w' ⟨rfl, ⟨nd, rfl⟩⟩; refine ⟨_, rfl, ?_⟩) | (go_at_call 38; (with_reducible refine (chicaneref01_Text.calls kj1 x4_1 t113 _ A14.out).mono ?_); rintro e w' ⟨rfl, ⟨nd, rfl⟩⟩))
        go_ret2
        exact ⟨by first | rfl | (simp; done) | (simp [*]; done), by repeat (first | exact Drawn0.refl _ | apply Drawn0.step)⟩
end Go.Proofs.YtlglbpjccpdloaaGreatDoor.PToxR
