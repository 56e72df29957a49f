/- Gathered by a program of this session (shake.py): what the claim's theorem needs. -/
import Derived.Test.YtbfeokfninedcaaDoorXb0
import Derived.Test.YtbfeokfninedcaaDoorXb1
import Derived.Shelf.Strings.Builder1
import Derived.Shelf.Strings.Builder2
import Derived.Shelf.Strings.OnBuilder
import Derived.Shelf.Strings.BuilderF
import Derived.Shelf.Strings.BuilderK
import Derived.Shelf.Utf8.RuneCount
import Derived.Shelf.Strings.Builder2Cap
import Derived.Shelf.Strings.Search1
import Derived.Shelf.Strings.Search2
import Derived.Shelf.Strings.Search3
import Derived.Shelf.Strings.Count
import Derived.Shelf.LaysM
import Derived.Shelf.Strings.Shaped
import Derived.Shelf.Strings.Prefix
import Derived.Shelf.Strings.Split
import Derived.Shelf.Strings.SplitShaped
import Derived.Shelf.Unicode.Decode
import Derived.Shelf.Strings.RuneCount
import Derived.Shelf.Strings.Explode
import Derived.Shelf.Unicode.DecodeSlow
import Derived.Shelf.Unicode.DecodeAny
import Derived.Shelf.Strings.BuilderCap
import Derived.Test.YtbfeokfninedcaaDoorProg
import Derived.Below
import Derived.Deep.Draws
import Derived.Deep.AppendLies
import Derived.Maps.AppendAt
import Derived.OwnWalk
import Derived.Laws.BytesArg
import Derived.Laws.MakeOwn
import Derived.Laws.OwnMore
import Derived.Deep.OwnRows
import Derived.Tactics
import Derived.Lib.ConvBytes
import Derived.Laws.Slices
import Derived.WalkKit
import Derived.KernelRfl
import Derived.RowKit3
import Derived.Deep.LoopGhost
import Derived.Deep.QuietTactic
import Derived.BigQuiet
import Derived.WideLaws
import Derived.Deep.DeepCutAuto
import Derived.Deep.CutBlock
import Derived.Deep.RegionHeld3
import Derived.Laws.Rows
import Derived.Lib.AppendStr
import Derived.ArgAppend
import Derived.Laws.IdiomCopy
import Derived.OrdersHeld
import Derived.Laws.BitsLemmas
import Derived.RowKit
import Derived.Laws.StructEq
import Derived.Defers
import Derived.Laws.Pointers
import Derived.Laws.LoneSync
import Derived.RegionTactic
import Derived.RegionCalls
import Derived.ChangeAlike
import Derived.Laws.NewBlocks
import Derived.LoopN
import Derived.Deep.WholeRow
set_option linter.unusedVariables false
set_option linter.unusedSimpArgs false
namespace Go.Proofs.YtbfeokfninedcaaDoor.Ext
end Go.Proofs.YtbfeokfninedcaaDoor.Ext
namespace Go.Proofs.YtbfeokfninedcaaDoor.PWrdA
end Go.Proofs.YtbfeokfninedcaaDoor.PWrdA
namespace Go.Proofs.YtbfeokfninedcaaDoor.ScopeL
end Go.Proofs.YtbfeokfninedcaaDoor.ScopeL
namespace Go.Proofs.YtbfeokfninedcaaDoorW.PrintLast
end Go.Proofs.YtbfeokfninedcaaDoorW.PrintLast
namespace Go.Proofs.YtbfeokfninedcaaDoorW.PrintMore
end Go.Proofs.YtbfeokfninedcaaDoorW.PrintMore
namespace Go.Proofs.YtbfeokfninedcaaDoorW.PrintWords
end Go.Proofs.YtbfeokfninedcaaDoorW.PrintWords
namespace Go.Proofs.YtbfeokfninedcaaDoor.PWrdA
open Go.Proofs.YtbfeokfninedcaaDoor.Ext Go.RowKit Go.Proofs.YtbfeokfninedcaaDoorW.PrintWords Go.Proofs.YtbfeokfninedcaaDoorW.PrintLast Go.Proofs.YtbfeokfninedcaaDoorW.PrintMore
attribute [local go_sem] max2_int min2_int max_two min_two max_three min_three max_four min_four   -- for this text's walks alone
set_option linter.unusedVariables false
set_option linter.unusedSimpArgs false
def errW : Option Int → Value
 | none => .nilIface
 | some c => .iface 0 (.int .i64 c)
theorem errW_none : errW none = .nilIface := rfl
theorem errW_some (c : Int) : errW (some c) = .iface 0 (.int .i64 c) := rfl
end Go.Proofs.YtbfeokfninedcaaDoor.PWrdA
namespace Go.Proofs.YtbfeokfninedcaaDoor.PWrdA
open Go.Proofs.YtbfeokfninedcaaDoor.Ext Go.RowKit Go.Proofs.YtbfeokfninedcaaDoorW.PrintWords Go.Proofs.YtbfeokfninedcaaDoorW.PrintLast Go.Proofs.YtbfeokfninedcaaDoorW.PrintMore
attribute [local go_sem] max2_int min2_int max_two min_two max_three min_three max_four min_four   -- for this text's walks alone
set_option linter.unusedVariables false
set_option linter.unusedSimpArgs false
def chicaneref15_Same.l0 : Nat → List ByteArray → List ByteArray → Int → Option (Bool)
 | 0, _, _, _ => none
 | k + 1, x0, x1, x5 => if x5 < (x0.length : Int) then (if 0 ≤ x5 then (if x5 < (x1.length : Int) then (if (rdOf ByteArray.empty x0 x5).toList = (rdOf ByteArray.empty x1 x5).toList then (chicaneref15_Same.l0 k x0 x1 (wrap64 (x5 + 1))) else (some false)) else (none)) else (none)) else (some true)
def chicaneref15_Same.f (k : Nat) (l0 : List ByteArray) (l1 : List ByteArray) : Option (Bool) := if (l0.length : Int) = (l1.length : Int) then (chicaneref15_Same.l0 k l0 l1 0) else (some false)
theorem chicaneref15_Same.mono_l : ∀ k, (∀ y0 y1 y2, LeO (chicaneref15_Same.l0 k y0 y1 y2) (chicaneref15_Same.l0 (k + 1) y0 y1 y2))
 | 0 => fun _ _ _ r h => by simp [chicaneref15_Same.l0] at h
 | k + 1 => by
  have ih0 := chicaneref15_Same.mono_l k
  ·intro y0 y1 y2
   unfold chicaneref15_Same.l0
   repeat' first
   | (with_reducible exact ih0 _ _ _)
   | (with_reducible exact LeO.refl _)
   | (with_reducible exact LeO.none _)
   | (with_reducible refine LeO.ite ?_ ?_)
   | (with_reducible refine LeO.bind ?_ (fun _ => ?_))
   | exact ih0 _ _ _
   | exact LeO.none _
   | refine LeO.ite ?_ ?_
   | refine LeO.bind ?_ (fun _ => ?_)
theorem chicaneref15_Same.mono : ∀ a0 a1 k, LeO (chicaneref15_Same.f k a0 a1) (chicaneref15_Same.f (k + 1) a0 a1) := by
 intro a0 a1 k
 have ih0 := chicaneref15_Same.mono_l k
 unfold chicaneref15_Same.f
 repeat' first
   | (with_reducible exact ih0 _ _ _)
   | (with_reducible exact LeO.refl _)
   | (with_reducible exact LeO.none _)
   | (with_reducible refine LeO.ite ?_ ?_)
   | (with_reducible refine LeO.bind ?_ (fun _ => ?_))
   | exact ih0 _ _ _
   | exact LeO.none _
   | refine LeO.ite ?_ ?_
   | refine LeO.bind ?_ (fun _ => ?_)
set_option maxHeartbeats 8000000 in
set_option maxRecDepth 100000 in
theorem chicaneref15_Same.calls (k : Nat) (A0 : Option Addr) (c0 : Nat) (l0 : List ByteArray) (A1 : Option Addr) (c1 : Nat) (l1 : List ByteArray) (r : Bool) (w : World) (hr0 : Kd.C Kd.string w A0 l0.length l0) (hc0 : l0.length ≤ c0) (hr1 : Kd.C Kd.string w A1 l1.length l1) (hc1 : l1.length ≤ c1) (h : chicaneref15_Same.f k l0 l1 = some r) :
  Calls Tryd.prog 14 #[.slice A0 l0.length c0, .slice A1 l1.length c1] w fun e w' => e = .returned (.bool r) ∧ Drawn0 w w' := by
 have HR0 := Aside0.mk hr0
 have HC0 := Aside0.mk hc0
 clear hr0 hc0
 have HR1 := Aside0.mk hr1
 have HC1 := Aside0.mk hc1
 clear hr1 hc1
 have H : (if (l0.length : Int) = (l1.length : Int) then (chicaneref15_Same.l0 k l0 l1 0) else (some false)) = some r := h
 clear h
 by_cases c3 : (l0.length : Int) = (l1.length : Int)
 ·rw [if_pos c3] at H
  have c3b0 : ((l0.length : Int) == (l1.length : Int)) = true := beq_iff_eq.mpr c3
  have c3b1 : ((l0.length : Int) != (l1.length : Int)) = false := bne_eq_false_iff_eq.mpr c3
  have c3b2 : (l0.length == l1.length) = true := by first | simpa using c3 | (simp at c3 ⊢; omega)
  clear c3
  have H' := Aside0.mk H
  clear H
  go_enter Tryd.func14, Tryd.ntmps14
  go_wp2
  repeat (go_quiet (fail); try go_wp2)
  go_loopg [5] k (fun kq v5 w' => ∃ (x5_1 : Int), v5 = .int .i64 x5_1 ∧ Aside0 (chicaneref15_Same.l0 kq l0 l1 x5_1 = some r) ∧ Aside0 (kq ≤ k) ∧ Drawn0 w w')
  case atStart => exact ⟨(0), (by first | rfl | (simp; done) | (simp [*]; done)), H', ⟨Nat.le_refl _⟩, by repeat (first | exact Drawn0.refl _ | apply Drawn0.step)⟩
  case round =>
   clear H'
   try clear c1
   try clear p2
   try clear c3
   try clear c3b0
   try clear c3b1
   try clear c3b2
   try clear c3b3
   obtain ⟨x5_1, rfl, HA, HK1, ⟨m1, rfl⟩⟩ := hrel
   cases gk with
   | zero => exact absurd HA.out (by simp [chicaneref15_Same.l0])
   | succ k1 =>
    have H := HA.out
    clear HA
    simp only [chicaneref15_Same.l0] at H
    by_cases c4 : x5_1 < (l0.length : Int)
    ·rw [if_pos c4] at H
     have c4b0 : decide (x5_1 < (l0.length : Int)) = true := decide_eq_true c4
     clear c4
     by_cases c5 : 0 ≤ x5_1
     ·rw [if_pos c5] at H
      have c5b0 : decide (0 ≤ x5_1) = true := decide_eq_true c5
      clear c5
      by_cases c6 : x5_1 < (l1.length : Int)
      ·rw [if_pos c6] at H
       have c6b0 : decide (x5_1 < (l1.length : Int)) = true := decide_eq_true c6
       clear c6
       by_cases c7 : (rdOf ByteArray.empty l0 x5_1).toList = (rdOf ByteArray.empty l1 x5_1).toList
       ·rw [if_pos c7] at H
        have c7b0 : ((rdOf ByteArray.empty l0 x5_1).toList == (rdOf ByteArray.empty l1 x5_1).toList) = true := beq_iff_eq.mpr c7
        have c7b1 : ((rdOf ByteArray.empty l0 x5_1).toList != (rdOf ByteArray.empty l1 x5_1).toList) = false := bne_eq_false_iff_eq.mpr c7
        clear c7
        have H' := Aside0.mk H
        clear H
        have p101 : 0 ≤ (x5_1 : Int) := of_decide_eq_true (by first | (with_reducible assumption) | assumption)
        have q101 : x5_1 < (l0.length : Int) := of_decide_eq_true (by first | (with_reducible assumption) | assumption)
        obtain ⟨ad101, e101, hx101_0⟩ := Kd.at_string HR0.out x5_1 p101 q101
        cases e101
        replace p101 := eq_true p101
        replace q101 := eq_true q101
        have p102 : 0 ≤ (x5_1 : Int) := of_decide_eq_true (by first | (with_reducible assumption) | assumption)
        have q102 : x5_1 < (l1.length : Int) := of_decide_eq_true (by first | (with_reducible assumption) | assumption)
        obtain ⟨ad102, e102, hx102_0⟩ := Kd.at_string HR1.out x5_1 p102 q102
        cases e102
        replace p102 := eq_true p102
        replace q102 := eq_true q102
        go_wp2
        repeat (go_quiet (fail); try go_wp2)
        go_roundg k1
        case measure => have := HK1.out; omega
        case rel => exact ⟨(wrap64 (x5_1 + 1)), (by first | rfl | (simp; done) | (simp [*]; done)), H', ⟨by have := HK1.out; omega⟩, by repeat (first | exact Drawn0.refl _ | apply Drawn0.step)⟩
       ·rw [if_neg c7] at H
        have c7b0 : ((rdOf ByteArray.empty l0 x5_1).toList == (rdOf ByteArray.empty l1 x5_1).toList) = false := beq_eq_false_iff_ne.mpr c7
        have c7b1 : ((rdOf ByteArray.empty l0 x5_1).toList != (rdOf ByteArray.empty l1 x5_1).toList) = true := bne_iff_ne.mpr c7
        obtain rfl := Option.some.inj H
        have p101 : 0 ≤ (x5_1 : Int) := of_decide_eq_true (by first | (with_reducible assumption) | assumption)
        have q101 : x5_1 < (l0.length : Int) := of_decide_eq_true (by first | (with_reducible assumption) | assumption)
        obtain ⟨ad101, e101, hx101_0⟩ := Kd.at_string HR0.out x5_1 p101 q101
        cases e101
        replace p101 := eq_true p101
        replace q101 := eq_true q101
        have p102 : 0 ≤ (x5_1 : Int) := of_decide_eq_true (by first | (with_reducible assumption) | assumption)
        have q102 : x5_1 < (l1.length : Int) := of_decide_eq_true (by first | (with_reducible assumption) | assumption)
        obtain ⟨ad102, e102, hx102_0⟩ := Kd.at_string HR1.out x5_1 p102 q102
        cases e102
        replace p102 := eq_true p102
        replace q102 := eq_true q102
        go_wp2
        repeat (go_quiet (fail); try go_wp2)
        go_ret
        exact ⟨by first | rfl | (simp; done) | (simp [*]; done), by repeat (first | exact Drawn0.refl _ | apply Drawn0.step)⟩
      ·rw [if_neg c6] at H
       exact absurd H (by simp)
     ·rw [if_neg c5] at H
      exact absurd H (by simp)
    ·rw [if_neg c4] at H
     have c4b0 : decide (x5_1 < (l0.length : Int)) = false := decide_eq_false c4
     clear c4
     obtain rfl := Option.some.inj H
     go_wp2
     repeat (go_quiet (fail); try go_wp2)
     go_ret
     exact ⟨by first | rfl | (simp; done) | (simp [*]; done), by repeat (first | exact Drawn0.refl _ | apply Drawn0.step)⟩
 ·rw [if_neg c3] at H
  have c3b0 : ((l0.length : Int) == (l1.length : Int)) = false := beq_eq_false_iff_ne.mpr c3
  have c3b1 : ((l0.length : Int) != (l1.length : Int)) = true := bne_iff_ne.mpr c3
  have c3b2 : (l0.length == l1.length) = false := by first | simpa using c3 | (simp at c3 ⊢; omega)
  obtain rfl := Option.some.inj H
  go_enter Tryd.func14, Tryd.ntmps14
  go_wp2
  repeat (go_quiet (fail); try go_wp2)
  go_ret
  exact ⟨by first | rfl | (simp; done) | (simp [*]; done), by repeat (first | exact Drawn0.refl _ | apply Drawn0.step)⟩
mutual
def chicaneref15_Plain.j0 : Nat → ByteArray → Bool → Option (Bool)
 | 0, _, _ => none
 | k + 1, x0, x10 => if x10 = true then (some false) else (chicaneref15_Plain.l0 k x0 0)
def chicaneref15_Plain.l0 : Nat → ByteArray → Int → Option (Bool)
 | 0, _, _ => none
 | k + 1, x0, x3 => if x3 < (x0.size : Int) then (if 0 ≤ x3 then (if (bt x0 x3) < 33 then (some false) else (if (bt x0 x3) > 126 then (some false) else (if (bt x0 x3) = 34 then (some false) else (if (bt x0 x3) = 92 then (some false) else (chicaneref15_Plain.l0 k x0 (wrap64 (x3 + 1))))))) else (none)) else (some true)
end
def chicaneref15_Plain.f (k : Nat) (a0 : ByteArray) : Option (Bool) := if a0.toList = ([] : List UInt8) then (chicaneref15_Plain.j0 k a0 true) else (if 0 < (a0.size : Int) then (chicaneref15_Plain.j0 k a0 ((bt a0 0) == 35)) else (none))
theorem chicaneref15_Plain.mono_l : ∀ k, (∀ y0 y1, LeO (chicaneref15_Plain.j0 k y0 y1) (chicaneref15_Plain.j0 (k + 1) y0 y1)) ∧ (∀ y0 y1, LeO (chicaneref15_Plain.l0 k y0 y1) (chicaneref15_Plain.l0 (k + 1) y0 y1))
 | 0 => ⟨fun _ _ r h => by simp [chicaneref15_Plain.j0] at h, fun _ _ r h => by simp [chicaneref15_Plain.l0] at h⟩
 | k + 1 => by
  obtain ⟨ih0, ih1⟩ := chicaneref15_Plain.mono_l k
  refine ⟨?_, ?_⟩
  ·intro y0 y1
   unfold chicaneref15_Plain.j0
   repeat' first
   | (with_reducible exact ih0 _ _)
   | (with_reducible exact ih1 _ _)
   | (with_reducible exact LeO.refl _)
   | (with_reducible exact LeO.none _)
   | (with_reducible refine LeO.ite ?_ ?_)
   | (with_reducible refine LeO.bind ?_ (fun _ => ?_))
   | exact ih0 _ _
   | exact ih1 _ _
   | exact LeO.none _
   | refine LeO.ite ?_ ?_
   | refine LeO.bind ?_ (fun _ => ?_)
  ·intro y0 y1
   unfold chicaneref15_Plain.l0
   repeat' first
   | (with_reducible exact ih0 _ _)
   | (with_reducible exact ih1 _ _)
   | (with_reducible exact LeO.refl _)
   | (with_reducible exact LeO.none _)
   | (with_reducible refine LeO.ite ?_ ?_)
   | (with_reducible refine LeO.bind ?_ (fun _ => ?_))
   | exact ih0 _ _
   | exact ih1 _ _
   | exact LeO.none _
   | refine LeO.ite ?_ ?_
   | refine LeO.bind ?_ (fun _ => ?_)
theorem chicaneref15_Plain.mono : ∀ a0 k, LeO (chicaneref15_Plain.f k a0) (chicaneref15_Plain.f (k + 1) a0) := by
 intro a0 k
 obtain ⟨ih0, ih1⟩ := chicaneref15_Plain.mono_l k
 unfold chicaneref15_Plain.f
 repeat' first
   | (with_reducible exact ih0 _ _)
   | (with_reducible exact ih1 _ _)
   | (with_reducible exact LeO.refl _)
   | (with_reducible exact LeO.none _)
   | (with_reducible refine LeO.ite ?_ ?_)
   | (with_reducible refine LeO.bind ?_ (fun _ => ?_))
   | exact ih0 _ _
   | exact ih1 _ _
   | exact LeO.none _
   | refine LeO.ite ?_ ?_
   | refine LeO.bind ?_ (fun _ => ?_)
def chicaneref15_may.f (a0 : Int) : Option (Bool) := if a0 ≥ 32 then (if a0 ≤ 126 then (some true) else (some (a0 == 9))) else (some (a0 == 9))
end Go.Proofs.YtbfeokfninedcaaDoor.PWrdA
namespace Go.Proofs.YtbfeokfninedcaaDoor.PWrdA
open Go.Proofs.YtbfeokfninedcaaDoor.Ext Go.RowKit Go.Proofs.YtbfeokfninedcaaDoorW.PrintWords Go.Proofs.YtbfeokfninedcaaDoorW.PrintLast Go.Proofs.YtbfeokfninedcaaDoorW.PrintMore
attribute [local go_sem] max2_int min2_int max_two min_two max_three min_three max_four min_four   -- for this text's walks alone
set_option linter.unusedVariables false
set_option linter.unusedSimpArgs false
mutual
def chicaneref15_Join.l0 : Nat → List ByteArray → ByteArray → Int → Option (ByteArray)
 | 0, _, _, _ => none
 | k + 1, x0, x3, x4 => if x4 < (x0.length : Int) then (if x4 > 0 then (if x3.size + 1 ≤ 9223372036854775807 then (chicaneref15_Join.j1 k x0 (x3 ++ (⟨#[32]⟩ : ByteArray)) x4) else (none)) else (chicaneref15_Join.j1 k x0 x3 x4)) else (if (x3.size : Int) > 256 then (some (⟨#[]⟩ : ByteArray)) else (some x3))
def chicaneref15_Join.j1 : Nat → List ByteArray → ByteArray → Int → Option (ByteArray)
 | 0, _, _, _ => none
 | k + 1, x0, x3, x4 => if 0 ≤ x4 then (if x4 < (x0.length : Int) then ((chicaneref15_Plain.f k (rdOf ByteArray.empty x0 x4)).bind fun t104 => (if t104 = true then (chicaneref15_Join.j2 k x0 x3 x4 (⟨#[]⟩ : ByteArray)) else (chicaneref15_Join.j2 k x0 x3 x4 (strOfNums (([34] : List Int)))))) else (none)) else (none)
def chicaneref15_Join.j2 : Nat → List ByteArray → ByteArray → Int → ByteArray → Option (ByteArray)
 | 0, _, _, _, _ => none
 | k + 1, x0, x3, x4, x5 => if x3.size + x5.size ≤ 9223372036854775807 then (chicaneref15_Join.l1 k x0 (x3 ++ x5) x4 x5 0) else (none)
def chicaneref15_Join.l1 : Nat → List ByteArray → ByteArray → Int → ByteArray → Int → Option (ByteArray)
 | 0, _, _, _, _, _ => none
 | k + 1, x0, x3, x4, x5, x6 => if 0 ≤ x4 then (if x4 < (x0.length : Int) then (if x6 < ((rdOf ByteArray.empty x0 x4).size : Int) then (if 0 ≤ x6 then ((chicaneref15_may.f (bt (rdOf ByteArray.empty x0 x4) x6)).bind fun t110 => (if t110 = true then (if (bt (rdOf ByteArray.empty x0 x4) x6) = 34 then ((some (([92] : List Int) : List Int)).bind fun y111 => (if x3.size + (strOfNums y111).size ≤ 9223372036854775807 then ((some (([bt (rdOf ByteArray.empty x0 x4) x6] : List Int) : List Int)).bind fun y114 => (if (x3 ++ (strOfNums y111)).size + (strOfNums y114).size ≤ 9223372036854775807 then (chicaneref15_Join.l1 k x0 ((x3 ++ (strOfNums y111)) ++ (strOfNums y114)) x4 x5 (wrap64 (x6 + 1))) else (none))) else (none))) else (if (bt (rdOf ByteArray.empty x0 x4) x6) = 92 then ((some (([92] : List Int) : List Int)).bind fun y117 => (if x3.size + (strOfNums y117).size ≤ 9223372036854775807 then ((some (([bt (rdOf ByteArray.empty x0 x4) x6] : List Int) : List Int)).bind fun y120 => (if (x3 ++ (strOfNums y117)).size + (strOfNums y120).size ≤ 9223372036854775807 then (chicaneref15_Join.l1 k x0 ((x3 ++ (strOfNums y117)) ++ (strOfNums y120)) x4 x5 (wrap64 (x6 + 1))) else (none))) else (none))) else ((some (([bt (rdOf ByteArray.empty x0 x4) x6] : List Int) : List Int)).bind fun y123 => (if x3.size + (strOfNums y123).size ≤ 9223372036854775807 then (chicaneref15_Join.l1 k x0 (x3 ++ (strOfNums y123)) x4 x5 (wrap64 (x6 + 1))) else (none))))) else (some (⟨#[]⟩ : ByteArray)))) else (none)) else (if x3.size + x5.size ≤ 9223372036854775807 then (chicaneref15_Join.l0 k x0 (x3 ++ x5) (wrap64 (x4 + 1))) else (none))) else (none)) else (none)
end
def chicaneref15_Join.f (k : Nat) (l0 : List ByteArray) : Option (ByteArray) := if (l0.length : Int) > 16 then (some (⟨#[]⟩ : ByteArray)) else (chicaneref15_Join.l0 k l0 (⟨#[]⟩ : ByteArray) 0)
theorem chicaneref15_Join.mono_l : ∀ k, (∀ y0 y1 y2, LeO (chicaneref15_Join.l0 k y0 y1 y2) (chicaneref15_Join.l0 (k + 1) y0 y1 y2)) ∧ (∀ y0 y1 y2, LeO (chicaneref15_Join.j1 k y0 y1 y2) (chicaneref15_Join.j1 (k + 1) y0 y1 y2)) ∧ (∀ y0 y1 y2 y3, LeO (chicaneref15_Join.j2 k y0 y1 y2 y3) (chicaneref15_Join.j2 (k + 1) y0 y1 y2 y3)) ∧ (∀ y0 y1 y2 y3 y4, LeO (chicaneref15_Join.l1 k y0 y1 y2 y3 y4) (chicaneref15_Join.l1 (k + 1) y0 y1 y2 y3 y4))
 | 0 => ⟨fun _ _ _ r h => by simp [chicaneref15_Join.l0] at h, fun _ _ _ r h => by simp [chicaneref15_Join.j1] at h, fun _ _ _ _ r h => by simp [chicaneref15_Join.j2] at h, fun _ _ _ _ _ r h => by simp [chicaneref15_Join.l1] at h⟩
 | k + 1 => by
  obtain ⟨ih0, ih1, ih2, ih3⟩ := chicaneref15_Join.mono_l k
  refine ⟨?_, ?_, ?_, ?_⟩
  ·intro y0 y1 y2
   unfold chicaneref15_Join.l0
   repeat' first
   | (with_reducible exact ih0 _ _ _)
   | (with_reducible exact ih1 _ _ _)
   | (with_reducible exact ih2 _ _ _ _)
   | (with_reducible exact ih3 _ _ _ _ _)
   | (with_reducible exact chicaneref15_Plain.mono _ _)
   | (with_reducible exact LeO.refl _)
   | (with_reducible exact LeO.none _)
   | (with_reducible refine LeO.ite ?_ ?_)
   | (with_reducible refine LeO.bind ?_ (fun _ => ?_))
   | exact ih0 _ _ _
   | exact ih1 _ _ _
   | exact ih2 _ _ _ _
   | exact ih3 _ _ _ _ _
   | exact chicaneref15_Plain.mono _ _
   | exact LeO.none _
   | refine LeO.ite ?_ ?_
   | refine LeO.bind ?_ (fun _ => ?_)
  ·intro y0 y1 y2
   unfold chicaneref15_Join.j1
   repeat' first
   | (with_reducible exact ih0 _ _ _)
   | (with_reducible exact ih1 _ _ _)
   | (with_reducible exact ih2 _ _ _ _)
   | (with_reducible exact ih3 _ _ _ _ _)
   | (with_reducible exact chicaneref15_Plain.mono _ _)
   | (with_reducible exact LeO.refl _)
   | (with_reducible exact LeO.none _)
   | (with_reducible refine LeO.ite ?_ ?_)
   | (with_reducible refine LeO.bind ?_ (fun _ => ?_))
   | exact ih0 _ _ _
   | exact ih1 _ _ _
   | exact ih2 _ _ _ _
   | exact ih3 _ _ _ _ _
   | exact chicaneref15_Plain.mono _ _
   | exact LeO.none _
   | refine LeO.ite ?_ ?_
   | refine LeO.bind ?_ (fun _ => ?_)
  ·intro y0 y1 y2 y3
   unfold chicaneref15_Join.j2
   repeat' first
   | (with_reducible exact ih0 _ _ _)
   | (with_reducible exact ih1 _ _ _)
   | (with_reducible exact ih2 _ _ _ _)
   | (with_reducible exact ih3 _ _ _ _ _)
   | (with_reducible exact chicaneref15_Plain.mono _ _)
   | (with_reducible exact LeO.refl _)
   | (with_reducible exact LeO.none _)
   | (with_reducible refine LeO.ite ?_ ?_)
   | (with_reducible refine LeO.bind ?_ (fun _ => ?_))
   | exact ih0 _ _ _
   | exact ih1 _ _ _
   | exact ih2 _ _ _ _
   | exact ih3 _ _ _ _ _
   | exact chicaneref15_Plain.mono _ _
   | exact LeO.none _
   | refine LeO.ite ?_ ?_
   | refine LeO.bind ?_ (fun _ => ?_)
  ·intro y0 y1 y2 y3 y4
   unfold chicaneref15_Join.l1
   repeat' first
   | (with_reducible exact ih0 _ _ _)
   | (with_reducible exact ih1 _ _ _)
   | (with_reducible exact ih2 _ _ _ _)
   | (with_reducible exact ih3 _ _ _ _ _)
   | (with_reducible exact chicaneref15_Plain.mono _ _)
   | (with_reducible exact LeO.refl _)
   | (with_reducible exact LeO.none _)
   | (with_reducible refine LeO.ite ?_ ?_)
   | (with_reducible refine LeO.bind ?_ (fun _ => ?_))
   | exact ih0 _ _ _
   | exact ih1 _ _ _
   | exact ih2 _ _ _ _
   | exact ih3 _ _ _ _ _
   | exact chicaneref15_Plain.mono _ _
   | exact LeO.none _
   | refine LeO.ite ?_ ?_
   | refine LeO.bind ?_ (fun _ => ?_)
theorem chicaneref15_Join.mono : ∀ a0 k, LeO (chicaneref15_Join.f k a0) (chicaneref15_Join.f (k + 1) a0) := by
 intro a0 k
 obtain ⟨ih0, ih1, ih2, ih3⟩ := chicaneref15_Join.mono_l k
 unfold chicaneref15_Join.f
 repeat' first
   | (with_reducible exact ih0 _ _ _)
   | (with_reducible exact ih1 _ _ _)
   | (with_reducible exact ih2 _ _ _ _)
   | (with_reducible exact ih3 _ _ _ _ _)
   | (with_reducible exact chicaneref15_Plain.mono _ _)
   | (with_reducible exact LeO.refl _)
   | (with_reducible exact LeO.none _)
   | (with_reducible refine LeO.ite ?_ ?_)
   | (with_reducible refine LeO.bind ?_ (fun _ => ?_))
   | exact ih0 _ _ _
   | exact ih1 _ _ _
   | exact ih2 _ _ _ _
   | exact ih3 _ _ _ _ _
   | exact chicaneref15_Plain.mono _ _
   | exact LeO.none _
   | refine LeO.ite ?_ ?_
   | refine LeO.bind ?_ (fun _ => ?_)
end Go.Proofs.YtbfeokfninedcaaDoor.PWrdA
namespace Go.Proofs.YtbfeokfninedcaaDoor.PWrdA
open Go.Proofs.YtbfeokfninedcaaDoor.Ext Go.RowKit Go.Proofs.YtbfeokfninedcaaDoorW.PrintWords Go.Proofs.YtbfeokfninedcaaDoorW.PrintLast Go.Proofs.YtbfeokfninedcaaDoorW.PrintMore
attribute [local go_sem] max2_int min2_int max_two min_two max_three min_three max_four min_four   -- for this text's walks alone
set_option linter.unusedVariables false
set_option linter.unusedSimpArgs false
mutual
def chicaneref15_Lines.l0 : Nat → ByteArray → List ByteArray → Int → Option (List ByteArray)
 | 0, _, _, _ => none
 | k + 1, x0, x3, x4 => if x4 < (x0.size : Int) then (if 0 ≤ x4 then (if (bt x0 x4) = 10 then (if x3.length < 8796093022208 then (chicaneref15_Lines.l0 k x0 (x3 ++ [(⟨#[]⟩ : ByteArray)]) (wrap64 (x4 + 1))) else (none)) else (if 0 ≤ (wrap64 ((x3.length : Int) - 1)) then (if (wrap64 ((x3.length : Int) - 1)) < (x3.length : Int) then (if x4 ≤ (wrap64 (x4 + 1)) then (if (wrap64 (x4 + 1)) ≤ (x0.size : Int) then (if (rdOf ByteArray.empty x3 (wrap64 ((x3.length : Int) - 1))).size + (x0.extract (x4 : Int).toNat ((wrap64 (x4 + 1)) : Int).toNat).size ≤ 9223372036854775807 then (chicaneref15_Lines.l0 k x0 (x3.set ((wrap64 ((x3.length : Int) - 1)) : Int).toNat ((rdOf ByteArray.empty x3 (wrap64 ((x3.length : Int) - 1))) ++ (x0.extract (x4 : Int).toNat ((wrap64 (x4 + 1)) : Int).toNat))) (wrap64 (x4 + 1))) else (none)) else (none)) else (none)) else (none)) else (none))) else (none)) else (chicaneref15_Lines.l1 k x3 0)
def chicaneref15_Lines.l1 : Nat → List ByteArray → Int → Option (List ByteArray)
 | 0, _, _ => none
 | k + 1, x3, x6 => if x6 < (x3.length : Int) then (if 0 ≤ x6 then (if ((rdOf ByteArray.empty x3 x6).size : Int) > 0 then (if 0 ≤ (wrap64 (((rdOf ByteArray.empty x3 x6).size : Int) - 1)) then (if (wrap64 (((rdOf ByteArray.empty x3 x6).size : Int) - 1)) < ((rdOf ByteArray.empty x3 x6).size : Int) then (if (bt (rdOf ByteArray.empty x3 x6) (wrap64 (((rdOf ByteArray.empty x3 x6).size : Int) - 1))) = 13 then (if (wrap64 (((rdOf ByteArray.empty x3 x6).size : Int) - 1)) ≤ ((rdOf ByteArray.empty x3 x6).size : Int) then (chicaneref15_Lines.l1 k (x3.set (x6 : Int).toNat ((rdOf ByteArray.empty x3 x6).extract 0 ((wrap64 (((rdOf ByteArray.empty x3 x6).size : Int) - 1)) : Int).toNat)) (wrap64 (x6 + 1))) else (none)) else (chicaneref15_Lines.l1 k x3 (wrap64 (x6 + 1)))) else (none)) else (none)) else (chicaneref15_Lines.l1 k x3 (wrap64 (x6 + 1)))) else (none)) else (some x3)
end
def chicaneref15_Lines.f (k : Nat) (a0 : ByteArray) : Option (List ByteArray) := chicaneref15_Lines.l0 k a0 (([(⟨#[]⟩ : ByteArray)] : List ByteArray)) 0
theorem chicaneref15_Lines.mono_l : ∀ k, (∀ y0 y1 y2, LeO (chicaneref15_Lines.l0 k y0 y1 y2) (chicaneref15_Lines.l0 (k + 1) y0 y1 y2)) ∧ (∀ y0 y1, LeO (chicaneref15_Lines.l1 k y0 y1) (chicaneref15_Lines.l1 (k + 1) y0 y1))
 | 0 => ⟨fun _ _ _ r h => by simp [chicaneref15_Lines.l0] at h, fun _ _ r h => by simp [chicaneref15_Lines.l1] at h⟩
 | k + 1 => by
  obtain ⟨ih0, ih1⟩ := chicaneref15_Lines.mono_l k
  refine ⟨?_, ?_⟩
  ·intro y0 y1 y2
   unfold chicaneref15_Lines.l0
   repeat' first
   | (with_reducible exact ih0 _ _ _)
   | (with_reducible exact ih1 _ _)
   | (with_reducible exact LeO.refl _)
   | (with_reducible exact LeO.none _)
   | (with_reducible refine LeO.ite ?_ ?_)
   | (with_reducible refine LeO.bind ?_ (fun _ => ?_))
   | exact ih0 _ _ _
   | exact ih1 _ _
   | exact LeO.none _
   | refine LeO.ite ?_ ?_
   | refine LeO.bind ?_ (fun _ => ?_)
  ·intro y0 y1
   unfold chicaneref15_Lines.l1
   repeat' first
   | (with_reducible exact ih0 _ _ _)
   | (with_reducible exact ih1 _ _)
   | (with_reducible exact LeO.refl _)
   | (with_reducible exact LeO.none _)
   | (with_reducible refine LeO.ite ?_ ?_)
   | (with_reducible refine LeO.bind ?_ (fun _ => ?_))
   | exact ih0 _ _ _
   | exact ih1 _ _
   | exact LeO.none _
   | refine LeO.ite ?_ ?_
   | refine LeO.bind ?_ (fun _ => ?_)
theorem chicaneref15_Lines.mono : ∀ a0 k, LeO (chicaneref15_Lines.f k a0) (chicaneref15_Lines.f (k + 1) a0) := by
 intro a0 k
 obtain ⟨ih0, ih1⟩ := chicaneref15_Lines.mono_l k
 unfold chicaneref15_Lines.f
 repeat' first
   | (with_reducible exact ih0 _ _ _)
   | (with_reducible exact ih1 _ _)
   | (with_reducible exact LeO.refl _)
   | (with_reducible exact LeO.none _)
   | (with_reducible refine LeO.ite ?_ ?_)
   | (with_reducible refine LeO.bind ?_ (fun _ => ?_))
   | exact ih0 _ _ _
   | exact ih1 _ _
   | exact LeO.none _
   | refine LeO.ite ?_ ?_
   | refine LeO.bind ?_ (fun _ => ?_)
def words_may.f (a0 : Int) : Option (Bool) := if a0 ≥ 32 then (if a0 ≤ 126 then (some true) else (some (a0 == 9))) else (some (a0 == 9))
set_option maxHeartbeats 8000000 in
set_option maxRecDepth 100000 in
theorem words_may.calls (a0 : Int) (r : Bool) (w : World) (h : words_may.f a0 = some r) :
  Calls Tryd.prog 17 #[.int .u8 a0] w fun e w' => e = .returned (.bool r) ∧ Drawn0 w w' := by
 have H : (if a0 ≥ 32 then (if a0 ≤ 126 then (some true) else (some (a0 == 9))) else (some (a0 == 9))) = some r := h
 clear h
 by_cases c2 : a0 ≥ 32
 ·rw [if_pos c2] at H
  have c2b0 : decide (32 ≤ a0) = true := decide_eq_true c2
  clear c2
  by_cases c3 : a0 ≤ 126
  ·rw [if_pos c3] at H
   have c3b0 : decide (a0 ≤ 126) = true := decide_eq_true c3
   clear c3
   obtain rfl := Option.some.inj H
   go_enter Tryd.func17, Tryd.ntmps17
   go_wp2
   go_ret
   exact ⟨by first | rfl | (simp; done) | (simp [*]; done), by repeat (first | exact Drawn0.refl _ | apply Drawn0.step)⟩
  ·rw [if_neg c3] at H
   have c3b0 : decide (a0 ≤ 126) = false := decide_eq_false c3
   clear c3
   obtain rfl := Option.some.inj H
   go_enter Tryd.func17, Tryd.ntmps17
   go_wp2
   go_ret
   exact ⟨by first | rfl | (simp; done) | (simp [*]; done), by repeat (first | exact Drawn0.refl _ | apply Drawn0.step)⟩
 ·rw [if_neg c2] at H
  have c2b0 : decide (32 ≤ a0) = false := decide_eq_false c2
  clear c2
  obtain rfl := Option.some.inj H
  go_enter Tryd.func17, Tryd.ntmps17
  go_wp2
  go_ret
  exact ⟨by first | rfl | (simp; done) | (simp [*]; done), by repeat (first | exact Drawn0.refl _ | apply Drawn0.step)⟩
def words_blank.f (a0 : Int) : Option (Bool) := if a0 = 32 then (some true) else (some (a0 == 9))
set_option maxHeartbeats 8000000 in
set_option maxRecDepth 100000 in
theorem words_blank.calls (a0 : Int) (r : Bool) (w : World) (h : words_blank.f a0 = some r) :
  Calls Tryd.prog 18 #[.int .u8 a0] w fun e w' => e = .returned (.bool r) ∧ Drawn0 w w' := by
 have H : (if a0 = 32 then (some true) else (some (a0 == 9))) = some r := h
 clear h
 by_cases c2 : a0 = 32
 ·rw [if_pos c2] at H
  have c2b0 : (a0 == 32) = true := beq_iff_eq.mpr c2
  have c2b1 : (a0 != 32) = false := bne_eq_false_iff_eq.mpr c2
  clear c2
  obtain rfl := Option.some.inj H
  go_enter Tryd.func18, Tryd.ntmps18
  go_wp2
  go_ret
  exact ⟨by first | rfl | (simp; done) | (simp [*]; done), by repeat (first | exact Drawn0.refl _ | apply Drawn0.step)⟩
 ·rw [if_neg c2] at H
  have c2b0 : (a0 == 32) = false := beq_eq_false_iff_ne.mpr c2
  have c2b1 : (a0 != 32) = true := bne_iff_ne.mpr c2
  obtain rfl := Option.some.inj H
  go_enter Tryd.func18, Tryd.ntmps18
  go_wp2
  go_ret
  exact ⟨by first | rfl | (simp; done) | (simp [*]; done), by repeat (first | exact Drawn0.refl _ | apply Drawn0.step)⟩
def words_Plain.l0 : Nat → ByteArray → Int → Int → Option (Bool)
 | 0, _, _, _ => none
 | k + 1, x0, x5, x6 => if x6 < x5 then (if 0 ≤ x6 then (if x6 < (x0.size : Int) then ((words_may.f (bt x0 x6)).bind fun t138 => (if t138 = true then ((words_blank.f (bt x0 x6)).bind fun t139 => (if t139 = true then (some false) else (if (bt x0 x6) = 34 then (some false) else (if (bt x0 x6) = 92 then (some false) else (words_Plain.l0 k x0 x5 (wrap64 (x6 + 1))))))) else (some false))) else (none)) else (none)) else (if x0.toList = ([] : List UInt8) then (some false) else (if 0 < (x0.size : Int) then (some ((bt x0 0) != 35)) else (none)))
def words_Plain.f (k : Nat) (a0 : ByteArray) : Option (Bool) := words_Plain.l0 k a0 (a0.size : Int) 0
theorem words_Plain.mono_l : ∀ k, (∀ y0 y1 y2, LeO (words_Plain.l0 k y0 y1 y2) (words_Plain.l0 (k + 1) y0 y1 y2))
 | 0 => fun _ _ _ r h => by simp [words_Plain.l0] at h
 | k + 1 => by
  have ih0 := words_Plain.mono_l k
  ·intro y0 y1 y2
   unfold words_Plain.l0
   repeat' first
   | (with_reducible exact ih0 _ _ _)
   | (with_reducible exact LeO.refl _)
   | (with_reducible exact LeO.none _)
   | (with_reducible refine LeO.ite ?_ ?_)
   | (with_reducible refine LeO.bind ?_ (fun _ => ?_))
   | exact ih0 _ _ _
   | exact LeO.none _
   | refine LeO.ite ?_ ?_
   | refine LeO.bind ?_ (fun _ => ?_)
theorem words_Plain.mono : ∀ a0 k, LeO (words_Plain.f k a0) (words_Plain.f (k + 1) a0) := by
 intro a0 k
 have ih0 := words_Plain.mono_l k
 unfold words_Plain.f
 repeat' first
   | (with_reducible exact ih0 _ _ _)
   | (with_reducible exact LeO.refl _)
   | (with_reducible exact LeO.none _)
   | (with_reducible refine LeO.ite ?_ ?_)
   | (with_reducible refine LeO.bind ?_ (fun _ => ?_))
   | exact ih0 _ _ _
   | exact LeO.none _
   | refine LeO.ite ?_ ?_
   | refine LeO.bind ?_ (fun _ => ?_)
set_option maxHeartbeats 8000000 in
set_option maxRecDepth 100000 in
theorem words_Plain.calls (k : Nat) (a0 : ByteArray) (r : Bool) (w : World) (h : words_Plain.f k a0 = some r) :
  Calls Tryd.prog 8 #[.string a0] w fun e w' => e = .returned (.bool r) ∧ Drawn0 w w' := by
 have H : (words_Plain.l0 k a0 (a0.size : Int) 0) = some r := h
 clear h
 have H' := Aside0.mk H
 clear H
 go_enter Tryd.func8, Tryd.ntmps8
 go_wp2
 go_loopg [6] k (fun kq v6 w' => ∃ (x6_1 : Int), v6 = .int .i64 x6_1 ∧ Aside0 (words_Plain.l0 kq a0 (a0.size : Int) x6_1 = some r) ∧ Aside0 (kq ≤ k) ∧ Drawn0 w w')
 case atStart => exact ⟨(0), (by first | rfl | (simp; done) | (simp [*]; done)), H', ⟨Nat.le_refl _⟩, by repeat (first | exact Drawn0.refl _ | apply Drawn0.step)⟩
 case round =>
  clear H'
  obtain ⟨x6_1, rfl, HA, HK1, ⟨m1, rfl⟩⟩ := hrel
  cases gk with
  | zero => exact absurd HA.out (by simp [words_Plain.l0])
  | succ k1 =>
   have H := HA.out
   clear HA
   simp only [words_Plain.l0] at H
   by_cases c2 : x6_1 < (a0.size : Int)
   ·rw [if_pos c2] at H
    have c2b0 : decide (x6_1 < (a0.size : Int)) = true := decide_eq_true c2
    clear c2
    by_cases c3 : 0 ≤ x6_1
    ·rw [if_pos c3] at H
     have c3b0 : decide (0 ≤ x6_1) = true := decide_eq_true c3
     clear c3
     by_cases c4 : x6_1 < (a0.size : Int)
     ·rw [if_pos c4] at H
      have c4b0 : decide (x6_1 < (a0.size : Int)) = true := decide_eq_true c4
      clear c4
      replace H := Option.bind_eq_some_iff.mp H
      obtain ⟨t138, A60, H⟩ := H
      replace H : (if t138 = true then ((words_blank.f (bt a0 x6_1)).bind fun t139 => (if t139 = true then (some false) else (if (bt a0 x6_1) = 34 then (some false) else (if (bt a0 x6_1) = 92 then (some false) else (words_Plain.l0 k1 a0 (a0.size : Int) (wrap64 (x6_1 + 1))))))) else (some false)) = some r := H
      have A6 := Aside0.mk A60
      clear A60
      by_cases c7 : t138 = true
      ·subst c7
       have H1 : ((words_blank.f (bt a0 x6_1)).bind fun t139 => (if t139 = true then (some false) else (if (bt a0 x6_1) = 34 then (some false) else (if (bt a0 x6_1) = 92 then (some false) else (words_Plain.l0 k1 a0 (a0.size : Int) (wrap64 (x6_1 + 1))))))) = some r := by rw [if_pos rfl] at H; exact H
       clear H
       have H := H1
       clear H1
       replace H := Option.bind_eq_some_iff.mp H
       obtain ⟨t139, A90, H⟩ := H
       replace H : (if t139 = true then (some false) else (if (bt a0 x6_1) = 34 then (some false) else (if (bt a0 x6_1) = 92 then (some false) else (words_Plain.l0 k1 a0 (a0.size : Int) (wrap64 (x6_1 + 1)))))) = some r := H
       have A9 := Aside0.mk A90
       clear A90
       by_cases c10 : t139 = true
       ·subst c10
        have H1 : (some false) = some r := by rw [if_pos rfl] at H; exact H
        clear H
        have H := H1
        clear H1
        obtain rfl := Option.some.inj H
        have p5 : 0 ≤ (x6_1 : Int) := of_decide_eq_true (by first | (with_reducible assumption) | assumption)
        have q5 : x6_1 < (a0.size : Int) := of_decide_eq_true (by first | (with_reducible assumption) | assumption)
        have hx5 := bt_at a0 x6_1
        replace p5 := eq_true p5
        replace q5 := eq_true q5
        go_wp2_with (first | ((with_reducible refine gate_callee (f := 17) rfl ?_); refine goesL_ (some 12) rfl rfl Tryd.func17 (by kernel_rfl) rfl #[.int .u8 (bt a0 x6_1)] rfl (by (try simp only [List.map_toArray, List.map_cons, List.map_nil]); first | done | rfl | (simp only [List.length_drop, List.length_take]; rfl)) ?_; (with_reducible refine (words_may.calls (bt a0 x6_1) true _ A6.out).mono ?_); rintro e w' ⟨rfl, ⟨nd, rfl⟩⟩; refine ⟨_, rfl, ?_⟩; have p8 : 0 ≤ (x6_1 : Int) := of_decide_eq_true (by first | (with_reducible assumption) | assumption); have q8 : x6_1 < (a0.size : Int) := of_decide_eq_true (by first | (with_reducible assumption) | assumption); have hx8 := bt_at a0 x6_1; replace p8 := eq_true p8; replace q8 := eq_true q8) | (go_at_call 18; (with_reducible refine (words_blank.calls (bt a0 x6_1) true _ A9.out).mono ?_); rintro e w' ⟨rfl, ⟨nd, rfl⟩⟩))
        go_ret
        exact ⟨by first | rfl | (simp; done) | (simp [*]; done), by repeat (first | exact Drawn0.refl _ | apply Drawn0.step)⟩
       ·replace c10 := Bool.eq_false_iff.mpr c10
        subst c10
        have H1 : (if (bt a0 x6_1) = 34 then (some false) else (if (bt a0 x6_1) = 92 then (some false) else (words_Plain.l0 k1 a0 (a0.size : Int) (wrap64 (x6_1 + 1))))) = some r := by rw [if_neg (show ¬ (false = true) by decide)] at H; exact H
        clear H
        have H := H1
        clear H1
        by_cases c12 : (bt a0 x6_1) = 34
        ·rw [if_pos c12] at H
         have c12b0 : ((bt a0 x6_1) == 34) = true := beq_iff_eq.mpr c12
         have c12b1 : ((bt a0 x6_1) != 34) = false := bne_eq_false_iff_eq.mpr c12
         clear c12
         obtain rfl := Option.some.inj H
         have p5 : 0 ≤ (x6_1 : Int) := of_decide_eq_true (by first | (with_reducible assumption) | assumption)
         have q5 : x6_1 < (a0.size : Int) := of_decide_eq_true (by first | (with_reducible assumption) | assumption)
         have hx5 := bt_at a0 x6_1
         replace p5 := eq_true p5
         replace q5 := eq_true q5
         go_wp2_with (first | ((with_reducible refine gate_callee (f := 17) rfl ?_); refine goesL_ (some 12) rfl rfl Tryd.func17 (by kernel_rfl) rfl #[.int .u8 (bt a0 x6_1)] rfl (by (try simp only [List.map_toArray, List.map_cons, List.map_nil]); first | done | rfl | (simp only [List.length_drop, List.length_take]; rfl)) ?_; (with_reducible refine (words_may.calls (bt a0 x6_1) true _ A6.out).mono ?_); rintro e w' ⟨rfl, ⟨nd, rfl⟩⟩; refine ⟨_, rfl, ?_⟩; have p8 : 0 ≤ (x6_1 : Int) := of_decide_eq_true (by first | (with_reducible assumption) | assumption); have q8 : x6_1 < (a0.size : Int) := of_decide_eq_true (by first | (with_reducible assumption) | assumption); have hx8 := bt_at a0 x6_1; replace p8 := eq_true p8; replace q8 := eq_true q8) | (go_at_call 18; (with_reducible refine (words_blank.calls (bt a0 x6_1) false _ A9.out).mono ?_); rintro e w' ⟨rfl, ⟨nd, rfl⟩⟩; have p11 : 0 ≤ (x6_1 : Int) := of_decide_eq_true (by first | (with_reducible assumption) | assumption); have q11 : x6_1 < (a0.size : Int) := of_decide_eq_true (by first | (with_reducible assumption) | assumption); have hx11 := bt_at a0 x6_1; replace p11 := eq_true p11; replace q11 := eq_true q11))
         go_ret
         exact ⟨by first | rfl | (simp; done) | (simp [*]; done), by repeat (first | exact Drawn0.refl _ | apply Drawn0.step)⟩
        ·rw [if_neg c12] at H
         have c12b0 : ((bt a0 x6_1) == 34) = false := beq_eq_false_iff_ne.mpr c12
         have c12b1 : ((bt a0 x6_1) != 34) = true := bne_iff_ne.mpr c12
         by_cases c14 : (bt a0 x6_1) = 92
         ·rw [if_pos c14] at H
          have c14b0 : ((bt a0 x6_1) == 92) = true := beq_iff_eq.mpr c14
          have c14b1 : ((bt a0 x6_1) != 92) = false := bne_eq_false_iff_eq.mpr c14
          clear c14
          obtain rfl := Option.some.inj H
          have p5 : 0 ≤ (x6_1 : Int) := of_decide_eq_true (by first | (with_reducible assumption) | assumption)
          have q5 : x6_1 < (a0.size : Int) := of_decide_eq_true (by first | (with_reducible assumption) | assumption)
          have hx5 := bt_at a0 x6_1
          replace p5 := eq_true p5
          replace q5 := eq_true q5
          go_wp2_with (first | ((with_reducible refine gate_callee (f := 17) rfl ?_); refine goesL_ (some 12) rfl rfl Tryd.func17 (by kernel_rfl) rfl #[.int .u8 (bt a0 x6_1)] rfl (by (try simp only [List.map_toArray, List.map_cons, List.map_nil]); first | done | rfl | (simp only [List.length_drop, List.length_take]; rfl)) ?_; (with_reducible refine (words_may.calls (bt a0 x6_1) true _ A6.out).mono ?_); rintro e w' ⟨rfl, ⟨nd, rfl⟩⟩; refine ⟨_, rfl, ?_⟩; have p8 : 0 ≤ (x6_1 : Int) := of_decide_eq_true (by first | (with_reducible assumption) | assumption); have q8 : x6_1 < (a0.size : Int) := of_decide_eq_true (by first | (with_reducible assumption) | assumption); have hx8 := bt_at a0 x6_1; replace p8 := eq_true p8; replace q8 := eq_true q8) | (go_at_call 18; (with_reducible refine (words_blank.calls (bt a0 x6_1) false _ A9.out).mono ?_); rintro e w' ⟨rfl, ⟨nd, rfl⟩⟩; have p11 : 0 ≤ (x6_1 : Int) := of_decide_eq_true (by first | (with_reducible assumption) | assumption); have q11 : x6_1 < (a0.size : Int) := of_decide_eq_true (by first | (with_reducible assumption) | assumption); have hx11 := bt_at a0 x6_1; replace p11 := eq_true p11; replace q11 := eq_true q11; have p13 : 0 ≤ (x6_1 : Int) := of_decide_eq_true (by first | (with_reducible assumption) | assumption); have q13 : x6_1 < (a0.size : Int) := of_decide_eq_true (by first | (with_reducible assumption) | assumption); have hx13 := bt_at a0 x6_1; replace p13 := eq_true p13; replace q13 := eq_true q13))
          go_ret
          exact ⟨by first | rfl | (simp; done) | (simp [*]; done), by repeat (first | exact Drawn0.refl _ | apply Drawn0.step)⟩
         ·rw [if_neg c14] at H
          have c14b0 : ((bt a0 x6_1) == 92) = false := beq_eq_false_iff_ne.mpr c14
          have c14b1 : ((bt a0 x6_1) != 92) = true := bne_iff_ne.mpr c14
          have H' := Aside0.mk H
          clear H
          have p5 : 0 ≤ (x6_1 : Int) := of_decide_eq_true (by first | (with_reducible assumption) | assumption)
          have q5 : x6_1 < (a0.size : Int) := of_decide_eq_true (by first | (with_reducible assumption) | assumption)
          have hx5 := bt_at a0 x6_1
          replace p5 := eq_true p5
          replace q5 := eq_true q5
          go_wp2_with (first | ((with_reducible refine gate_callee (f := 17) rfl ?_); refine goesL_ (some 12) rfl rfl Tryd.func17 (by kernel_rfl) rfl #[.int .u8 (bt a0 x6_1)] rfl (by (try simp only [List.map_toArray, List.map_cons, List.map_nil]); first | done | rfl | (simp only [List.length_drop, List.length_take]; rfl)) ?_; (with_reducible refine (words_may.calls (bt a0 x6_1) true _ A6.out).mono ?_); rintro e w' ⟨rfl, ⟨nd, rfl⟩⟩; refine ⟨_, rfl, ?_⟩; have p8 : 0 ≤ (x6_1 : Int) := of_decide_eq_true (by first | (with_reducible assumption) | assumption); have q8 : x6_1 < (a0.size : Int) := of_decide_eq_true (by first | (with_reducible assumption) | assumption); have hx8 := bt_at a0 x6_1; replace p8 := eq_true p8; replace q8 := eq_true q8) | (go_at_call 18; (with_reducible refine (words_blank.calls (bt a0 x6_1) false _ A9.out).mono ?_); rintro e w' ⟨rfl, ⟨nd, rfl⟩⟩; have p11 : 0 ≤ (x6_1 : Int) := of_decide_eq_true (by first | (with_reducible assumption) | assumption); have q11 : x6_1 < (a0.size : Int) := of_decide_eq_true (by first | (with_reducible assumption) | assumption); have hx11 := bt_at a0 x6_1; replace p11 := eq_true p11; replace q11 := eq_true q11; have p13 : 0 ≤ (x6_1 : Int) := of_decide_eq_true (by first | (with_reducible assumption) | assumption); have q13 : x6_1 < (a0.size : Int) := of_decide_eq_true (by first | (with_reducible assumption) | assumption); have hx13 := bt_at a0 x6_1; replace p13 := eq_true p13; replace q13 := eq_true q13))
          go_roundg k1
          case measure => have := HK1.out; omega
          case rel => exact ⟨(wrap64 (x6_1 + 1)), (by first | rfl | (simp; done) | (simp [*]; done)), H', ⟨by have := HK1.out; omega⟩, by repeat (first | exact Drawn0.refl _ | apply Drawn0.step)⟩
      ·replace c7 := Bool.eq_false_iff.mpr c7
       subst c7
       have H1 : (some false) = some r := by rw [if_neg (show ¬ (false = true) by decide)] at H; exact H
       clear H
       have H := H1
       clear H1
       obtain rfl := Option.some.inj H
       have p5 : 0 ≤ (x6_1 : Int) := of_decide_eq_true (by first | (with_reducible assumption) | assumption)
       have q5 : x6_1 < (a0.size : Int) := of_decide_eq_true (by first | (with_reducible assumption) | assumption)
       have hx5 := bt_at a0 x6_1
       replace p5 := eq_true p5
       replace q5 := eq_true q5
       go_wp2_with (first | ((with_reducible refine gate_callee (f := 17) rfl ?_); refine goesL_ (some 12) rfl rfl Tryd.func17 (by kernel_rfl) rfl #[.int .u8 (bt a0 x6_1)] rfl (by (try simp only [List.map_toArray, List.map_cons, List.map_nil]); first | done | rfl | (simp only [List.length_drop, List.length_take]; rfl)) ?_; (with_reducible refine (words_may.calls (bt a0 x6_1) false _ A6.out).mono ?_); rintro e w' ⟨rfl, ⟨nd, rfl⟩⟩; refine ⟨_, rfl, ?_⟩))
       go_ret
       exact ⟨by first | rfl | (simp; done) | (simp [*]; done), by repeat (first | exact Drawn0.refl _ | apply Drawn0.step)⟩
     ·rw [if_neg c4] at H
      exact absurd H (by simp)
    ·rw [if_neg c3] at H
     exact absurd H (by simp)
   ·rw [if_neg c2] at H
    have c2b0 : decide (x6_1 < (a0.size : Int)) = false := decide_eq_false c2
    clear c2
    by_cases c15 : a0.toList = ([] : List UInt8)
    ·rw [if_pos c15] at H
     have c15b0 : (a0.toList == ([] : List UInt8)) = true := beq_iff_eq.mpr c15
     have c15b1 : (a0.toList != ([] : List UInt8)) = false := bne_eq_false_iff_eq.mpr c15
     clear c15
     obtain rfl := Option.some.inj H
     go_wp2
     go_ret
     exact ⟨by first | rfl | (simp; done) | (simp [*]; done), by repeat (first | exact Drawn0.refl _ | apply Drawn0.step)⟩
    ·rw [if_neg c15] at H
     have c15b0 : (a0.toList == ([] : List UInt8)) = false := beq_eq_false_iff_ne.mpr c15
     have c15b1 : (a0.toList != ([] : List UInt8)) = true := bne_iff_ne.mpr c15
     by_cases c16 : 0 < (a0.size : Int)
     ·rw [if_pos c16] at H
      have c16b0 : decide (0 < (a0.size : Int)) = true := decide_eq_true c16
      have c16b1 : decide (0 < a0.size) = true := decide_eq_true (by omega)
      clear c16
      obtain rfl := Option.some.inj H
      have p17 : 0 ≤ (0 : Int) := (by omega)
      have q17 : 0 < a0.size := (by have : (0 : Int) < (a0.size : Int) := of_decide_eq_true (by first | (with_reducible assumption) | assumption); omega)
      have hx17 : ∀ h : 0 < a0.size, ((a0[0]'h).toNat : Int) = bt a0 0 := bt_at a0 0
      clear p17
      have qi17 : (0 < (a0.size : Int)) = True := eq_true (of_decide_eq_true (by first | (with_reducible assumption) | assumption))
      replace q17 := eq_true q17
      go_wp2
      go_ret
      exact ⟨by first | rfl | (simp; done) | (simp [*]; done), by repeat (first | exact Drawn0.refl _ | apply Drawn0.step)⟩
     ·rw [if_neg c16] at H
      exact absurd H (by simp)
end Go.Proofs.YtbfeokfninedcaaDoor.PWrdA
set_option linter.unusedVariables false
set_option linter.unusedSimpArgs false
namespace Go.Proofs.YtbfeokfninedcaaDoor.Ext
open Go.RowKit Go.Proofs.YtbfeokfninedcaaDoorW.PrintWords Go.Proofs.YtbfeokfninedcaaDoorW.PrintLast
theorem on_disable (w : World) : (callFunc 65 #[]).run Tryd.prog w = .ok (.value (.tuple #[])) w := run_call_mark0 Tryd.func65 (by kernel_rfl) (by kernel_rfl) (by kernel_rfl) .disable (by kernel_rfl) w
theorem on_enable (w : World) : (callFunc 67 #[]).run Tryd.prog w = .ok (.value (.tuple #[])) w := run_call_mark0 Tryd.func67 (by kernel_rfl) (by kernel_rfl) (by kernel_rfl) .enable (by kernel_rfl) w
theorem on_acquire (a : Addr) (w : World) : (callFunc 68 #[.pointer (some a)]).run Tryd.prog w = .ok (.value (.tuple #[])) w := run_call_marked Tryd.func68 (by kernel_rfl) (by kernel_rfl) (by kernel_rfl) .acquire (by kernel_rfl) a w
theorem on_release (a : Addr) (w : World) : (callFunc 70 #[.pointer (some a)]).run Tryd.prog w = .ok (.value (.tuple #[])) w := run_call_marked Tryd.func70 (by kernel_rfl) (by kernel_rfl) (by kernel_rfl) .releaseMerge (by kernel_rfl) a w
theorem on_store_deferred (a : Addr) (x : Value) (u : FrameMode) (w : World) (hc : w.cell? a = some x) (hz : w.frozen? a = false) :
    CallsD Tryd.prog 45 #[.pointer (some a), .bool true] u w fun e u' w' => u' = u ∧ (e = .returned (.tuple #[]) ∧ w' = w.drew.setCell a (.int .u32 1)) := by
  have hc' : w.drew.cell? a = some x := by go_simp
  have hz' : w.drew.frozen? a = false := by go_simp
  have hst := run_call_store (P := Tryd.prog) Tryd.func56 (by kernel_rfl) (by kernel_rfl) (by kernel_rfl) (by kernel_rfl) (k := .u32) (y := 1) hc' hz'
  go_enter_d Tryd.func45, Tryd.ntmps45
  go_wp2
  go_region_calls
  all_goals (go_end0; exact ⟨rfl, rfl⟩)
set_option maxRecDepth 100000 in
theorem on_unlock_deferred (a : Addr) (u : FrameMode) (w : World) (hc : w.cell? a = some (.int .i32 1)) (hz : w.frozen? a = false) :
    CallsD Tryd.prog 44 #[.pointer (some a)] u w fun e u' w' => u' = u ∧ (e = .returned (.tuple #[]) ∧ w' = w.setCell a (.int .i32 0)) := by
  have hd := on_disable
  have he := on_enable
  have hr := on_release
  have hadd := run_call_add (P := Tryd.prog) Tryd.func71 (by kernel_rfl) (by kernel_rfl) (by kernel_rfl) .i32 (by kernel_rfl) (y := -1) (s := 0) hc hz (by simp [go_sem]; rfl)
  have hcv := run_convert_to_unsafe (P := Tryd.prog) (src := 112) (dst := 89) Tryd.underlying112 Tryd.underlying89 (by kernel_rfl) hc
  go_enter_d Tryd.func44, Tryd.ntmps44
  go_wp2
  go_end0
  go_wp2
  go_end0
  exact ⟨rfl, rfl⟩
set_option maxRecDepth 100000 in
theorem on_lock_free (a : Addr) (w : World) (hc : w.cell? a = some (.int .i32 0)) (hz : w.frozen? a = false) :
    Calls Tryd.prog 43 #[.pointer (some a)] w fun e w' => e = .returned (.tuple #[]) ∧ w' = w.setCell a (.int .i32 1) := by
  have hd := on_disable
  have he := on_enable
  have ha := on_acquire
  have hcas := run_call_cas_hit (P := Tryd.prog) Tryd.func66 (by kernel_rfl) (by kernel_rfl) (by kernel_rfl) .i32 (by kernel_rfl) (y := 1) hc hz
  have hc' : (w.setCell a (.int .i32 1)).cell? a = some (.int .i32 1) := World.cell?_setCell_same w a _ hc
  have hcv := run_convert_to_unsafe (P := Tryd.prog) (src := 112) (dst := 89) Tryd.underlying112 Tryd.underlying89 (by kernel_rfl) hc'
  go_enter Tryd.func43, Tryd.ntmps43
  go_wp2
  first | go_end0 | (simp only [Exit.inBlock, Exit.then]; refine bodyPost_ret (results_none rfl _ _ _) rfl ?_) | refine bodyPost_ret (results_none rfl _ _ _) rfl ?_
  go_wp2
  go_end0
  exact ⟨rfl, rfl⟩
theorem lt_of_cell {w : World} {g j : Nat} {v : Value} (h : w.cell? ⟨g, j, none⟩ = some v) : g < w.heap.size := by
  have := World.block_lt_of_cell? _ _ h
  exact this
def cBn (n : Nat) (f34 f92 tr : Value) : Array Value := ((((List.replicate n (Value.slice none 0 0)).set 34 f34).set 92 f92).set 256 tr).toArray
theorem cBn_size (n : Nat) (f34 f92 tr : Value) : (cBn n f34 f92 tr).size = n := by simp [cBn]
theorem cBn_34 (n : Nat) (h : 256 < n) (f34 f92 tr : Value) : (cBn n f34 f92 tr)[34]? = some f34 := by simp [cBn, show 34 < n by omega]
theorem cBn_92 (n : Nat) (h : 256 < n) (f34 f92 tr : Value) : (cBn n f34 f92 tr)[92]? = some f92 := by simp [cBn, show 92 < n by omega]
theorem cBn_256 (n : Nat) (h : 256 < n) (f34 f92 tr : Value) : (cBn n f34 f92 tr)[256]? = some tr := by simp [cBn, h]
theorem cBn_at (n : Nat) (h : 256 < n) (f34 f92 tr : Value) (b : Nat) (hb : b < 256) (h1 : b ≠ 34) (h2 : b ≠ 92) : (cBn n f34 f92 tr)[b]? = some (.slice none 0 0) := by
  simp [cBn, List.getElem?_set, Ne.symm h1, Ne.symm h2, show 256 ≠ b by omega, List.getElem?_replicate, show b < n by omega]
theorem cBn_set34 (n : Nat) (f34 f92 tr v : Value) : (cBn n f34 f92 tr).setIfInBounds 34 v = cBn n v f92 tr := by
  simp only [cBn, List.setIfInBounds_toArray]
  rw [List.set_comm _ _ (by decide : 256 ≠ 34), List.set_comm _ _ (by decide : 92 ≠ 34), List.set_set]
theorem cBn_set92 (n : Nat) (f34 f92 tr v : Value) : (cBn n f34 f92 tr).setIfInBounds 92 v = cBn n f34 v tr := by
  simp only [cBn, List.setIfInBounds_toArray]
  rw [List.set_comm _ _ (by decide : 256 ≠ 92), List.set_set]
theorem cBn_set256 (n : Nat) (f34 f92 tr v : Value) : (cBn n f34 f92 tr).setIfInBounds 256 v = cBn n f34 f92 v := by
  simp only [cBn, List.setIfInBounds_toArray]
  rw [List.set_set]
theorem cBn_new (n : Nat) (tr : Value) : (List.replicate n (Value.slice none 0 0)).set 256 tr = (cBn n (.slice none 0 0) (.slice none 0 0) tr).toList := by
  simp only [cBn]
  have e : ∀ k, (List.replicate n (Value.slice none 0 0)).set k (Value.slice none 0 0) = List.replicate n (Value.slice none 0 0) := by
    intro k
    apply List.ext_getElem?
    intro i
    rw [List.getElem?_set]
    split <;> simp_all [List.getElem?_replicate]
  rw [e, e]
theorem cBn_one (n : Nat) (tr : Value) (h : tr.oneCell' = true) : (cBn n (.slice none 0 0) (.slice none 0 0) tr).all (·.oneCell') = true := by
  have : ∀ v ∈ (List.replicate n (Value.slice none 0 0)).set 256 tr, v.oneCell' = true := by
    intro v hv
    rcases List.mem_or_eq_of_mem_set hv with hv | rfl
    · rw [List.eq_of_mem_replicate hv]; rfl
    · exact h
  rw [← Array.all_toList, ← cBn_new]
  exact List.all_eq_true.2 this
@[irreducible] def nB : Nat := 257
theorem nB_is : nB = 257 := by unfold nB; rfl
theorem nB_big : 256 < nB := by rw [nB_is]; decide
def cB (f34 f92 tr : Value) : Array Value := cBn nB f34 f92 tr
theorem cB_size (f34 f92 tr : Value) : (cB f34 f92 tr).size = nB := cBn_size _ _ _ _
theorem cB_34 (f34 f92 tr : Value) : (cB f34 f92 tr)[34]? = some f34 := cBn_34 _ nB_big _ _ _
theorem cB_92 (f34 f92 tr : Value) : (cB f34 f92 tr)[92]? = some f92 := cBn_92 _ nB_big _ _ _
theorem cB_256 (f34 f92 tr : Value) : (cB f34 f92 tr)[256]? = some tr := cBn_256 _ nB_big _ _ _
theorem cB_at (f34 f92 tr : Value) (b : Nat) (hb : b < 256) (h1 : b ≠ 34) (h2 : b ≠ 92) : (cB f34 f92 tr)[b]? = some (.slice none 0 0) := cBn_at _ nB_big _ _ _ b hb h1 h2
theorem cB_set34 (f34 f92 tr v : Value) : (cB f34 f92 tr).setIfInBounds 34 v = cB v f92 tr := cBn_set34 _ _ _ _ _
theorem cB_set92 (f34 f92 tr v : Value) : (cB f34 f92 tr).setIfInBounds 92 v = cB f34 v tr := cBn_set92 _ _ _ _ _
theorem cB_set256 (f34 f92 tr v : Value) : (cB f34 f92 tr).setIfInBounds 256 v = cB f34 f92 v := cBn_set256 _ _ _ _ _
set_option maxRecDepth 100000 in
theorem zero_is : Tryd.zeroCells87 = (List.replicate nB (Value.slice none 0 0)).toArray := by rw [nB_is]; kernel_rfl
theorem info_bs : (Tryd.prog.info? 87).map (·.size) = some nB := by rw [nB_is]; kernel_rfl
theorem cB_new (tr : Value) : Tryd.zeroCells87.toList.set 256 tr = (cB (.slice none 0 0) (.slice none 0 0) tr).toList := by
  rw [zero_is]
  exact cBn_new nB tr
def Byt (W : World) (v : Value) (a b : Int) : Prop := ∃ x cap c fr, v = .slice (some ⟨x, 0, none⟩) 2 cap ∧ W.heap[x]? = some (.cells c 5 fr) ∧ c[0]? = some (.int .u8 a) ∧ c[1]? = some (.int .u8 b)
theorem byt_new (W : World) (a b : UInt8) (cap : Nat) : Byt (Lib.bytesWorld W 5 ⟨#[a, b]⟩) (.slice (some ⟨W.heap.size, 0, none⟩) (ByteArray.size ⟨#[a, b]⟩) cap) a.toNat b.toNat := by
  refine ⟨_, cap, _, _, rfl, Lib.bytesWorld_at_new W 5 _, ?_, ?_⟩
  · have := Lib.bytesWorld_cell W 5 ⟨#[a, b]⟩ 0 (by show 0 < 2; omega)
    rw [cell_of_row _ _ _ _ _ _ (Lib.bytesWorld_at_new W 5 _)] at this
    exact this
  · have := Lib.bytesWorld_cell W 5 ⟨#[a, b]⟩ 1 (by show 1 < 2; omega)
    rw [cell_of_row _ _ _ _ _ _ (Lib.bytesWorld_at_new W 5 _)] at this
    exact this
theorem byt_move {W W' : World} {v : Value} {a b : Int} (h : Byt W v a b) (hm : ∀ (x : Nat) (c : Array Value) (fr : Nat × Nat), W.heap[x]? = some (Obj.cells c 5 fr) → W'.heap[x]? = W.heap[x]?) : Byt W' v a b := by
  obtain ⟨x, cap, c, fr, rfl, h1, h2, h3⟩ := h
  exact ⟨x, cap, c, fr, rfl, (hm x c fr h1).trans h1, h2, h3⟩
theorem byt_grown {W w1 : World} {v u : Value} {a b : Int} {base e n : Nat} {xs : List Value} (h : Byt W v a b) (hg : W.grownBy w1 u.ownBlock) (ho : W.ownsRow base e 1 u n xs) (he : e ≠ 5) : Byt w1 v a b :=
  byt_move h fun x c fr hx => hg.block x (blk_lt hx) (fun hh => by
    obtain ⟨cells, hc⟩ := own_typed ho x hh.symm
    rw [hx] at hc
    injection hc with hc
    injection hc with _ h2 _
    exact he h2.symm)
theorem byt_set {W : World} {v : Value} {a b : Int} {g t : Nat} {cs : Array Value} (h : Byt W v a b) (hg : W.heap[g]? = some (.cells cs t (0, 0))) (ht : t ≠ 5) (j : Nat) (u : Value) : Byt (W.setCell ⟨g, j, none⟩ u) v a b :=
  byt_move h fun x c fr hx => Below.heap_setCell W ⟨g, j, none⟩ u x (fun hh => by
    have hh : x = g := hh
    rw [hh] at hx
    rw [hx] at hg
    injection hg with hg
    injection hg with _ h2 _
    exact ht h2.symm)
theorem byt_below {W w1 : World} {v : Value} {a b : Int} (h : Byt W v a b) (hb : Below W.heap.size W w1) : Byt w1 v a b := byt_move h fun x c fr hx => hb.block x (blk_lt hx)
structure BSt (w W : World) (g : Nat) : Prop where
  ex : ∃ f34 f92 tr xs, W.heap[w.heap.size + 1]? = some (.cells (cB f34 f92 tr) 87 (0, 0)) ∧ W.ownsRow w.heap.size 9 1 tr xs.length xs ∧ Below w.heap.size w W ∧
    (2 ≤ g → f34 = .slice none 0 0 ∧ xs = []) ∧ (1 ≤ g → f92 = .slice none 0 0) ∧ (g ≤ 1 → Byt W f34 92 34 ∧ ∃ ys, xs = Value.string ⟨#[34]⟩ :: ys ∧ (g = 1 → ys = []) ∧ (g = 0 → ys = [Value.string ⟨#[92]⟩])) ∧ (g = 0 → Byt W f92 92 92)
theorem info_str : (Tryd.prog.info? 9).map (fun i => (i.zero, i.size, i.bytes)) = some (some (.string ByteArray.empty), 1, 16) := by kernel_rfl
theorem bst_start (w : World) : BSt w ((w.alloc (.cells #[.string ByteArray.empty, .string ByteArray.empty] 9)).alloc (.cells (cB (.slice none 0 0) (.slice none 0 0) (.slice (some ⟨w.heap.size, 0, none⟩) 0 2)) 87)) 2 :=
  ⟨_, _, _, [], by have := heap_alloc_new (w.alloc (.cells #[.string ByteArray.empty, .string ByteArray.empty] 9)) (.cells (cB (.slice none 0 0) (.slice none 0 0) (.slice (some ⟨w.heap.size, 0, none⟩) 0 2)) 87); simpa using this,
    (World.ownsRow_made (base := w.heap.size) (e := 9) (size := 1) w #[.string ByteArray.empty, .string ByteArray.empty] 2 (Nat.le_refl _) (by simp [maxLen]) rfl).alloc _, below_alloc (below_alloc (Below.refl _ _) _) _, fun _ => ⟨rfl, rfl⟩, fun _ => rfl, fun h => by omega, fun h => by omega⟩
theorem bst_parts {w wr w1 : World} {cs : Array Value} {tr v1 : Value} {n m j : Nat} {xs ys : List Value} {o : Obj} {s : ByteArray} {V : Value}
    (hc : wr.heap[w.heap.size + 1]? = some (.cells cs 87 (0, 0))) (ho : wr.ownsRow w.heap.size 9 1 tr n xs) (hb : Below w.heap.size w wr)
    (hown : w1.ownsRow w.heap.size 9 1 v1 m ys) (hbel : Below w.heap.size (wr.alloc o) w1) (hg : (wr.alloc o).grownBy w1 tr.ownBlock) :
    w1.heap[w.heap.size + 1]? = some (.cells cs 87 (0, 0)) ∧ (w1.setCell ⟨w.heap.size + 1, 256, none⟩ v1).heap[w.heap.size + 1]? = some (.cells (cs.setIfInBounds 256 v1) 87 (0, 0)) ∧
    (Lib.bytesWorld (w1.setCell ⟨w.heap.size + 1, 256, none⟩ v1) 5 s).heap[w.heap.size + 1]? = some (.cells (cs.setIfInBounds 256 v1) 87 (0, 0)) ∧
    ((Lib.bytesWorld (w1.setCell ⟨w.heap.size + 1, 256, none⟩ v1) 5 s).setCell ⟨w.heap.size + 1, j, none⟩ V).heap[w.heap.size + 1]? = some (.cells ((cs.setIfInBounds 256 v1).setIfInBounds j V) 87 (0, 0)) ∧
    ((Lib.bytesWorld (w1.setCell ⟨w.heap.size + 1, 256, none⟩ v1) 5 s).setCell ⟨w.heap.size + 1, j, none⟩ V).ownsRow w.heap.size 9 1 v1 m ys ∧ Below w.heap.size w ((Lib.bytesWorld (w1.setCell ⟨w.heap.size + 1, 256, none⟩ v1) 5 s).setCell ⟨w.heap.size + 1, j, none⟩ V) := by
  have hlt := blk_lt hc
  have h0 : (wr.alloc o).heap[w.heap.size + 1]? = some (.cells cs 87 (0, 0)) := (Below.heap_alloc _ _ _ hlt).trans hc
  have h1 := blk_grown h0 hg (own_ne (ho.alloc o) h0 (by decide))
  have h2 := blk_set h1 256 v1
  have hs : w.heap.size ≤ w1.heap.size := by have := blk_lt h1; omega
  have h3 : (Lib.bytesWorld (w1.setCell ⟨w.heap.size + 1, 256, none⟩ v1) 5 s).heap[w.heap.size + 1]? = _ := (Lib.bytesWorld_at_old _ _ _ _ (blk_lt h2)).trans h2
  have o2 : (w1.setCell ⟨w.heap.size + 1, 256, none⟩ v1).ownsRow w.heap.size 9 1 v1 m ys := own_setCell hown (own_ne hown h1 (by decide)) _
  have b1 : Below w.heap.size w w1 := (hb.alloc hb.size o).trans hbel
  have b2 : Below w.heap.size w (w1.setCell ⟨w.heap.size + 1, 256, none⟩ v1) := b1.setCell (by simp) _
  have b3 := bytes_below b2 (by simpa using hs) 5 s
  have o3 : (Lib.bytesWorld (w1.setCell ⟨w.heap.size + 1, 256, none⟩ v1) 5 s).ownsRow w.heap.size 9 1 v1 m ys := own_move o2 (fun k hk => Lib.bytesWorld_at_old _ _ _ _ (own_lt o2 k hk))
  exact ⟨h1, h2, h3, blk_set h3 j V, own_setCell o3 (own_ne o3 h3 (by decide)) _, b3.setCell (by simp) _⟩
theorem bst_byt {w wr w1 : World} {cs : Array Value} {tr v1 f : Value} {n m j : Nat} {xs ys : List Value} {o : Obj} {s : ByteArray} {V : Value} {a b : Int}
    (hc : wr.heap[w.heap.size + 1]? = some (.cells cs 87 (0, 0))) (ho : wr.ownsRow w.heap.size 9 1 tr n xs) (hb : Below w.heap.size w wr)
    (hown : w1.ownsRow w.heap.size 9 1 v1 m ys) (hbel : Below w.heap.size (wr.alloc o) w1) (hg : (wr.alloc o).grownBy w1 tr.ownBlock) (hf : Byt wr f a b) :
    Byt ((Lib.bytesWorld (w1.setCell ⟨w.heap.size + 1, 256, none⟩ v1) 5 s).setCell ⟨w.heap.size + 1, j, none⟩ V) f a b := by
  obtain ⟨h1, h2, h3, _⟩ := bst_parts (j := 0) (s := s) (V := V) hc ho hb hown hbel hg
  have f1 : Byt w1 f a b := byt_grown (byt_below hf (below_alloc (Below.refl _ _) o)) hg (ho.alloc o) (by decide)
  have f2 := byt_set f1 h1 (by decide) 256 v1
  exact byt_set (byt_below f2 (bytes_below (Below.refl _ _) (Nat.le_refl _) 5 s)) h3 (by decide) j V
theorem bst_new {w W : World} {cs : Array Value} {a b : UInt8} {cap j : Nat} {V : Value} (h2 : W.heap[w.heap.size + 1]? = some (.cells cs 87 (0, 0))) :
    Byt ((Lib.bytesWorld W 5 ⟨#[a, b]⟩).setCell ⟨w.heap.size + 1, j, none⟩ V) (.slice (some ⟨W.heap.size, 0, none⟩) (ByteArray.size ⟨#[a, b]⟩) cap) a.toNat b.toNat :=
  byt_set (byt_new W a b cap) ((Lib.bytesWorld_at_old _ _ _ _ (blk_lt h2)).trans h2) (by decide) j V
theorem bst_new1 {w w1 : World} {cs : Array Value} {v1 : Value} {a b : UInt8} {cap j : Nat} {V : Value} (h2 : (w1.setCell ⟨w.heap.size + 1, 256, none⟩ v1).heap[w.heap.size + 1]? = some (.cells cs 87 (0, 0))) :
    Byt ((Lib.bytesWorld (w1.setCell ⟨w.heap.size + 1, 256, none⟩ v1) 5 ⟨#[a, b]⟩).setCell ⟨w.heap.size + 1, j, none⟩ V) (.slice (some ⟨w1.heap.size, 0, none⟩) 2 cap) a.toNat b.toNat := by
  have h := bst_new (a := a) (b := b) (cap := cap) (j := j) (V := V) h2
  rw [show (w1.setCell ⟨w.heap.size + 1, 256, none⟩ v1).heap.size = w1.heap.size by simp] at h
  exact h
set_option maxRecDepth 100000 in
set_option maxHeartbeats 4000000 in
theorem rp_build (w : World) (R g c : Nat) (x0 x1 x2 x3 : Value) (hR : w.heap[R]? = some (.cells #[x0, x1, x2, x3, .slice (some ⟨g, 0, none⟩) 4 c] 57 (0, 0)))
    (h0 : w.cell? ⟨g, 0, none⟩ = some (.string ⟨#[92]⟩)) (h1 : w.cell? ⟨g, 1, none⟩ = some (.string ⟨#[92, 92]⟩)) (h2 : w.cell? ⟨g, 2, none⟩ = some (.string ⟨#[34]⟩)) (h3 : w.cell? ⟨g, 3, none⟩ = some (.string ⟨#[92, 34]⟩)) :
    Calls Tryd.prog 35 #[.pointer (some ⟨R, 0, none⟩)] w fun e w' => e = .returned (.iface 88 (.pointer (some ⟨w.heap.size + 1, 0, none⟩))) ∧ BSt w w' 0 := by
  have r4 : w.cell? ⟨R, 4, none⟩ = some (.slice (some ⟨g, 0, none⟩) 4 c) := (blk_cell hR 4).trans rfl
  have hmk : ∀ w, (Instr.makeSlice 22 (.int .i64 0) (.int .i64 2)).run Tryd.prog w = .ok (.slice (some ⟨w.heap.size, 0, none⟩) 0 2) (w.alloc (.cells #[.string ByteArray.empty, .string ByteArray.empty] 9)) := fun _ => by kernel_rfl
  have hst := run_storeCells_new (P := Tryd.prog) (w.alloc (.cells #[.string ByteArray.empty, .string ByteArray.empty] 9)) 87 Tryd.zeroCells87 (cB (.slice none 0 0) (.slice none 0 0) (.slice (some ⟨w.heap.size, 0, none⟩) 0 2)) (by rw [cB_size]; exact info_bs) (by rw [cB_size, zero_is]; simp) (cBn_one _ _ rfl)
  rw [← cB_new, show (w.alloc (.cells #[.string ByteArray.empty, .string ByteArray.empty] 9)).heap.size = w.heap.size + 1 by simp] at hst
  have hr0 := lt_of_cell h0
  have HS := Lib.hid (bst_start w)
  go_enter Tryd.func35, Tryd.ntmps35
  go_wp2_with fail
  refine wp_loop_rounds 3 ?_
  rw [rounds_succ]
  go_wp2_with fail
  rw [rounds_succ]
  go_wp2_with fail
  rw [rounds_succ]
  go_wp2_with fail
  go_loopg [12] 2 (fun g v12 W => g ≤ 2 ∧ v12 = .int .i64 (2 * (g : Int) - 2) ∧ BSt w W g)
  case atStart => exact ⟨by omega, rfl, HS.out⟩
  case round =>
    obtain ⟨hg2, rfl, hB⟩ := hrel
    clear hst hmk HS r4
    obtain ⟨f34, f92, tr, xs, hc, ho, hb, p2, p1, q1, q0⟩ := hB.ex
    have hsz := hb.size
    have k0 := (hb.cell (p := ⟨g, 0, none⟩) hr0).trans h0
    have k1 := (hb.cell (p := ⟨g, 1, none⟩) hr0).trans h1
    have k2 := (hb.cell (p := ⟨g, 2, none⟩) hr0).trans h2
    have k3 := (hb.cell (p := ⟨g, 3, none⟩) hr0).trans h3
    clear h0 h1 h2 h3
    have qT : ∀ (w : World) (a : Option Addr) (n c n' c' : Nat), (binOp .eql 39 (.slice a n c) (.slice none n' c')).run Tryd.prog w = .ok (.bool a.isNone) w := fun w a n c n' c' => Lib.run_eql_slice_nil w _ _ a n c n' c' Tryd.underlying39
    have hix : ∀ h, ((⟨#[34]⟩ : ByteArray)[0]'h).toNat = 34 := fun _ => rfl
    have hiy : ∀ h, ((⟨#[92]⟩ : ByteArray)[0]'h).toNat = 92 := fun _ => rfl
    have hgk : gk = 2 ∨ gk = 1 ∨ gk = 0 := by omega
    rcases hgk with rfl | rfl | rfl
    · obtain ⟨rfl, rfl⟩ := p2 (Nat.le_refl _)
      obtain rfl := p1 (by omega)
      clear p2 p1 q1 q0
      obtain ⟨At, ct, rfl⟩ := own_slice ho
      have c34 := (blk_cell hc 34).trans (cB_34 _ _ _)
      have c256 := (blk_cell hc 256).trans (cB_256 _ _ _)
      have hcv : (convert 39 9 (.slice (some ⟨wr.heap.size, 0, none⟩) 1 1)).run Tryd.prog (wr.alloc (.cells #[.int .u8 34] 5)) = .ok (.string ⟨#[34]⟩) (wr.alloc (.cells #[.int .u8 34] 5)) :=
        own_string (P := Tryd.prog) Tryd.underlying39 Tryd.underlying5 Tryd.underlying9 (own_lit wr 0 5 .u8 [34] (Nat.zero_le _) (by simp))
      have kc := fun W => print_bytes (P := Tryd.prog) 9 39 5 Tryd.underlying9 Tryd.underlying39 Tryd.underlying5 ⟨#[92, 34]⟩ W
      have HC := Lib.hid hc
      have HO := Lib.hid ho
      have HB := Lib.hid hb
      clear hc ho hb hB
      go_wp2_with (at_builtin; refine print_append (w0 := _) w.heap.size rfl (.tmp 119) (.tmp 123) 22 9 (.string ByteArray.empty) 16 rfl Tryd.underlying22 info_str rfl (by decide) (.slice At ([] : List Value).length ct) [] (.string ⟨#[34]⟩) rfl (by first | rfl | (rw [show ∀ (X : World) o, (X.alloc o).heap.size = X.heap.size + 1 from fun X o => by simp]; done) | (rw [show ∀ (X : World) o, (X.alloc o).heap.size = X.heap.size + 1 from fun X o => by simp]; rfl)) rfl (HO.out.alloc _) (Below.refl _ _) (by rw [show ∀ (X : World) o, (X.alloc o).heap.size = X.heap.size + 1 from fun X o => by simp]; omega) (by simp) ?_; intro v1 w1 hown hbel hg hat; obtain ⟨Av, cv, ev⟩ := own_slice hown; subst ev; replace hown : w1.ownsRow w.heap.size 9 1 (.slice Av 1 cv) 1 [Value.string ⟨#[34]⟩] := hown; obtain ⟨g1, g2, g3, _⟩ := bst_parts (j := 34) (s := ⟨#[92, 34]⟩) (V := .bool true) HC.out HO.out HB.out hown hbel hg; have e1 := (blk_cell g1 256).trans (cB_256 _ _ _); have e2 := blk_frozen g1 256; have e3 := (blk_cell g3 34).trans ((congrArg (fun (c : Array Value) => c[34]?) (cB_set256 _ _ _ _)).trans (cB_34 _ _ _)); have e4 := blk_frozen g3 34; have HX := Lib.hid (And.intro hown (And.intro hbel hg)); clear hown hbel hg hat g1 g2 g3)
      go_roundg 1
      case measure => omega
      case rel =>
        obtain ⟨hown, hbel, hg⟩ := HX.out
        have P := fun V => bst_parts (j := 34) (s := ⟨#[92, 34]⟩) (V := V) HC.out HO.out HB.out hown hbel hg
        exact ⟨by omega, rfl, ⟨_, _, _, [Value.string ⟨#[34]⟩], ((P _).2.2.2.1).trans (by rw [cB_set256, cB_set34]), (P _).2.2.2.2.1, (P _).2.2.2.2.2, fun h => by omega, fun _ => rfl, fun _ => ⟨bst_new1 (a := 92) (b := 34) (P (.bool true)).2.1, [], rfl, fun _ => rfl, fun h => by omega⟩, fun h => by omega⟩⟩
    · obtain rfl := p1 (Nat.le_refl _)
      obtain ⟨hf34, ys, rfl, hys, _⟩ := q1 (Nat.le_refl _)
      obtain rfl := hys rfl
      clear p2 p1 q1 q0 hys
      obtain ⟨At, ct, rfl⟩ := own_slice ho
      replace ho : wr.ownsRow w.heap.size 9 1 (.slice At 1 ct) 1 [Value.string ⟨#[34]⟩] := ho
      have c92 := (blk_cell hc 92).trans (cB_92 _ _ _)
      have c256 := (blk_cell hc 256).trans (cB_256 _ _ _)
      have HF := Lib.hid hf34
      clear hf34
      have hcv : (convert 39 9 (.slice (some ⟨wr.heap.size, 0, none⟩) 1 1)).run Tryd.prog (wr.alloc (.cells #[.int .u8 92] 5)) = .ok (.string ⟨#[92]⟩) (wr.alloc (.cells #[.int .u8 92] 5)) :=
        own_string (P := Tryd.prog) Tryd.underlying39 Tryd.underlying5 Tryd.underlying9 (own_lit wr 0 5 .u8 [92] (Nat.zero_le _) (by simp))
      have kc := fun W => print_bytes (P := Tryd.prog) 9 39 5 Tryd.underlying9 Tryd.underlying39 Tryd.underlying5 ⟨#[92, 92]⟩ W
      have HC := Lib.hid hc
      have HO := Lib.hid ho
      have HB := Lib.hid hb
      clear hc ho hb hB
      go_wp2_with (at_builtin; refine print_append (w0 := _) w.heap.size rfl (.tmp 119) (.tmp 123) 22 9 (.string ByteArray.empty) 16 rfl Tryd.underlying22 info_str rfl (by decide) (.slice At 1 ct) [Value.string ⟨#[34]⟩] (.string ⟨#[92]⟩) rfl (by first | rfl | (rw [show ∀ (X : World) o, (X.alloc o).heap.size = X.heap.size + 1 from fun X o => by simp]; done) | (rw [show ∀ (X : World) o, (X.alloc o).heap.size = X.heap.size + 1 from fun X o => by simp]; rfl)) rfl (HO.out.alloc _) (Below.refl _ _) (by rw [show ∀ (X : World) o, (X.alloc o).heap.size = X.heap.size + 1 from fun X o => by simp]; omega) (by simp) ?_; intro v1 w1 hown hbel hg hat; obtain ⟨Av, cv, ev⟩ := own_slice hown; subst ev; replace hown : w1.ownsRow w.heap.size 9 1 (.slice Av 2 cv) 2 [Value.string ⟨#[34]⟩, Value.string ⟨#[92]⟩] := hown; obtain ⟨g1, g2, g3, _⟩ := bst_parts (j := 92) (s := ⟨#[92, 92]⟩) (V := .bool true) HC.out HO.out HB.out hown hbel hg; have e1 := (blk_cell g1 256).trans (cB_256 _ _ _); have e2 := blk_frozen g1 256; have e3 := (blk_cell g3 92).trans ((congrArg (fun (c : Array Value) => c[92]?) (cB_set256 _ _ _ _)).trans (cB_92 _ _ _)); have e4 := blk_frozen g3 92; have HX := Lib.hid (And.intro hown (And.intro hbel hg)); clear hown hbel hg hat g1 g2 g3)
      go_roundg 0
      case measure => omega
      case rel =>
        obtain ⟨hown, hbel, hg⟩ := HX.out
        have P := fun V => bst_parts (j := 92) (s := ⟨#[92, 92]⟩) (V := V) HC.out HO.out HB.out hown hbel hg
        exact ⟨by omega, rfl, ⟨_, _, _, [Value.string ⟨#[34]⟩, Value.string ⟨#[92]⟩], ((P _).2.2.2.1).trans (by rw [cB_set256, cB_set92]), (P _).2.2.2.2.1, (P _).2.2.2.2.2, fun h => by omega, fun h => by omega, fun _ => ⟨bst_byt HC.out HO.out HB.out hown hbel hg HF.out, [Value.string ⟨#[92]⟩], rfl, fun h => by omega, fun _ => rfl⟩, fun _ => bst_new1 (a := 92) (b := 92) (P (.bool true)).2.1⟩⟩
    · have HBB := Lib.hid hB
      clear hB hc ho hb p2 p1 q1 q0
      go_wp2_with fail
      go_ret
      exact ⟨rfl, HBB.out⟩
end Go.Proofs.YtbfeokfninedcaaDoor.Ext
set_option linter.unusedVariables false
set_option linter.unusedSimpArgs false
namespace Go.Proofs.YtbfeokfninedcaaDoor.WP
def may (c : UInt8) : Bool := (decide (32 ≤ c.toNat) && decide (c.toNat ≤ 126)) || decide (c.toNat = 9)
def blk (c : UInt8) : Bool := decide (c.toNat = 32) || decide (c.toNat = 9)
inductive Mode
  | btw | rest | quo | esc | fin | pla
abbrev Res := List (List UInt8) × Nat × Nat
def run (m : Mode) (ws : List (List UInt8)) (w : List UInt8) (i : Nat) : List UInt8 → Res
  | [] => match m with
    | .btw | .rest => (ws, i, 0)
    | .pla | .fin => (ws ++ [w], i, 0)
    | .quo | .esc => ([], i, 150)
  | c :: r => match m with
    | .btw => if blk c = true then run .btw ws [] (i + 1) r else if c.toNat = 35 then run .rest ws [] (i + 1) r else if may c = false then ([], i, 150)
        else if ws.length = 16 then ([], i, 151) else if c.toNat = 34 then run .quo ws [] (i + 1) r else if c.toNat = 92 then ([], i, 150) else run .pla ws [c] (i + 1) r
    | .rest => if may c = false then ([], i, 150) else run .rest ws [] (i + 1) r
    | .quo => if may c = false then ([], i, 150) else if c.toNat = 34 then run .fin ws w (i + 1) r else if c.toNat = 92 then run .esc ws w (i + 1) r else run .quo ws (w ++ [c]) (i + 1) r
    | .esc => if c.toNat = 34 ∨ c.toNat = 92 then run .quo ws (w ++ [c]) (i + 1) r else ([], i, 150)
    | .fin => if blk c = true then run .btw (ws ++ [w]) [] (i + 1) r else ([], i, 150)
    | .pla => if blk c = true then run .btw (ws ++ [w]) [] (i + 1) r else if may c = false ∨ c.toNat = 34 ∨ c.toNat = 92 then ([], i, 150) else run .pla ws (w ++ [c]) (i + 1) r
def split (s : List UInt8) : Res := if 256 < s.length then ([], 256, 150) else run .btw [] [] 0 s
def pb (c : UInt8) : Bool := may c && !blk c && !decide (c.toNat = 34) && !decide (c.toNat = 92)
def plain : List UInt8 → Bool
  | [] => false
  | c :: r => !decide (c.toNat = 35) && (c :: r).all pb
def es : List UInt8 → List UInt8
  | [] => []
  | c :: r => if c.toNat = 34 ∨ c.toNat = 92 then 92 :: c :: es r else c :: es r
def qt (s : List UInt8) : List UInt8 := if plain s = true then s else 34 :: (es s ++ [34])
def sep : List (List UInt8) → List UInt8
  | [] => []
  | [a] => a
  | a :: b :: l => a ++ 32 :: sep (b :: l)
def join (l : List (List UInt8)) : List UInt8 :=
  if 16 < l.length then [] else if l.all (·.all may) = false then [] else if 256 < (sep (l.map qt)).length then [] else sep (l.map qt)
theorem run_end (ws : List (List UInt8)) (w : List UInt8) (i : Nat) (m : Mode) (hm : m = .pla ∨ m = .fin) (r : List UInt8) (hr : ∀ c t, r = c :: t → blk c = true) :
    run m ws w i r = run .btw (ws ++ [w]) [] i r := by
  cases r with
  | nil => rcases hm with rfl | rfl <;> rfl
  | cons c t =>
    have h := hr c t rfl
    rcases hm with rfl | rfl <;> simp [run, h]
theorem pb_iff (c : UInt8) : pb c = true ↔ may c = true ∧ blk c = false ∧ c.toNat ≠ 34 ∧ c.toNat ≠ 92 := by
  simp [pb, and_assoc]
theorem run_pla (ws : List (List UInt8)) (t : List UInt8) : ∀ (w : List UInt8) (i : Nat) (r : List UInt8), t.all pb = true → run .pla ws w i (t ++ r) = run .pla ws (w ++ t) (i + t.length) r := by
  induction t with
  | nil => intro w i r _; simp
  | cons c t ih =>
    intro w i r h
    simp only [List.all_cons, Bool.and_eq_true] at h
    obtain ⟨h1, h2, h3, h4⟩ := (pb_iff c).1 h.1
    rw [List.cons_append, run]
    simp only [h1, h2, h3, h4]
    simp only [Bool.false_eq_true, if_false, or_self, Bool.true_eq_false]
    rw [ih _ _ _ h.2]
    simp [Nat.add_comm, Nat.add_left_comm]
theorem may34 (c : UInt8) (h : c.toNat = 34) : may c = true := by simp [may, h]
theorem may92 (c : UInt8) (h : c.toNat = 92) : may c = true := by simp [may, h]
theorem blk34 (c : UInt8) (h : c.toNat = 34) : blk c = false := by simp [blk, h]
theorem run_quo (ws : List (List UInt8)) (t : List UInt8) : ∀ (w : List UInt8) (i : Nat) (r : List UInt8), t.all may = true → run .quo ws w i (es t ++ r) = run .quo ws (w ++ t) (i + (es t).length) r := by
  induction t with
  | nil => intro w i r _; simp [es]
  | cons c t ih =>
    intro w i r h
    simp only [List.all_cons, Bool.and_eq_true] at h
    by_cases hc : c.toNat = 34 ∨ c.toNat = 92
    · have e : es (c :: t) = 92 :: c :: es t := by simp [es, hc]
      rw [e, List.cons_append, run, may92 92 rfl]
      simp only [Bool.true_eq_false, if_false]
      rw [if_neg (by decide), if_pos (by decide), List.cons_append, run]
      simp only [hc, if_true]
      rw [ih _ _ _ h.2]
      congr 1
      · simp
      · simp only [List.length_cons]; omega
    · have e : es (c :: t) = c :: es t := by simp [es, hc]
      rw [e, List.cons_append, run, h.1]
      simp only [Bool.true_eq_false, if_false]
      rw [if_neg (by omega), if_neg (by omega), ih _ _ _ h.2]
      congr 1
      · simp
      · simp only [List.length_cons]; omega
theorem run_blk (ws : List (List UInt8)) (b : List UInt8) : ∀ (i : Nat) (r : List UInt8), b.all blk = true → run .btw ws [] i (b ++ r) = run .btw ws [] (i + b.length) r := by
  induction b with
  | nil => intro i r _; simp
  | cons c t ih =>
    intro i r h
    simp only [List.all_cons, Bool.and_eq_true] at h
    rw [List.cons_append, run]
    simp only [h.1, if_true]
    rw [ih _ _ h.2]
    simp [Nat.add_comm, Nat.add_left_comm]
theorem run_word (ws : List (List UInt8)) (s : List UInt8) (i : Nat) (r : List UInt8) (hw : ws.length < 16) (hs : s.all may = true) (hr : ∀ c t, r = c :: t → blk c = true) :
    run .btw ws [] i (qt s ++ r) = run .btw (ws ++ [s]) [] (i + (qt s).length) r := by
  unfold qt
  by_cases hp : plain s = true
  · rw [if_pos hp]
    cases s with
    | nil => simp [plain] at hp
    | cons c t =>
      simp only [plain, List.all_cons, Bool.and_eq_true, Bool.not_eq_true', decide_eq_false_iff_not] at hp
      obtain ⟨p1, p2, p3⟩ := hp
      obtain ⟨h1, h2, h3, h4⟩ := (pb_iff c).1 p2
      rw [List.cons_append, run]
      simp only [h1, h2, h3, h4, p1]
      simp only [Bool.false_eq_true, if_false, Bool.true_eq_false]
      rw [if_neg (by omega), run_pla ws t _ _ _ p3, run_end _ _ _ _ (.inl rfl) r hr]
      simp [Nat.add_comm, Nat.add_left_comm]
  · rw [if_neg hp]
    rw [List.cons_append, run, blk34 34 rfl, may34 34 rfl]
    simp only [Bool.false_eq_true, if_false, Bool.true_eq_false]
    rw [if_neg (by decide), if_neg (by omega), if_pos (by decide), List.append_assoc, run_quo ws s _ _ _ hs, List.cons_append, run, may34 34 rfl]
    simp only [Bool.true_eq_false, if_false]
    rw [if_pos (by decide), List.nil_append, List.nil_append, run_end _ _ _ _ (.inr rfl) r hr]
    congr 1
    simp only [List.length_cons, List.length_append, List.length_nil]
    omega
theorem run_sep (l : List (List UInt8)) : ∀ (ws : List (List UInt8)) (i : Nat) (b : List UInt8), ws.length + l.length ≤ 16 → l.all (·.all may) = true → b.all blk = true →
    run .btw ws [] i (sep (l.map qt) ++ b) = (ws ++ l, i + (sep (l.map qt) ++ b).length, 0) := by
  induction l with
  | nil =>
    intro ws i b _ _ hb
    have := run_blk ws b i [] hb
    simp only [List.append_nil] at this
    simp only [List.map_nil, sep, List.nil_append, List.append_nil]
    rw [this]
    rfl
  | cons s l ih =>
    intro ws i b hl hm hb
    simp only [List.all_cons, Bool.and_eq_true, List.length_cons] at hm hl
    cases l with
    | nil =>
      simp only [List.map_cons, List.map_nil, sep]
      rw [run_word ws s i b (by omega) hm.1 (fun c t e => by rw [e] at hb; simp at hb; exact hb.1)]
      have := run_blk (ws ++ [s]) b (i + (qt s).length) [] hb
      simp only [List.append_nil] at this
      rw [this, List.length_append, Nat.add_assoc]
      rfl
    | cons s2 l =>
      have e : sep (List.map qt (s :: s2 :: l)) ++ b = qt s ++ (32 :: (sep (List.map qt (s2 :: l)) ++ b)) := by simp [sep]
      rw [e, run_word ws s i _ (by omega) hm.1 (fun c t e => by cases e; decide), run]
      have hb32 : blk 32 = true := by decide
      simp only [hb32, if_true]
      rw [ih (ws ++ [s]) _ b (by simp at hl ⊢; omega) hm.2 hb]
      simp only [List.append_assoc, List.singleton_append, List.length_append, List.length_cons]
      congr 2
      omega
theorem split_join (l : List (List UInt8)) (a b : List UInt8) (ha : a.all blk = true) (hb : b.all blk = true) (hne : join l ≠ []) (hl : (a ++ join l ++ b).length ≤ 256) :
    split (a ++ join l ++ b) = (l, (a ++ join l ++ b).length, 0) := by
  unfold split
  rw [if_neg (by omega)]
  unfold join at hne ⊢
  split at hne
  · exact absurd rfl hne
  rename_i h1
  split at hne
  · exact absurd rfl hne
  rename_i h2
  split at hne
  · exact absurd rfl hne
  rename_i h3
  rw [if_neg h1, if_neg h2, if_neg h3, List.append_assoc, run_blk [] a 0 _ ha, run_sep l [] _ b (by simp; omega) (by simpa using h2) hb]
  simp [Nat.add_assoc]
def sp (c : UInt8) : Bool := decide (c.toNat = 34) || decide (c.toNat = 92)
def cn (l : List UInt8) : Nat := l.countP sp
theorem es_append (l m : List UInt8) : es (l ++ m) = es l ++ es m := by
  induction l with
  | nil => rfl
  | cons c r ih =>
    rw [List.cons_append, es, es, ih]
    split <;> simp
theorem sp_iff (c : UInt8) : sp c = true ↔ c.toNat = 34 ∨ c.toNat = 92 := by simp [sp]
theorem es_one (c : UInt8) : es [c] = if sp c = true then [92, c] else [c] := by
  rw [es]
  by_cases h : c.toNat = 34 ∨ c.toNat = 92
  · rw [if_pos h, if_pos ((sp_iff c).2 h)]; rfl
  · rw [if_neg h, if_neg (fun h2 => h ((sp_iff c).1 h2))]; rfl
theorem es_len (l : List UInt8) : (es l).length = l.length + cn l := by
  induction l with
  | nil => rfl
  | cons c r ih =>
    rw [es]
    by_cases h : c.toNat = 34 ∨ c.toNat = 92
    · rw [if_pos h]
      simp only [List.length_cons, ih, cn, List.countP_cons, (sp_iff c).2 h, if_true]
      omega
    · rw [if_neg h]
      have h2 : sp c = false := by cases hs : sp c; rfl; exact absurd ((sp_iff c).1 hs) h
      simp only [List.length_cons, ih, cn, List.countP_cons, h2]
      simp
      omega
theorem es_none (l : List UInt8) (h : cn l = 0) : es l = l := by
  induction l with
  | nil => rfl
  | cons c r ih =>
    simp only [cn, List.countP_cons] at h
    rw [es]
    by_cases hs : c.toNat = 34 ∨ c.toNat = 92
    · rw [(sp_iff c).2 hs] at h
      simp at h
    · rw [if_neg hs, ih (by unfold cn; omega)]
theorem cn_count (l : List UInt8) : cn l = l.count 34 + l.count 92 := by
  induction l with
  | nil => rfl
  | cons c r ih =>
    simp only [cn, List.countP_cons, List.count_cons] at ih ⊢
    rw [ih]
    by_cases h1 : c = 34
    · subst h1; simp [sp]; omega
    · by_cases h2 : c = 92
      · subst h2; simp [sp]; omega
      · have h3 : c.toNat ≠ 34 := fun h => h1 (UInt8.toNat_inj.1 h)
        have h4 : c.toNat ≠ 92 := fun h => h2 (UInt8.toNat_inj.1 h)
        simp [sp, h1, h2, h3, h4]
theorem cn_snoc (l : List UInt8) (c : UInt8) : cn (l ++ [c]) = cn l + (if sp c = true then 1 else 0) := by
  simp [cn, List.countP_append, List.countP_cons]
theorem cn_le (l : List UInt8) : cn l ≤ l.length := List.countP_le_length
end Go.Proofs.YtbfeokfninedcaaDoor.WP
set_option linter.unusedVariables false
set_option linter.unusedSimpArgs false
namespace Go.Proofs.YtbfeokfninedcaaDoor.Ext
open Go.RowKit Go.Proofs.YtbfeokfninedcaaDoorW.PrintWords Go.Proofs.YtbfeokfninedcaaDoorW.PrintLast Go.Proofs.YtbfeokfninedcaaDoor.ScopeL Go.Proofs.YtbfeokfninedcaaDoor.PWrdA
theorem more_is (p1 p2 : Addr) (k : Nat) (s : ByteArray) (b : Bool) (hb : decide (k < s.size) = b) (w : World) (h1 : w.cell? p1 = some (.int .i64 k)) (h2 : w.cell? p2 = some (.string s)) :
    Calls Tryd.prog 23 #[.pointer (some p1), .pointer (some p2)] w fun e w' => e = .returned (.bool b) ∧ w = w' := by
  have hd : decide ((k : Int) < (s.size : Int)) = b := by rw [← hb]; simp
  go_enter Tryd.func23, Tryd.ntmps23
  go_wp2
  go_ret
  exact ⟨by first | (rw [hd]; done) | (simp [hb]; done) | simp_all, rfl⟩
theorem may_is (c : UInt8) (b : Bool) (hb : WP.may c = b) (w : World) :
    Calls Tryd.prog 17 #[.int .u8 (c.toNat : Int)] w fun e w' => e = .returned (.bool b) ∧ w = w' := by
  have h256 : c.toNat < 256 := c.toNat_lt
  have hb' : ((decide ((32 : Int) ≤ (c.toNat : Int)) && decide ((c.toNat : Int) ≤ 126)) || ((c.toNat : Int) == 9)) = b := by
    rw [← hb]
    unfold WP.may
    have e1 : decide ((32 : Int) ≤ (c.toNat : Int)) = decide (32 ≤ c.toNat) := by simp; omega
    have e2 : decide ((c.toNat : Int) ≤ 126) = decide (c.toNat ≤ 126) := by simp; omega
    have e3 : ((c.toNat : Int) == 9) = decide (c.toNat = 9) := by rw [Bool.eq_iff_iff]; simp; omega
    rw [e1, e2, e3]
  generalize c.toNat = n at hb' h256
  clear hb
  by_cases h1 : (32 : Int) ≤ (n : Int)
  · by_cases h2 : (n : Int) ≤ 126
    all_goals
      go_enter Tryd.func17, Tryd.ntmps17
      go_wp2
      go_ret
      exact ⟨by rw [← hb']; first | (simp [h1, h2]; done) | (simp [h1, h2]; omega), rfl⟩
  · go_enter Tryd.func17, Tryd.ntmps17
    go_wp2
    go_ret
    exact ⟨by rw [← hb']; first | (simp [h1]; done) | (simp [h1]; omega), rfl⟩
theorem blank_is (c : UInt8) (b : Bool) (hb : WP.blk c = b) (w : World) :
    Calls Tryd.prog 18 #[.int .u8 (c.toNat : Int)] w fun e w' => e = .returned (.bool b) ∧ w = w' := by
  have hb' : (((c.toNat : Int) == 32) || ((c.toNat : Int) == 9)) = b := by
    rw [← hb]
    unfold WP.blk
    have e1 : ((c.toNat : Int) == 32) = decide (c.toNat = 32) := by rw [Bool.eq_iff_iff]; simp; omega
    have e3 : ((c.toNat : Int) == 9) = decide (c.toNat = 9) := by rw [Bool.eq_iff_iff]; simp; omega
    rw [e1, e3]
  generalize c.toNat = n at hb'
  clear hb
  cases h1 : ((n : Int) == 32)
  all_goals
    go_enter Tryd.func18, Tryd.ntmps18
    go_wp2
    go_ret
    exact ⟨by rw [← hb', h1]; rfl, rfl⟩
def Fr (p1 lv wv p7 p8 : Value) (u : Nat → Value) : Act := { tmps := List.toArray (u 0 :: p1 :: u 2 :: u 3 :: u 4 :: lv :: wv :: p7 :: p8 :: u 9 :: u 10 :: u 11 :: u 12 :: u 13 :: u 14 :: u 15 :: u 16 :: u 17 :: u 18 :: u 19 :: u 20 :: u 21 :: u 22 :: u 23 :: u 24 :: u 25 :: u 26 :: u 27 :: u 28 :: u 29 :: u 30 :: u 31 :: u 32 :: u 33 :: u 34 :: u 35 :: u 36 :: u 37 :: u 38 :: u 39 :: u 40 :: u 41 :: u 42 :: u 43 :: u 44 :: u 45 :: u 46 :: u 47 :: u 48 :: u 49 :: u 50 :: u 51 :: u 52 :: u 53 :: u 54 :: u 55 :: u 56 :: u 57 :: u 58 :: u 59 :: u 60 :: u 61 :: u 62 :: u 63 :: u 64 :: u 65 :: u 66 :: u 67 :: u 68 :: u 69 :: u 70 :: u 71 :: u 72 :: u 73 :: u 74 :: u 75 :: u 76 :: u 77 :: u 78 :: u 79 :: u 80 :: u 81 :: u 82 :: u 83 :: u 84 :: u 85 :: u 86 :: u 87 :: u 88 :: u 89 :: u 90 :: u 91 :: u 92 :: u 93 :: u 94 :: u 95 :: u 96 :: u 97 :: u 98 :: u 99 :: u 100 :: u 101 :: u 102 :: u 103 :: u 104 :: u 105 :: u 106 :: u 107 :: u 108 :: u 109 :: u 110 :: u 111 :: u 112 :: u 113 :: u 114 :: u 115 :: u 116 :: u 117 :: u 118 :: u 119 :: u 120 :: u 121 :: u 122 :: u 123 :: u 124 :: u 125 :: u 126 :: u 127 :: u 128 :: u 129 :: u 130 :: u 131 :: u 132 :: u 133 :: u 134 :: u 135 :: u 136 :: u 137 :: u 138 :: u 139 :: u 140 :: u 141 :: u 142 :: u 143 :: u 144 :: u 145 :: u 146 :: u 147 :: u 148 :: u 149 :: u 150 :: u 151 :: u 152 :: u 153 :: u 154 :: u 155 :: u 156 :: u 157 :: u 158 :: u 159 :: u 160 :: u 161 :: u 162 :: []), defers := [] }
theorem list_all (l : List Value) : l = (List.range l.length).map (fun i => l.getD i undef) := by
  apply List.ext_getElem
  · simp
  · intro i h1 h2
    simp [h1]
set_option maxRecDepth 100000 in
theorem fr_lits (u : Nat → Value) : (List.range 163).map u = u 0 :: u 1 :: u 2 :: u 3 :: u 4 :: u 5 :: u 6 :: u 7 :: u 8 :: u 9 :: u 10 :: u 11 :: u 12 :: u 13 :: u 14 :: u 15 :: u 16 :: u 17 :: u 18 :: u 19 :: u 20 :: u 21 :: u 22 :: u 23 :: u 24 :: u 25 :: u 26 :: u 27 :: u 28 :: u 29 :: u 30 :: u 31 :: u 32 :: u 33 :: u 34 :: u 35 :: u 36 :: u 37 :: u 38 :: u 39 :: u 40 :: u 41 :: u 42 :: u 43 :: u 44 :: u 45 :: u 46 :: u 47 :: u 48 :: u 49 :: u 50 :: u 51 :: u 52 :: u 53 :: u 54 :: u 55 :: u 56 :: u 57 :: u 58 :: u 59 :: u 60 :: u 61 :: u 62 :: u 63 :: u 64 :: u 65 :: u 66 :: u 67 :: u 68 :: u 69 :: u 70 :: u 71 :: u 72 :: u 73 :: u 74 :: u 75 :: u 76 :: u 77 :: u 78 :: u 79 :: u 80 :: u 81 :: u 82 :: u 83 :: u 84 :: u 85 :: u 86 :: u 87 :: u 88 :: u 89 :: u 90 :: u 91 :: u 92 :: u 93 :: u 94 :: u 95 :: u 96 :: u 97 :: u 98 :: u 99 :: u 100 :: u 101 :: u 102 :: u 103 :: u 104 :: u 105 :: u 106 :: u 107 :: u 108 :: u 109 :: u 110 :: u 111 :: u 112 :: u 113 :: u 114 :: u 115 :: u 116 :: u 117 :: u 118 :: u 119 :: u 120 :: u 121 :: u 122 :: u 123 :: u 124 :: u 125 :: u 126 :: u 127 :: u 128 :: u 129 :: u 130 :: u 131 :: u 132 :: u 133 :: u 134 :: u 135 :: u 136 :: u 137 :: u 138 :: u 139 :: u 140 :: u 141 :: u 142 :: u 143 :: u 144 :: u 145 :: u 146 :: u 147 :: u 148 :: u 149 :: u 150 :: u 151 :: u 152 :: u 153 :: u 154 :: u 155 :: u 156 :: u 157 :: u 158 :: u 159 :: u 160 :: u 161 :: u 162 :: [] := by rfl
set_option maxRecDepth 100000 in
theorem fr_open (a : Act) (p1 lv wv p7 p8 : Value) (hd : a.defers = []) (hs : a.tmps.size = 163) (h1 : a.tmps.getD 1 undef = p1) (h5 : a.tmps.getD 5 undef = lv) (h6 : a.tmps.getD 6 undef = wv) (h7 : a.tmps.getD 7 undef = p7) (h8 : a.tmps.getD 8 undef = p8) :
    ∃ u, a = Fr p1 lv wv p7 p8 u := by
  obtain ⟨⟨l⟩, d⟩ := a
  obtain ⟨u, hu⟩ : ∃ u : Nat → Value, u = fun i => l.getD i undef := ⟨_, rfl⟩
  have hg : ∀ i, (⟨l⟩ : Array Value).getD i undef = u i := by
    intro i
    rw [hu]
    simp [Array.getD_eq_getD_getElem?, List.getD_eq_getElem?_getD]
  have hl := list_all l
  have hs' : l.length = 163 := hs
  rw [hs', ← hu, fr_lits] at hl
  simp only at hd h1 h5 h6 h7 h8
  rw [hg] at h1 h5 h6 h7 h8
  subst h1 h5 h6 h7 h8 hd
  exact ⟨u, by rw [Fr, hl]⟩
def ba (l : List UInt8) : ByteArray := ⟨l.toArray⟩
def strs (ws : List (List UInt8)) : List Value := ws.map (fun b => .string (ba b))
def by8 (wb : List UInt8) : List Int := wb.map (fun c => (c.toNat : Int))
theorem reps_strsW (w : World) (base : Nat) (ok : Nat → Prop) (xs : List ByteArray) : Reps (Kd.string.M w base ok) 1 xs (xs.map Value.string) := by
  refine ⟨by simp, fun j p hj => ?_⟩
  show _ = [Value.string p]
  have hl : j < xs.length := by
    rcases Nat.lt_or_ge j xs.length with h | h
    · exact h
    · rw [List.getElem?_eq_none h] at hj; cases hj
  have : (xs.map Value.string)[j]? = some (.string p) := by rw [List.getElem?_map, hj]; rfl
  rw [Nat.mul_one]
  have hd : (xs.map Value.string).drop j = Value.string p :: (xs.map Value.string).drop (j + 1) := by
    rw [List.drop_eq_getElem_cons (by simpa using hl)]
    congr 1
    rw [List.getElem?_eq_getElem (by simpa using hl)] at this
    exact Option.some.inj this
  rw [hd]
  rfl
theorem reps_strs (W : World) (base : Nat) (ok : Nat → Prop) (ws : List (List UInt8)) : Reps (Kd.string.M W base ok) Kd.string.sz (ws.map ba) (strs ws) := by
  have := reps_strsW W base ok (ws.map ba)
  rw [List.map_map] at this
  exact this
theorem strs_len (ws : List (List UInt8)) : (strs ws).length = ws.length := by simp [strs]
structure SW (s : ByteArray) (w W : World) (k : Nat) (lv : Value) (ws : List (List UInt8)) : Prop where
  hl : W.heap[w.heap.size]? = some (.cells #[.string s] 9 (0, 0))
  ha : W.heap[w.heap.size + 1]? = some (.cells #[.int .i64 k] 3 (0, 0))
  hk : k ≤ s.size
  own : W.ownsRow (w.heap.size + 2) 9 1 lv ws.length (strs ws)
  bel : Below w.heap.size w W
  len : ws.length ≤ 16
def OW (w W : World) (wv : Value) (wb : List UInt8) : Prop := W.ownsRow (w.heap.size + 2) 5 1 wv wb.length (nums .u8 (by8 wb))
structure Frm (w : World) (lv wv : Value) (a : Act) : Prop where
  hd : a.defers = []
  hs : a.tmps.size = 163
  h1 : a.tmps.getD 1 undef = .pointer (some ⟨w.heap.size, 0, none⟩)
  h5 : a.tmps.getD 5 undef = lv
  h6 : a.tmps.getD 6 undef = wv
  h7 : a.tmps.getD 7 undef = .pointer (some ⟨w.heap.size + 1, 0, none⟩)
  h8 : a.tmps.getD 8 undef = .func (.func 23) #[] #[.pointer (some ⟨w.heap.size + 1, 0, none⟩), .pointer (some ⟨w.heap.size, 0, none⟩)]
structure St (m : WP.Mode) (s : ByteArray) (w : World) (R : WP.Res) (k : Nat) (a : Act) (W : World) : Prop where
  ex : ∃ lv wv ws wb, Frm w lv wv a ∧ SW s w W k lv ws ∧ (m = .pla ∨ m = .quo → OW w W wv wb ∧ wb.length ≤ k ∧ ws.length < 16) ∧ WP.run m ws wb k (s.data.toList.drop k) = R
def Post (w : World) (R : WP.Res) (e : Ending) (w' : World) : Prop :=
  ∃ lv, e = .returned (.tuple #[lv, .int .i64 (R.2.1 : Nat), .int .i64 (R.2.2 : Nat)]) ∧ w'.ownsRow w.heap.size 9 1 lv R.1.length (strs R.1) ∧ Below w.heap.size w w'
def scopeOf : Option Code → Code
  | some (.seq _ (.scope c)) => c
  | some (.scope c) => c
  | _ => .skip
noncomputable def sbody : Code := scopeOf Tryd.f13.body
theorem drop_at (s : ByteArray) (k : Nat) (h : k < s.size) : s.data.toList.drop k = s[k] :: s.data.toList.drop (k + 1) := by
  rw [List.drop_eq_getElem_cons (by simpa using h)]; rfl
theorem drop_end (s : ByteArray) (k : Nat) (h : s.size ≤ k) : s.data.toList.drop k = [] := by
  rw [List.drop_eq_nil_of_le (by simpa using h)]
theorem sw_cells {s : ByteArray} {w W : World} {k : Nat} {lv : Value} {ws : List (List UInt8)} (h : SW s w W k lv ws) :
    W.cell? ⟨w.heap.size, 0, none⟩ = some (.string s) ∧ W.cell? ⟨w.heap.size + 1, 0, none⟩ = some (.int .i64 k) ∧ W.frozen? ⟨w.heap.size + 1, 0, none⟩ = false :=
  ⟨(blk_cell h.hl 0).trans rfl, (blk_cell h.ha 0).trans rfl, blk_frozen h.ha 0⟩
theorem sw_step {s : ByteArray} {w W : World} {k : Nat} {lv : Value} {ws : List (List UInt8)} (h : SW s w W k lv ws) (k' : Nat) (hk : k' ≤ s.size) :
    SW s w (W.setCell ⟨w.heap.size + 1, 0, none⟩ (.int .i64 k')) k' lv ws :=
  ⟨blk_far h.hl (by simp) _, by have := blk_set h.ha 0 (.int .i64 k'); simpa using this, hk, own_setCell h.own (fun he => by have := own_base h.own _ he.symm; simp at this) _, h.bel.setCell (by simp) _, h.len⟩
theorem ow_step {w W : World} {wv : Value} {wb : List UInt8} (h : OW w W wv wb) (v : Value) : OW w (W.setCell ⟨w.heap.size + 1, 0, none⟩ v) wv wb :=
  own_setCell h (fun he => by have := own_base h _ he.symm; simp at this) _
theorem post_err {s : ByteArray} {w W : World} {k : Nat} {lv : Value} {ws : List (List UInt8)} (h : SW s w W k lv ws) (i e n : Nat) : Post w ([], i, e) (.returned (.tuple #[.slice none 0 0, .int .i64 (i : Nat), .int .i64 (e : Nat)])) (W.drewN n) :=
  ⟨_, rfl, own_nil _ _ _ _, pw_below_drewN h.bel n⟩
theorem post_ok {s : ByteArray} {w W : World} {k : Nat} {lv : Value} {ws : List (List UInt8)} (h : SW s w W k lv ws) (i n : Nat) : Post w (ws, i, 0) (.returned (.tuple #[lv, .int .i64 (i : Nat), .int .i64 (0 : Nat)])) (W.drewN n) :=
  ⟨_, rfl, pw_own_drewN (own_less h.own (by omega)) n, pw_below_drewN h.bel n⟩
theorem sw_step1 {s : ByteArray} {w W : World} {k : Nat} {lv : Value} {ws : List (List UInt8)} (h : SW s w W k lv ws) (hk : k + 1 ≤ s.size) :
    SW s w (W.setCell ⟨w.heap.size + 1, 0, none⟩ (.int .i64 ((k : Int) + 1))) (k + 1) lv ws := sw_step h (k + 1) hk
theorem str_ba (wb : List UInt8) : strOfNums (by8 wb) = ba wb := by
  unfold strOfNums by8 ba
  congr 1
  simp [List.map_map]
  congr 1
  apply List.ext_getElem
  · simp
  · intro i h1 h2
    simp
theorem by8_len (wb : List UInt8) : (by8 wb).length = wb.length := by simp [by8]
theorem by8_snoc (wb : List UInt8) (c : UInt8) : by8 wb ++ [(c.toNat : Int)] = by8 (wb ++ [c]) := by simp [by8]
theorem sw_byte {s : ByteArray} {w W w1 : World} {k : Nat} {lv wv : Value} {ws : List (List UInt8)} {wb : List UInt8} (h : SW s w W k lv ws) (ho : OW w W wv wb) (hb : Below (w.heap.size + 2) W w1) (hg : W.grownBy w1 wv.ownBlock) : SW s w w1 k lv ws :=
  ⟨(hb.block _ (by omega)).trans h.hl, (hb.block _ (by omega)).trans h.ha, h.hk, own_other h.own hg (own_type_ne h.own ho (by decide)), h.bel.trans (hb.mono (by omega)), h.len⟩
theorem ow_byte {w w1 : World} {v1 : Value} {wb : List UInt8} {c : UInt8} (h : w1.ownsRow (w.heap.size + 2) 5 1 v1 (by8 wb ++ [(c.toNat : Int)]).length (nums .u8 (by8 wb ++ [(c.toNat : Int)]))) : OW w w1 v1 (wb ++ [c]) := by
  rw [by8_snoc, by8_len] at h
  exact h
theorem sw_word {s : ByteArray} {w W w1 : World} {k : Nat} {lv v1 : Value} {ws : List (List UInt8)} {wb : List UInt8} (h : SW s w W k lv ws) (hl : ws.length < 16) (hb : Below (w.heap.size + 2) W w1)
    (ho : w1.ownsRow (w.heap.size + 2) 9 1 v1 (strs ws ++ [Value.string (strOfNums (by8 wb))]).length (strs ws ++ [Value.string (strOfNums (by8 wb))])) : SW s w w1 k v1 (ws ++ [wb]) :=
  ⟨(hb.block _ (by omega)).trans h.hl, (hb.block _ (by omega)).trans h.ha, h.hk, by
    rw [str_ba] at ho
    have e : strs ws ++ [Value.string (ba wb)] = strs (ws ++ [wb]) := by simp [strs]
    rw [e, strs_len] at ho
    exact ho, h.bel.trans (hb.mono (by omega)), by simp; omega⟩
theorem ow_nil (w W : World) : OW w W (.slice none 0 0) [] := own_nil _ _ _ _
theorem info8 : (Tryd.prog.info? 5).map (fun i => (i.zero, i.size, i.bytes)) = some (some (.int .u8 0), 1, 1) := by kernel_rfl
theorem infoS : (Tryd.prog.info? 9).map (fun i => (i.zero, i.size, i.bytes)) = some (some (.string ByteArray.empty), 1, 16) := by kernel_rfl
def off : WP.Mode → Nat
  | .btw => 1
  | .pla => 2
  | _ => 0
def mu (s : ByteArray) (m : WP.Mode) (k : Nat) : Nat := 3 * (s.size - k) + off m
structure Js (J : Nat → Act → World → Prop) (s : ByteArray) (w : World) (R : WP.Res) (n : Nat) : Prop where
  j0 : ∀ k' a' W', mu s .btw k' < n → St .btw s w R k' a' W' → J 0 a' W'
  j1 : ∀ k' a' W', mu s .rest k' < n → St .rest s w R k' a' W' → J 1 a' W'
  j2 : ∀ k' a' W', mu s .quo k' < n → St .quo s w R k' a' W' → J 2 a' W'
  j3 : ∀ k' a' W', mu s .pla k' < n → St .pla s w R k' a' W' → J 3 a' W'
abbrev Pass (l : Nat) (m : WP.Mode) (s : ByteArray) (w : World) (R : WP.Res) (k : Nat) (J : Nat → Act → World → Prop) (a : Act) (W : World) : Prop :=
  ∃ rest, findLabel sbody l = some (.seq .skip rest) ∧ rest.wp Tryd.prog (jumps J (bodyPost Tryd.prog Tryd.f13 (Post w R))) a W
abbrev CM (w : World) (s : ByteArray) (k : Int) (b : Bool) : Prop := Hid (∀ W : World, W.cell? ⟨w.heap.size + 1, 0, none⟩ = some (.int .i64 k) → W.cell? ⟨w.heap.size, 0, none⟩ = some (.string s) → Calls Tryd.prog 23 #[.pointer (some ⟨w.heap.size + 1, 0, none⟩), .pointer (some ⟨w.heap.size, 0, none⟩)] W fun e w' => e = .returned (.bool b) ∧ W = w')
theorem cm (w : World) (s : ByteArray) (k : Nat) (b : Bool) (h : decide (k < s.size) = b) : CM w s k b := Lib.hid fun W h1 h2 => more_is _ _ k s b h W h1 h2
theorem cm1 (w : World) (s : ByteArray) (k : Nat) (b : Bool) (h : decide (k + 1 < s.size) = b) : CM w s ((k : Int) + 1) b := Lib.hid fun W h1 h2 => more_is _ _ (k + 1) s b h W h1 h2
abbrev CY (c : UInt8) (b : Bool) : Prop := Hid (∀ W : World, Calls Tryd.prog 17 #[.int .u8 (c.toNat : Int)] W fun e w' => e = .returned (.bool b) ∧ W = w')
theorem cy (c : UInt8) (b : Bool) (h : WP.may c = b) : CY c b := Lib.hid (may_is c b h)
abbrev CB (c : UInt8) (b : Bool) : Prop := Hid (∀ W : World, Calls Tryd.prog 18 #[.int .u8 (c.toNat : Int)] W fun e w' => e = .returned (.bool b) ∧ W = w')
theorem cb (c : UInt8) (b : Bool) (h : WP.blk c = b) : CB c b := Lib.hid (blank_is c b h)
theorem eq_yes (c : UInt8) (n : Nat) (h : c.toNat = n) : ((c.toNat : Int) == (n : Int)) = true ∧ ((c.toNat : Int) != (n : Int)) = false := by simp [h]
theorem eq_no (c : UInt8) (n : Nat) (h : c.toNat ≠ n) : ((c.toNat : Int) == (n : Int)) = false ∧ ((c.toNat : Int) != (n : Int)) = true := by
  constructor
  · simp; omega
  · simp; omega
set_option maxRecDepth 100000 in
set_option maxHeartbeats 4000000 in
theorem p1_end (s : ByteArray) (w : World) (hs : s.size ≤ 256) (R : WP.Res) (k : Nat) (J : Nat → Act → World → Prop) (hJ : Js J s w R (mu s .rest k)) (a : Act) (W : World) (lv wv : Value) (ws : List (List UInt8)) (wb : List UInt8) (hF : Frm w lv wv a) (hS : SW s w W k lv ws) (hR : WP.run .rest ws wb k (s.data.toList.drop k) = R) (hk : s.size ≤ k) :
    Pass 1 .rest s w R k J a W := by
  rw [drop_end s k hk] at hR
  change (ws, k, 0) = R at hR
  refine ⟨_, rfl, ?_⟩
  obtain ⟨u, rfl⟩ := fr_open a _ _ _ _ _ hF.hd hF.hs hF.h1 hF.h5 hF.h6 hF.h7 hF.h8
  clear hF
  obtain ⟨cl1, cl2, cl3⟩ := sw_cells hS
  unfold Fr
  have HS := Lib.hid hS
  have HR := Lib.hid hR
  have HJ := Lib.hid hJ
  clear hS hR hJ
  have HM := cm w s k false (by simp; omega)
  go_wp2_with (first | (go_at_call 23; refine (HM.out _ (by assumption) (by assumption)).mono ?_; rintro e w1 ⟨rfl, rfl⟩) | fail)
  go_quiet (fail)
  go_wp2_with fail
  go_ret3
  rw [← HR.out]
  exact post_ok HS.out k _
set_option maxRecDepth 100000 in
set_option maxHeartbeats 4000000 in
theorem p1_bad (s : ByteArray) (w : World) (hs : s.size ≤ 256) (R : WP.Res) (k : Nat) (J : Nat → Act → World → Prop) (hJ : Js J s w R (mu s .rest k)) (a : Act) (W : World) (lv wv : Value) (ws : List (List UInt8)) (wb : List UInt8) (hF : Frm w lv wv a) (hS : SW s w W k lv ws) (hR : WP.run .rest ws wb k (s.data.toList.drop k) = R) (hk : k < s.size) (c : UInt8) (hc : s[k] = c) (hm : WP.may c = false) :
    Pass 1 .rest s w R k J a W := by
  rw [drop_at s k hk, hc] at hR
  rw [WP.run, if_pos hm] at hR
  refine ⟨_, rfl, ?_⟩
  obtain ⟨u, rfl⟩ := fr_open a _ _ _ _ _ hF.hd hF.hs hF.h1 hF.h5 hF.h6 hF.h7 hF.h8
  clear hF
  obtain ⟨cl1, cl2, cl3⟩ := sw_cells hS
  unfold Fr
  have HS := Lib.hid hS
  have HR := Lib.hid hR
  have HJ := Lib.hid hJ
  clear hS hR hJ
  have HM := cm w s k true (by simp [hk])
  have HY := cy c false hm
  clear hm
  go_wp2_with (first | (go_at_call 23; refine (HM.out _ (by assumption) (by assumption)).mono ?_; rintro e w1 ⟨rfl, rfl⟩) | (go_at_call 17; refine (HY.out _).mono ?_; rintro e w1 ⟨rfl, rfl⟩) | fail)
  go_quiet (fail)
  go_wp2_with fail
  go_ret3
  rw [← HR.out]
  exact post_err HS.out (k) _ _
set_option maxRecDepth 100000 in
set_option maxHeartbeats 4000000 in
theorem p1_go (s : ByteArray) (w : World) (hs : s.size ≤ 256) (R : WP.Res) (k : Nat) (J : Nat → Act → World → Prop) (hJ : Js J s w R (mu s .rest k)) (a : Act) (W : World) (lv wv : Value) (ws : List (List UInt8)) (wb : List UInt8) (hF : Frm w lv wv a) (hS : SW s w W k lv ws) (hR : WP.run .rest ws wb k (s.data.toList.drop k) = R) (hk : k < s.size) (c : UInt8) (hc : s[k] = c) (hm : WP.may c = true) :
    Pass 1 .rest s w R k J a W := by
  rw [drop_at s k hk, hc] at hR
  rw [WP.run, if_neg (by simp [hm])] at hR
  refine ⟨_, rfl, ?_⟩
  obtain ⟨u, rfl⟩ := fr_open a _ _ _ _ _ hF.hd hF.hs hF.h1 hF.h5 hF.h6 hF.h7 hF.h8
  clear hF
  obtain ⟨cl1, cl2, cl3⟩ := sw_cells hS
  unfold Fr
  have HS := Lib.hid hS
  have HR := Lib.hid hR
  have HJ := Lib.hid hJ
  clear hS hR hJ
  have HM := cm w s k true (by simp [hk])
  have HY := cy c true hm
  clear hm
  have hkk : k + 1 ≤ 256 := by omega
  go_wp2_with (first | (go_at_call 23; refine (HM.out _ (by assumption) (by assumption)).mono ?_; rintro e w1 ⟨rfl, rfl⟩) | (go_at_call 17; refine (HY.out _).mono ?_; rintro e w1 ⟨rfl, rfl⟩) | fail)
  go_step3
  exact HJ.out.j1 (k + 1) _ _ (by simp only [mu, off]; omega) ⟨_, _, _, _, ⟨rfl, rfl, rfl, rfl, rfl, rfl, rfl⟩, sw_step1 HS.out (by omega), by simp, HR.out⟩
set_option maxRecDepth 100000 in
set_option maxHeartbeats 4000000 in
theorem p0_end (s : ByteArray) (w : World) (hs : s.size ≤ 256) (R : WP.Res) (k : Nat) (J : Nat → Act → World → Prop) (hJ : Js J s w R (mu s .btw k)) (a : Act) (W : World) (lv wv : Value) (ws : List (List UInt8)) (wb : List UInt8) (hF : Frm w lv wv a) (hS : SW s w W k lv ws) (hR : WP.run .btw ws wb k (s.data.toList.drop k) = R) (hk : s.size ≤ k) :
    Pass 0 .btw s w R k J a W := by
  rw [drop_end s k hk] at hR
  change (ws, k, 0) = R at hR
  refine ⟨_, rfl, ?_⟩
  obtain ⟨u, rfl⟩ := fr_open a _ _ _ _ _ hF.hd hF.hs hF.h1 hF.h5 hF.h6 hF.h7 hF.h8
  clear hF
  obtain ⟨cl1, cl2, cl3⟩ := sw_cells hS
  unfold Fr
  have HS := Lib.hid hS
  have HR := Lib.hid hR
  have HJ := Lib.hid hJ
  clear hS hR hJ
  have HM := cm w s k false (by simp; omega)
  go_wp2_with (first | (go_at_call 23; refine (HM.out _ (by assumption) (by assumption)).mono ?_; rintro e w1 ⟨rfl, rfl⟩) | fail)
  go_quiet (fail)
  go_wp2_with fail
  go_ret3
  rw [← HR.out]
  exact post_ok HS.out k _
set_option maxRecDepth 100000 in
set_option maxHeartbeats 4000000 in
theorem p0_blk (s : ByteArray) (w : World) (hs : s.size ≤ 256) (R : WP.Res) (k : Nat) (J : Nat → Act → World → Prop) (hJ : Js J s w R (mu s .btw k)) (a : Act) (W : World) (lv wv : Value) (ws : List (List UInt8)) (wb : List UInt8) (hF : Frm w lv wv a) (hS : SW s w W k lv ws) (hR : WP.run .btw ws wb k (s.data.toList.drop k) = R) (hk : k < s.size) (c : UInt8) (hc : s[k] = c) (hb : WP.blk c = true) :
    Pass 0 .btw s w R k J a W := by
  rw [drop_at s k hk, hc] at hR
  rw [WP.run, if_pos hb] at hR
  refine ⟨_, rfl, ?_⟩
  obtain ⟨u, rfl⟩ := fr_open a _ _ _ _ _ hF.hd hF.hs hF.h1 hF.h5 hF.h6 hF.h7 hF.h8
  clear hF
  obtain ⟨cl1, cl2, cl3⟩ := sw_cells hS
  unfold Fr
  have HS := Lib.hid hS
  have HR := Lib.hid hR
  have HJ := Lib.hid hJ
  clear hS hR hJ
  have HM := cm w s k true (by simp [hk])
  have HB := cb c true hb
  clear hb
  have hkk : k + 1 ≤ 256 := by omega
  go_wp2_with (first | (go_at_call 23; refine (HM.out _ (by assumption) (by assumption)).mono ?_; rintro e w1 ⟨rfl, rfl⟩) | (go_at_call 18; refine (HB.out _).mono ?_; rintro e w1 ⟨rfl, rfl⟩) | fail)
  go_step3
  exact HJ.out.j0 (k + 1) _ _ (by simp only [mu, off]; omega) ⟨_, _, _, _, ⟨rfl, rfl, rfl, rfl, rfl, rfl, rfl⟩, sw_step1 HS.out (by omega), by simp, HR.out⟩
set_option maxRecDepth 100000 in
set_option maxHeartbeats 4000000 in
theorem p0_sharp (s : ByteArray) (w : World) (hs : s.size ≤ 256) (R : WP.Res) (k : Nat) (J : Nat → Act → World → Prop) (hJ : Js J s w R (mu s .btw k)) (a : Act) (W : World) (lv wv : Value) (ws : List (List UInt8)) (wb : List UInt8) (hF : Frm w lv wv a) (hS : SW s w W k lv ws) (hR : WP.run .btw ws wb k (s.data.toList.drop k) = R) (hk : k < s.size) (c : UInt8) (hc : s[k] = c) (hb : WP.blk c = false) (hm : WP.may c = true) (hn35 : c.toNat = 35) :
    Pass 0 .btw s w R k J a W := by
  rw [drop_at s k hk, hc] at hR
  rw [WP.run, if_neg (by simp [hb]), if_pos hn35] at hR
  have hR2 : WP.run .rest ws [] k (s.data.toList.drop k) = R := by rw [drop_at s k hk, hc, WP.run, if_neg (by simp [hm])]; exact hR
  have HR2 := Lib.hid hR2
  clear hR2 hm
  refine ⟨_, rfl, ?_⟩
  obtain ⟨u, rfl⟩ := fr_open a _ _ _ _ _ hF.hd hF.hs hF.h1 hF.h5 hF.h6 hF.h7 hF.h8
  clear hF
  obtain ⟨cl1, cl2, cl3⟩ := sw_cells hS
  unfold Fr
  have HS := Lib.hid hS
  have HR := Lib.hid hR
  have HJ := Lib.hid hJ
  clear hS hR hJ
  have HM := cm w s k true (by simp [hk])
  have HB := cb c false hb
  clear hb
  obtain ⟨q35a, q35b⟩ : ((c.toNat : Int) == 35) = true ∧ ((c.toNat : Int) != 35) = false := eq_yes c 35 hn35
  clear hn35
  go_wp2_with (first | (go_at_call 23; refine (HM.out _ (by assumption) (by assumption)).mono ?_; rintro e w1 ⟨rfl, rfl⟩) | (go_at_call 18; refine (HB.out _).mono ?_; rintro e w1 ⟨rfl, rfl⟩) | fail)
  go_step3
  exact HJ.out.j1 (k) _ _ (by simp only [mu, off]; omega) ⟨_, _, _, _, ⟨rfl, rfl, rfl, rfl, rfl, rfl, rfl⟩, HS.out, by simp, HR2.out⟩
set_option maxRecDepth 100000 in
set_option maxHeartbeats 4000000 in
theorem p0_bad (s : ByteArray) (w : World) (hs : s.size ≤ 256) (R : WP.Res) (k : Nat) (J : Nat → Act → World → Prop) (hJ : Js J s w R (mu s .btw k)) (a : Act) (W : World) (lv wv : Value) (ws : List (List UInt8)) (wb : List UInt8) (hF : Frm w lv wv a) (hS : SW s w W k lv ws) (hR : WP.run .btw ws wb k (s.data.toList.drop k) = R) (hk : k < s.size) (c : UInt8) (hc : s[k] = c) (hb : WP.blk c = false) (hm : WP.may c = false) (hn35 : c.toNat ≠ 35) :
    Pass 0 .btw s w R k J a W := by
  rw [drop_at s k hk, hc] at hR
  rw [WP.run, if_neg (by simp [hb]), if_neg hn35, if_pos hm] at hR
  refine ⟨_, rfl, ?_⟩
  obtain ⟨u, rfl⟩ := fr_open a _ _ _ _ _ hF.hd hF.hs hF.h1 hF.h5 hF.h6 hF.h7 hF.h8
  clear hF
  obtain ⟨cl1, cl2, cl3⟩ := sw_cells hS
  unfold Fr
  have HS := Lib.hid hS
  have HR := Lib.hid hR
  have HJ := Lib.hid hJ
  clear hS hR hJ
  have HM := cm w s k true (by simp [hk])
  have HB := cb c false hb
  clear hb
  have HY := cy c false hm
  clear hm
  obtain ⟨q35a, q35b⟩ : ((c.toNat : Int) == 35) = false ∧ ((c.toNat : Int) != 35) = true := eq_no c 35 hn35
  clear hn35
  go_wp2_with (first | (go_at_call 23; refine (HM.out _ (by assumption) (by assumption)).mono ?_; rintro e w1 ⟨rfl, rfl⟩) | (go_at_call 18; refine (HB.out _).mono ?_; rintro e w1 ⟨rfl, rfl⟩) | (go_at_call 17; refine (HY.out _).mono ?_; rintro e w1 ⟨rfl, rfl⟩) | fail)
  go_quiet (fail)
  go_wp2_with fail
  go_ret3
  rw [← HR.out]
  exact post_err HS.out (k) _ _
set_option maxRecDepth 100000 in
set_option maxHeartbeats 4000000 in
theorem p0_many (s : ByteArray) (w : World) (hs : s.size ≤ 256) (R : WP.Res) (k : Nat) (J : Nat → Act → World → Prop) (hJ : Js J s w R (mu s .btw k)) (a : Act) (W : World) (lv wv : Value) (ws : List (List UInt8)) (wb : List UInt8) (hF : Frm w lv wv a) (hS : SW s w W k lv ws) (hR : WP.run .btw ws wb k (s.data.toList.drop k) = R) (hk : k < s.size) (c : UInt8) (hc : s[k] = c) (hb : WP.blk c = false) (hm : WP.may c = true) (hn35 : c.toNat ≠ 35) (hl : ws.length = 16) :
    Pass 0 .btw s w R k J a W := by
  rw [drop_at s k hk, hc] at hR
  rw [WP.run, if_neg (by simp [hb]), if_neg hn35, if_neg (by simp [hm]), if_pos hl] at hR
  refine ⟨_, rfl, ?_⟩
  obtain ⟨u, rfl⟩ := fr_open a _ _ _ _ _ hF.hd hF.hs hF.h1 hF.h5 hF.h6 hF.h7 hF.h8
  clear hF
  obtain ⟨cl1, cl2, cl3⟩ := sw_cells hS
  unfold Fr
  have HS := Lib.hid hS
  have HR := Lib.hid hR
  have HJ := Lib.hid hJ
  clear hS hR hJ
  have ql : ((ws.length : Int) == 16) = true := by simp [hl]
  have HL := Lib.hid hl
  clear hl
  obtain ⟨Al, cl, el⟩ := own_slice HS.out.own
  subst el
  have HM := cm w s k true (by simp [hk])
  have HB := cb c false hb
  clear hb
  have HY := cy c true hm
  clear hm
  obtain ⟨q35a, q35b⟩ : ((c.toNat : Int) == 35) = false ∧ ((c.toNat : Int) != 35) = true := eq_no c 35 hn35
  clear hn35
  go_wp2_with (first | (go_at_call 23; refine (HM.out _ (by assumption) (by assumption)).mono ?_; rintro e w1 ⟨rfl, rfl⟩) | (go_at_call 18; refine (HB.out _).mono ?_; rintro e w1 ⟨rfl, rfl⟩) | (go_at_call 17; refine (HY.out _).mono ?_; rintro e w1 ⟨rfl, rfl⟩) | fail)
  go_quiet (fail)
  go_wp2_with fail
  go_ret3
  rw [← HR.out]
  exact post_err HS.out (k) _ _
set_option maxRecDepth 100000 in
set_option maxHeartbeats 4000000 in
theorem p0_quo (s : ByteArray) (w : World) (hs : s.size ≤ 256) (R : WP.Res) (k : Nat) (J : Nat → Act → World → Prop) (hJ : Js J s w R (mu s .btw k)) (a : Act) (W : World) (lv wv : Value) (ws : List (List UInt8)) (wb : List UInt8) (hF : Frm w lv wv a) (hS : SW s w W k lv ws) (hR : WP.run .btw ws wb k (s.data.toList.drop k) = R) (hk : k < s.size) (c : UInt8) (hc : s[k] = c) (hb : WP.blk c = false) (hm : WP.may c = true) (hn35 : c.toNat ≠ 35) (hn34 : c.toNat = 34) (hl : ws.length < 16) :
    Pass 0 .btw s w R k J a W := by
  rw [drop_at s k hk, hc] at hR
  rw [WP.run, if_neg (by simp [hb]), if_neg hn35, if_neg (by simp [hm]), if_neg (by omega), if_pos hn34] at hR
  refine ⟨_, rfl, ?_⟩
  obtain ⟨u, rfl⟩ := fr_open a _ _ _ _ _ hF.hd hF.hs hF.h1 hF.h5 hF.h6 hF.h7 hF.h8
  clear hF
  obtain ⟨cl1, cl2, cl3⟩ := sw_cells hS
  unfold Fr
  have HS := Lib.hid hS
  have HR := Lib.hid hR
  have HJ := Lib.hid hJ
  clear hS hR hJ
  have ql : ((ws.length : Int) == 16) = false := by simp; omega
  have HL := Lib.hid hl
  clear hl
  obtain ⟨Al, cl, el⟩ := own_slice HS.out.own
  subst el
  have HM := cm w s k true (by simp [hk])
  have HB := cb c false hb
  clear hb
  have HY := cy c true hm
  clear hm
  have hkk : k + 1 ≤ 256 := by omega
  obtain ⟨q35a, q35b⟩ : ((c.toNat : Int) == 35) = false ∧ ((c.toNat : Int) != 35) = true := eq_no c 35 hn35
  clear hn35
  obtain ⟨q34a, q34b⟩ : ((c.toNat : Int) == 34) = true ∧ ((c.toNat : Int) != 34) = false := eq_yes c 34 hn34
  clear hn34
  go_wp2_with (first | (go_at_call 23; refine (HM.out _ (by assumption) (by assumption)).mono ?_; rintro e w1 ⟨rfl, rfl⟩) | (go_at_call 18; refine (HB.out _).mono ?_; rintro e w1 ⟨rfl, rfl⟩) | (go_at_call 17; refine (HY.out _).mono ?_; rintro e w1 ⟨rfl, rfl⟩) | fail)
  go_step3
  exact HJ.out.j2 (k + 1) _ _ (by simp only [mu, off]; omega) ⟨_, _, _, _, ⟨rfl, rfl, rfl, rfl, rfl, rfl, rfl⟩, sw_step1 HS.out (by omega), fun _ => ⟨ow_nil _ _, by simp, HL.out⟩, HR.out⟩
set_option maxRecDepth 100000 in
set_option maxHeartbeats 4000000 in
theorem p0_stroke (s : ByteArray) (w : World) (hs : s.size ≤ 256) (R : WP.Res) (k : Nat) (J : Nat → Act → World → Prop) (hJ : Js J s w R (mu s .btw k)) (a : Act) (W : World) (lv wv : Value) (ws : List (List UInt8)) (wb : List UInt8) (hF : Frm w lv wv a) (hS : SW s w W k lv ws) (hR : WP.run .btw ws wb k (s.data.toList.drop k) = R) (hk : k < s.size) (c : UInt8) (hc : s[k] = c) (hb : WP.blk c = false) (hm : WP.may c = true) (hn35 : c.toNat ≠ 35) (hn34 : c.toNat ≠ 34) (hn92 : c.toNat = 92) (hl : ws.length < 16) :
    Pass 0 .btw s w R k J a W := by
  rw [drop_at s k hk, hc] at hR
  rw [WP.run, if_neg (by simp [hb]), if_neg hn35, if_neg (by simp [hm]), if_neg (by omega), if_neg hn34, if_pos hn92] at hR
  refine ⟨_, rfl, ?_⟩
  obtain ⟨u, rfl⟩ := fr_open a _ _ _ _ _ hF.hd hF.hs hF.h1 hF.h5 hF.h6 hF.h7 hF.h8
  clear hF
  obtain ⟨cl1, cl2, cl3⟩ := sw_cells hS
  unfold Fr
  have HS := Lib.hid hS
  have HR := Lib.hid hR
  have HJ := Lib.hid hJ
  clear hS hR hJ
  have ql : ((ws.length : Int) == 16) = false := by simp; omega
  have HL := Lib.hid hl
  clear hl
  obtain ⟨Al, cl, el⟩ := own_slice HS.out.own
  subst el
  have HM := cm w s k true (by simp [hk])
  have HB := cb c false hb
  clear hb
  have HY := cy c true hm
  clear hm
  have hkk : k + 1 ≤ 256 := by omega
  obtain ⟨q35a, q35b⟩ : ((c.toNat : Int) == 35) = false ∧ ((c.toNat : Int) != 35) = true := eq_no c 35 hn35
  clear hn35
  obtain ⟨q34a, q34b⟩ : ((c.toNat : Int) == 34) = false ∧ ((c.toNat : Int) != 34) = true := eq_no c 34 hn34
  clear hn34
  obtain ⟨q92a, q92b⟩ : ((c.toNat : Int) == 92) = true ∧ ((c.toNat : Int) != 92) = false := eq_yes c 92 hn92
  clear hn92
  go_wp2_with (first | (go_at_call 23; refine (HM.out _ (by assumption) (by assumption)).mono ?_; rintro e w1 ⟨rfl, rfl⟩) | (go_at_call 18; refine (HB.out _).mono ?_; rintro e w1 ⟨rfl, rfl⟩) | (go_at_call 17; refine (HY.out _).mono ?_; rintro e w1 ⟨rfl, rfl⟩) | fail)
  go_step3
  go_wp2_with (first | (go_at_call 23; refine (HM.out _ (by assumption) (by assumption)).mono ?_; rintro e w1 ⟨rfl, rfl⟩) | (go_at_call 18; refine (HB.out _).mono ?_; rintro e w1 ⟨rfl, rfl⟩) | (go_at_call 17; refine (HY.out _).mono ?_; rintro e w1 ⟨rfl, rfl⟩) | fail)
  go_quiet (fail)
  go_wp2_with fail
  go_ret3
  rw [← HR.out]
  exact post_err HS.out (k) _ _
set_option maxRecDepth 100000 in
set_option maxHeartbeats 4000000 in
theorem p0_pla (s : ByteArray) (w : World) (hs : s.size ≤ 256) (R : WP.Res) (k : Nat) (J : Nat → Act → World → Prop) (hJ : Js J s w R (mu s .btw k)) (a : Act) (W : World) (lv wv : Value) (ws : List (List UInt8)) (wb : List UInt8) (hF : Frm w lv wv a) (hS : SW s w W k lv ws) (hR : WP.run .btw ws wb k (s.data.toList.drop k) = R) (hk : k < s.size) (c : UInt8) (hc : s[k] = c) (hb : WP.blk c = false) (hm : WP.may c = true) (hn35 : c.toNat ≠ 35) (hn34 : c.toNat ≠ 34) (hn92 : c.toNat ≠ 92) (hl : ws.length < 16) :
    Pass 0 .btw s w R k J a W := by
  rw [drop_at s k hk, hc] at hR
  rw [WP.run, if_neg (by simp [hb]), if_neg hn35, if_neg (by simp [hm]), if_neg (by omega), if_neg hn34, if_neg hn92] at hR
  refine ⟨_, rfl, ?_⟩
  obtain ⟨u, rfl⟩ := fr_open a _ _ _ _ _ hF.hd hF.hs hF.h1 hF.h5 hF.h6 hF.h7 hF.h8
  clear hF
  obtain ⟨cl1, cl2, cl3⟩ := sw_cells hS
  unfold Fr
  have HS := Lib.hid hS
  have HR := Lib.hid hR
  have HJ := Lib.hid hJ
  clear hS hR hJ
  have ql : ((ws.length : Int) == 16) = false := by simp; omega
  have HL := Lib.hid hl
  clear hl
  obtain ⟨Al, cl, el⟩ := own_slice HS.out.own
  subst el
  have HM := cm w s k true (by simp [hk])
  have HB := cb c false hb
  clear hb
  have HY := cy c true hm
  clear hm
  have hkk : k + 1 ≤ 256 := by omega
  have HZ : Hid (w.heap.size + 2 ≤ W.heap.size) := Lib.hid (by have := blk_lt HS.out.ha; omega)
  have HO := Lib.hid (ow_nil w W)
  have HW := Lib.hid (HS.out)
  obtain ⟨q35a, q35b⟩ : ((c.toNat : Int) == 35) = false ∧ ((c.toNat : Int) != 35) = true := eq_no c 35 hn35
  clear hn35
  obtain ⟨q34a, q34b⟩ : ((c.toNat : Int) == 34) = false ∧ ((c.toNat : Int) != 34) = true := eq_no c 34 hn34
  clear hn34
  obtain ⟨q92a, q92b⟩ : ((c.toNat : Int) == 92) = false ∧ ((c.toNat : Int) != 92) = true := eq_no c 92 hn92
  clear hn92
  go_wp2_with (first | (go_at_call 23; refine (HM.out _ (by assumption) (by assumption)).mono ?_; rintro e w1 ⟨rfl, rfl⟩) | (go_at_call 18; refine (HB.out _).mono ?_; rintro e w1 ⟨rfl, rfl⟩) | (go_at_call 17; refine (HY.out _).mono ?_; rintro e w1 ⟨rfl, rfl⟩) | fail)
  go_step3
  go_wp2_with (first | (at_builtin; refine print_append_num (w0 := _) (w.heap.size + 2) rfl (.tmp 76) (.tmp 80) 39 5 .u8 1 rfl Tryd.underlying39 info8 (by decide) (.slice none 0 0) (by8 []) (c.toNat : Int) rfl (by first | rfl | (rw [show ∀ (X : World) p v, (X.setCell p v).heap.size = X.heap.size from fun X p v => by simp]; rfl)) (by rw [by8_len]; exact HO.out) (Below.refl _ _) (HZ.out) (by rw [by8_len]; first | omega | simp) ?_; intro v1 w1 hown hbel hg hat; have S1 := Lib.hid (sw_byte HW.out (HO.out) hbel hg); have O1 := Lib.hid (ow_byte hown); clear hown hbel hg hat; obtain ⟨d1, d2, d3⟩ := sw_cells S1.out) | (go_at_call 23; refine (HM.out _ (by assumption) (by assumption)).mono ?_; rintro e w1 ⟨rfl, rfl⟩) | (go_at_call 18; refine (HB.out _).mono ?_; rintro e w1 ⟨rfl, rfl⟩) | (go_at_call 17; refine (HY.out _).mono ?_; rintro e w1 ⟨rfl, rfl⟩) | fail)
  go_step3
  exact HJ.out.j3 (k + 1) _ _ (by simp only [mu, off]; omega) ⟨_, _, _, _, ⟨rfl, rfl, rfl, rfl, rfl, rfl, rfl⟩, sw_step1 S1.out (by omega), fun _ => ⟨ow_step O1.out _, by simp, HL.out⟩, HR.out⟩
set_option maxRecDepth 100000 in
set_option maxHeartbeats 4000000 in
theorem p3_end (s : ByteArray) (w : World) (hs : s.size ≤ 256) (R : WP.Res) (k : Nat) (J : Nat → Act → World → Prop) (hJ : Js J s w R (mu s .pla k)) (a : Act) (W : World) (lv wv : Value) (ws : List (List UInt8)) (wb : List UInt8) (hF : Frm w lv wv a) (hS : SW s w W k lv ws) (ho : OW w W wv wb) (hwl : wb.length ≤ k) (hws : ws.length < 16) (hR : WP.run .pla ws wb k (s.data.toList.drop k) = R) (hk : s.size ≤ k) :
    Pass 3 .pla s w R k J a W := by
  rw [drop_end s k hk] at hR
  have hR2 : WP.run .btw (ws ++ [wb]) [] k (s.data.toList.drop k) = R := by rw [drop_end s k hk, ← hR]; rfl
  have HR2 := Lib.hid hR2
  clear hR2
  refine ⟨_, rfl, ?_⟩
  obtain ⟨u, rfl⟩ := fr_open a _ _ _ _ _ hF.hd hF.hs hF.h1 hF.h5 hF.h6 hF.h7 hF.h8
  clear hF
  obtain ⟨cl1, cl2, cl3⟩ := sw_cells hS
  unfold Fr
  have HS := Lib.hid hS
  have HR := Lib.hid hR
  have HJ := Lib.hid hJ
  clear hS hR hJ
  have HO := Lib.hid ho
  clear ho
  have HM := cm w s k false (by simp; omega)
  have hcv := own_string (P := Tryd.prog) Tryd.underlying39 Tryd.underlying5 Tryd.underlying9 HO.out
  have HZ : Hid (w.heap.size + 2 ≤ W.heap.size) := Lib.hid (by have := blk_lt HS.out.ha; omega)
  have HW := Lib.hid (HS.out)
  go_wp2_with (first | (at_builtin; refine print_append (w0 := _) (w.heap.size + 2) rfl (.tmp 84) (.tmp 87) 22 9 (.string ByteArray.empty) 16 rfl Tryd.underlying22 infoS rfl (by decide) lv (strs ws) (.string (strOfNums (by8 wb))) rfl (by first | rfl | (rw [show ∀ (X : World) p v, (X.setCell p v).heap.size = X.heap.size from fun X p v => by simp]; rfl)) rfl (by rw [strs_len]; exact HW.out.own) (Below.refl _ _) (HZ.out) (by rw [strs_len]; omega) ?_; intro v1 w1 hown hbel hg hat; have S1 := Lib.hid (sw_word HW.out hws hbel hown); clear hown hbel hg hat; obtain ⟨d1, d2, d3⟩ := sw_cells S1.out) | (go_at_call 23; refine (HM.out _ (by assumption) (by assumption)).mono ?_; rintro e w1 ⟨rfl, rfl⟩) | fail)
  go_step3
  exact HJ.out.j0 (k) _ _ (by simp only [mu, off]; omega) ⟨_, _, _, _, ⟨rfl, rfl, rfl, rfl, rfl, rfl, rfl⟩, S1.out, by simp, HR2.out⟩
set_option maxRecDepth 100000 in
set_option maxHeartbeats 4000000 in
theorem p3_blk (s : ByteArray) (w : World) (hs : s.size ≤ 256) (R : WP.Res) (k : Nat) (J : Nat → Act → World → Prop) (hJ : Js J s w R (mu s .pla k)) (a : Act) (W : World) (lv wv : Value) (ws : List (List UInt8)) (wb : List UInt8) (hF : Frm w lv wv a) (hS : SW s w W k lv ws) (ho : OW w W wv wb) (hwl : wb.length ≤ k) (hws : ws.length < 16) (hR : WP.run .pla ws wb k (s.data.toList.drop k) = R) (hk : k < s.size) (c : UInt8) (hc : s[k] = c) (hb : WP.blk c = true) :
    Pass 3 .pla s w R k J a W := by
  rw [drop_at s k hk, hc] at hR
  have hR2 : WP.run .btw (ws ++ [wb]) [] k (s.data.toList.drop k) = R := by rw [drop_at s k hk, hc, WP.run, if_pos hb]; rw [WP.run, if_pos hb] at hR; exact hR
  have HR2 := Lib.hid hR2
  clear hR2
  refine ⟨_, rfl, ?_⟩
  obtain ⟨u, rfl⟩ := fr_open a _ _ _ _ _ hF.hd hF.hs hF.h1 hF.h5 hF.h6 hF.h7 hF.h8
  clear hF
  obtain ⟨cl1, cl2, cl3⟩ := sw_cells hS
  unfold Fr
  have HS := Lib.hid hS
  have HR := Lib.hid hR
  have HJ := Lib.hid hJ
  clear hS hR hJ
  have HO := Lib.hid ho
  clear ho
  have HM := cm w s k true (by simp [hk])
  have HB := cb c true hb
  clear hb
  have hcv := own_string (P := Tryd.prog) Tryd.underlying39 Tryd.underlying5 Tryd.underlying9 HO.out
  have HZ : Hid (w.heap.size + 2 ≤ W.heap.size) := Lib.hid (by have := blk_lt HS.out.ha; omega)
  have HW := Lib.hid (HS.out)
  go_wp2_with (first | (at_builtin; refine print_append (w0 := _) (w.heap.size + 2) rfl (.tmp 84) (.tmp 87) 22 9 (.string ByteArray.empty) 16 rfl Tryd.underlying22 infoS rfl (by decide) lv (strs ws) (.string (strOfNums (by8 wb))) rfl (by first | rfl | (rw [show ∀ (X : World) p v, (X.setCell p v).heap.size = X.heap.size from fun X p v => by simp]; rfl)) rfl (by rw [strs_len]; exact HW.out.own) (Below.refl _ _) (HZ.out) (by rw [strs_len]; omega) ?_; intro v1 w1 hown hbel hg hat; have S1 := Lib.hid (sw_word HW.out hws hbel hown); clear hown hbel hg hat; obtain ⟨d1, d2, d3⟩ := sw_cells S1.out) | (go_at_call 23; refine (HM.out _ (by assumption) (by assumption)).mono ?_; rintro e w1 ⟨rfl, rfl⟩) | (go_at_call 18; refine (HB.out _).mono ?_; rintro e w1 ⟨rfl, rfl⟩) | fail)
  go_step3
  exact HJ.out.j0 (k) _ _ (by simp only [mu, off]; omega) ⟨_, _, _, _, ⟨rfl, rfl, rfl, rfl, rfl, rfl, rfl⟩, S1.out, by simp, HR2.out⟩
set_option maxRecDepth 100000 in
set_option maxHeartbeats 4000000 in
theorem p3_bad (s : ByteArray) (w : World) (hs : s.size ≤ 256) (R : WP.Res) (k : Nat) (J : Nat → Act → World → Prop) (hJ : Js J s w R (mu s .pla k)) (a : Act) (W : World) (lv wv : Value) (ws : List (List UInt8)) (wb : List UInt8) (hF : Frm w lv wv a) (hS : SW s w W k lv ws) (ho : OW w W wv wb) (hwl : wb.length ≤ k) (hws : ws.length < 16) (hR : WP.run .pla ws wb k (s.data.toList.drop k) = R) (hk : k < s.size) (c : UInt8) (hc : s[k] = c) (hb : WP.blk c = false) (hm : WP.may c = false) :
    Pass 3 .pla s w R k J a W := by
  rw [drop_at s k hk, hc] at hR
  rw [WP.run, if_neg (by simp [hb]), if_pos (.inl hm)] at hR
  refine ⟨_, rfl, ?_⟩
  obtain ⟨u, rfl⟩ := fr_open a _ _ _ _ _ hF.hd hF.hs hF.h1 hF.h5 hF.h6 hF.h7 hF.h8
  clear hF
  obtain ⟨cl1, cl2, cl3⟩ := sw_cells hS
  unfold Fr
  have HS := Lib.hid hS
  have HR := Lib.hid hR
  have HJ := Lib.hid hJ
  clear hS hR hJ
  have HO := Lib.hid ho
  clear ho
  have HM := cm w s k true (by simp [hk])
  have HB := cb c false hb
  clear hb
  have HY := cy c false hm
  clear hm
  go_wp2_with (first | (go_at_call 23; refine (HM.out _ (by assumption) (by assumption)).mono ?_; rintro e w1 ⟨rfl, rfl⟩) | (go_at_call 18; refine (HB.out _).mono ?_; rintro e w1 ⟨rfl, rfl⟩) | (go_at_call 17; refine (HY.out _).mono ?_; rintro e w1 ⟨rfl, rfl⟩) | fail)
  go_quiet (fail)
  go_wp2_with fail
  go_ret3
  rw [← HR.out]
  exact post_err HS.out (k) _ _
set_option maxRecDepth 100000 in
set_option maxHeartbeats 4000000 in
theorem p3_bad34 (s : ByteArray) (w : World) (hs : s.size ≤ 256) (R : WP.Res) (k : Nat) (J : Nat → Act → World → Prop) (hJ : Js J s w R (mu s .pla k)) (a : Act) (W : World) (lv wv : Value) (ws : List (List UInt8)) (wb : List UInt8) (hF : Frm w lv wv a) (hS : SW s w W k lv ws) (ho : OW w W wv wb) (hwl : wb.length ≤ k) (hws : ws.length < 16) (hR : WP.run .pla ws wb k (s.data.toList.drop k) = R) (hk : k < s.size) (c : UInt8) (hc : s[k] = c) (hb : WP.blk c = false) (hm : WP.may c = true) (hn34 : c.toNat = 34) :
    Pass 3 .pla s w R k J a W := by
  rw [drop_at s k hk, hc] at hR
  rw [WP.run, if_neg (by simp [hb]), if_pos (.inr (.inl hn34))] at hR
  refine ⟨_, rfl, ?_⟩
  obtain ⟨u, rfl⟩ := fr_open a _ _ _ _ _ hF.hd hF.hs hF.h1 hF.h5 hF.h6 hF.h7 hF.h8
  clear hF
  obtain ⟨cl1, cl2, cl3⟩ := sw_cells hS
  unfold Fr
  have HS := Lib.hid hS
  have HR := Lib.hid hR
  have HJ := Lib.hid hJ
  clear hS hR hJ
  have HO := Lib.hid ho
  clear ho
  have HM := cm w s k true (by simp [hk])
  have HB := cb c false hb
  clear hb
  have HY := cy c true hm
  clear hm
  obtain ⟨q34a, q34b⟩ : ((c.toNat : Int) == 34) = true ∧ ((c.toNat : Int) != 34) = false := eq_yes c 34 hn34
  clear hn34
  go_wp2_with (first | (go_at_call 23; refine (HM.out _ (by assumption) (by assumption)).mono ?_; rintro e w1 ⟨rfl, rfl⟩) | (go_at_call 18; refine (HB.out _).mono ?_; rintro e w1 ⟨rfl, rfl⟩) | (go_at_call 17; refine (HY.out _).mono ?_; rintro e w1 ⟨rfl, rfl⟩) | fail)
  go_quiet (fail)
  go_wp2_with fail
  go_ret3
  rw [← HR.out]
  exact post_err HS.out (k) _ _
set_option maxRecDepth 100000 in
set_option maxHeartbeats 4000000 in
theorem p3_bad92 (s : ByteArray) (w : World) (hs : s.size ≤ 256) (R : WP.Res) (k : Nat) (J : Nat → Act → World → Prop) (hJ : Js J s w R (mu s .pla k)) (a : Act) (W : World) (lv wv : Value) (ws : List (List UInt8)) (wb : List UInt8) (hF : Frm w lv wv a) (hS : SW s w W k lv ws) (ho : OW w W wv wb) (hwl : wb.length ≤ k) (hws : ws.length < 16) (hR : WP.run .pla ws wb k (s.data.toList.drop k) = R) (hk : k < s.size) (c : UInt8) (hc : s[k] = c) (hb : WP.blk c = false) (hm : WP.may c = true) (hn34 : c.toNat ≠ 34) (hn92 : c.toNat = 92) :
    Pass 3 .pla s w R k J a W := by
  rw [drop_at s k hk, hc] at hR
  rw [WP.run, if_neg (by simp [hb]), if_pos (.inr (.inr hn92))] at hR
  refine ⟨_, rfl, ?_⟩
  obtain ⟨u, rfl⟩ := fr_open a _ _ _ _ _ hF.hd hF.hs hF.h1 hF.h5 hF.h6 hF.h7 hF.h8
  clear hF
  obtain ⟨cl1, cl2, cl3⟩ := sw_cells hS
  unfold Fr
  have HS := Lib.hid hS
  have HR := Lib.hid hR
  have HJ := Lib.hid hJ
  clear hS hR hJ
  have HO := Lib.hid ho
  clear ho
  have HM := cm w s k true (by simp [hk])
  have HB := cb c false hb
  clear hb
  have HY := cy c true hm
  clear hm
  obtain ⟨q34a, q34b⟩ : ((c.toNat : Int) == 34) = false ∧ ((c.toNat : Int) != 34) = true := eq_no c 34 hn34
  clear hn34
  obtain ⟨q92a, q92b⟩ : ((c.toNat : Int) == 92) = true ∧ ((c.toNat : Int) != 92) = false := eq_yes c 92 hn92
  clear hn92
  go_wp2_with (first | (go_at_call 23; refine (HM.out _ (by assumption) (by assumption)).mono ?_; rintro e w1 ⟨rfl, rfl⟩) | (go_at_call 18; refine (HB.out _).mono ?_; rintro e w1 ⟨rfl, rfl⟩) | (go_at_call 17; refine (HY.out _).mono ?_; rintro e w1 ⟨rfl, rfl⟩) | fail)
  go_quiet (fail)
  go_wp2_with fail
  go_ret3
  rw [← HR.out]
  exact post_err HS.out (k) _ _
set_option maxRecDepth 100000 in
set_option maxHeartbeats 4000000 in
theorem p3_go (s : ByteArray) (w : World) (hs : s.size ≤ 256) (R : WP.Res) (k : Nat) (J : Nat → Act → World → Prop) (hJ : Js J s w R (mu s .pla k)) (a : Act) (W : World) (lv wv : Value) (ws : List (List UInt8)) (wb : List UInt8) (hF : Frm w lv wv a) (hS : SW s w W k lv ws) (ho : OW w W wv wb) (hwl : wb.length ≤ k) (hws : ws.length < 16) (hR : WP.run .pla ws wb k (s.data.toList.drop k) = R) (hk : k < s.size) (c : UInt8) (hc : s[k] = c) (hb : WP.blk c = false) (hm : WP.may c = true) (hn34 : c.toNat ≠ 34) (hn92 : c.toNat ≠ 92) :
    Pass 3 .pla s w R k J a W := by
  rw [drop_at s k hk, hc] at hR
  rw [WP.run, if_neg (by simp [hb]), if_neg (by simp [hm, hn34, hn92])] at hR
  refine ⟨_, rfl, ?_⟩
  obtain ⟨u, rfl⟩ := fr_open a _ _ _ _ _ hF.hd hF.hs hF.h1 hF.h5 hF.h6 hF.h7 hF.h8
  clear hF
  obtain ⟨cl1, cl2, cl3⟩ := sw_cells hS
  unfold Fr
  have HS := Lib.hid hS
  have HR := Lib.hid hR
  have HJ := Lib.hid hJ
  clear hS hR hJ
  have HO := Lib.hid ho
  clear ho
  have HM := cm w s k true (by simp [hk])
  have HB := cb c false hb
  clear hb
  have HY := cy c true hm
  clear hm
  have hkk : k + 1 ≤ 256 := by omega
  have HZ : Hid (w.heap.size + 2 ≤ W.heap.size) := Lib.hid (by have := blk_lt HS.out.ha; omega)
  have HW := Lib.hid (HS.out)
  obtain ⟨q34a, q34b⟩ : ((c.toNat : Int) == 34) = false ∧ ((c.toNat : Int) != 34) = true := eq_no c 34 hn34
  clear hn34
  obtain ⟨q92a, q92b⟩ : ((c.toNat : Int) == 92) = false ∧ ((c.toNat : Int) != 92) = true := eq_no c 92 hn92
  clear hn92
  go_wp2_with (first | (at_builtin; refine print_append_num (w0 := _) (w.heap.size + 2) rfl (.tmp 76) (.tmp 80) 39 5 .u8 1 rfl Tryd.underlying39 info8 (by decide) (wv) (by8 wb) (c.toNat : Int) rfl (by first | rfl | (rw [show ∀ (X : World) p v, (X.setCell p v).heap.size = X.heap.size from fun X p v => by simp]; rfl)) (by rw [by8_len]; exact HO.out) (Below.refl _ _) (HZ.out) (by rw [by8_len]; first | omega | simp) ?_; intro v1 w1 hown hbel hg hat; have S1 := Lib.hid (sw_byte HW.out (HO.out) hbel hg); have O1 := Lib.hid (ow_byte hown); clear hown hbel hg hat; obtain ⟨d1, d2, d3⟩ := sw_cells S1.out) | (go_at_call 23; refine (HM.out _ (by assumption) (by assumption)).mono ?_; rintro e w1 ⟨rfl, rfl⟩) | (go_at_call 18; refine (HB.out _).mono ?_; rintro e w1 ⟨rfl, rfl⟩) | (go_at_call 17; refine (HY.out _).mono ?_; rintro e w1 ⟨rfl, rfl⟩) | fail)
  go_step3
  exact HJ.out.j3 (k + 1) _ _ (by simp only [mu, off]; omega) ⟨_, _, _, _, ⟨rfl, rfl, rfl, rfl, rfl, rfl, rfl⟩, sw_step1 S1.out (by omega), fun _ => ⟨ow_step O1.out _, by simp; omega, hws⟩, HR.out⟩
set_option maxRecDepth 100000 in
set_option maxHeartbeats 4000000 in
theorem p2_end (s : ByteArray) (w : World) (hs : s.size ≤ 256) (R : WP.Res) (k : Nat) (J : Nat → Act → World → Prop) (hJ : Js J s w R (mu s .quo k)) (a : Act) (W : World) (lv wv : Value) (ws : List (List UInt8)) (wb : List UInt8) (hF : Frm w lv wv a) (hS : SW s w W k lv ws) (ho : OW w W wv wb) (hwl : wb.length ≤ k) (hws : ws.length < 16) (hR : WP.run .quo ws wb k (s.data.toList.drop k) = R) (hk : s.size ≤ k) :
    Pass 2 .quo s w R k J a W := by
  rw [drop_end s k hk] at hR
  change ([], k, 150) = R at hR
  refine ⟨_, rfl, ?_⟩
  obtain ⟨u, rfl⟩ := fr_open a _ _ _ _ _ hF.hd hF.hs hF.h1 hF.h5 hF.h6 hF.h7 hF.h8
  clear hF
  obtain ⟨cl1, cl2, cl3⟩ := sw_cells hS
  unfold Fr
  have HS := Lib.hid hS
  have HR := Lib.hid hR
  have HJ := Lib.hid hJ
  clear hS hR hJ
  have HO := Lib.hid ho
  clear ho
  have HM := cm w s k false (by simp; omega)
  go_wp2_with (first | (go_at_call 23; refine (HM.out _ (by assumption) (by assumption)).mono ?_; rintro e w1 ⟨rfl, rfl⟩) | fail)
  go_quiet (fail)
  go_wp2_with fail
  go_ret3
  rw [← HR.out]
  exact post_err HS.out (k) _ _
set_option maxRecDepth 100000 in
set_option maxHeartbeats 4000000 in
theorem p2_bad (s : ByteArray) (w : World) (hs : s.size ≤ 256) (R : WP.Res) (k : Nat) (J : Nat → Act → World → Prop) (hJ : Js J s w R (mu s .quo k)) (a : Act) (W : World) (lv wv : Value) (ws : List (List UInt8)) (wb : List UInt8) (hF : Frm w lv wv a) (hS : SW s w W k lv ws) (ho : OW w W wv wb) (hwl : wb.length ≤ k) (hws : ws.length < 16) (hR : WP.run .quo ws wb k (s.data.toList.drop k) = R) (hk : k < s.size) (c : UInt8) (hc : s[k] = c) (hm : WP.may c = false) :
    Pass 2 .quo s w R k J a W := by
  rw [drop_at s k hk, hc] at hR
  rw [WP.run, if_pos hm] at hR
  refine ⟨_, rfl, ?_⟩
  obtain ⟨u, rfl⟩ := fr_open a _ _ _ _ _ hF.hd hF.hs hF.h1 hF.h5 hF.h6 hF.h7 hF.h8
  clear hF
  obtain ⟨cl1, cl2, cl3⟩ := sw_cells hS
  unfold Fr
  have HS := Lib.hid hS
  have HR := Lib.hid hR
  have HJ := Lib.hid hJ
  clear hS hR hJ
  have HO := Lib.hid ho
  clear ho
  have HM := cm w s k true (by simp [hk])
  have HY := cy c false hm
  clear hm
  go_wp2_with (first | (go_at_call 23; refine (HM.out _ (by assumption) (by assumption)).mono ?_; rintro e w1 ⟨rfl, rfl⟩) | (go_at_call 17; refine (HY.out _).mono ?_; rintro e w1 ⟨rfl, rfl⟩) | fail)
  go_quiet (fail)
  go_wp2_with fail
  go_ret3
  rw [← HR.out]
  exact post_err HS.out (k) _ _
set_option maxRecDepth 100000 in
set_option maxHeartbeats 4000000 in
theorem p2_go (s : ByteArray) (w : World) (hs : s.size ≤ 256) (R : WP.Res) (k : Nat) (J : Nat → Act → World → Prop) (hJ : Js J s w R (mu s .quo k)) (a : Act) (W : World) (lv wv : Value) (ws : List (List UInt8)) (wb : List UInt8) (hF : Frm w lv wv a) (hS : SW s w W k lv ws) (ho : OW w W wv wb) (hwl : wb.length ≤ k) (hws : ws.length < 16) (hR : WP.run .quo ws wb k (s.data.toList.drop k) = R) (hk : k < s.size) (c : UInt8) (hc : s[k] = c) (hm : WP.may c = true) (hn34 : c.toNat ≠ 34) (hn92 : c.toNat ≠ 92) :
    Pass 2 .quo s w R k J a W := by
  rw [drop_at s k hk, hc] at hR
  rw [WP.run, if_neg (by simp [hm]), if_neg hn34, if_neg hn92] at hR
  refine ⟨_, rfl, ?_⟩
  obtain ⟨u, rfl⟩ := fr_open a _ _ _ _ _ hF.hd hF.hs hF.h1 hF.h5 hF.h6 hF.h7 hF.h8
  clear hF
  obtain ⟨cl1, cl2, cl3⟩ := sw_cells hS
  unfold Fr
  have HS := Lib.hid hS
  have HR := Lib.hid hR
  have HJ := Lib.hid hJ
  clear hS hR hJ
  have HO := Lib.hid ho
  clear ho
  have HM := cm w s k true (by simp [hk])
  have HY := cy c true hm
  clear hm
  have hkk : k + 1 ≤ 256 := by omega
  have HZ : Hid (w.heap.size + 2 ≤ W.heap.size) := Lib.hid (by have := blk_lt HS.out.ha; omega)
  have HW := Lib.hid (HS.out)
  obtain ⟨q34a, q34b⟩ : ((c.toNat : Int) == 34) = false ∧ ((c.toNat : Int) != 34) = true := eq_no c 34 hn34
  clear hn34
  obtain ⟨q92a, q92b⟩ : ((c.toNat : Int) == 92) = false ∧ ((c.toNat : Int) != 92) = true := eq_no c 92 hn92
  clear hn92
  go_wp2_with (first | (at_builtin; refine print_append_num (w0 := _) (w.heap.size + 2) rfl (.tmp 143) (.tmp 147) 39 5 .u8 1 rfl Tryd.underlying39 info8 (by decide) (wv) (by8 wb) (c.toNat : Int) rfl (by first | rfl | (rw [show ∀ (X : World) p v, (X.setCell p v).heap.size = X.heap.size from fun X p v => by simp]; rfl)) (by rw [by8_len]; exact HO.out) (Below.refl _ _) (HZ.out) (by rw [by8_len]; first | omega | simp) ?_; intro v1 w1 hown hbel hg hat; have S1 := Lib.hid (sw_byte HW.out (HO.out) hbel hg); have O1 := Lib.hid (ow_byte hown); clear hown hbel hg hat; obtain ⟨d1, d2, d3⟩ := sw_cells S1.out) | (go_at_call 23; refine (HM.out _ (by assumption) (by assumption)).mono ?_; rintro e w1 ⟨rfl, rfl⟩) | (go_at_call 17; refine (HY.out _).mono ?_; rintro e w1 ⟨rfl, rfl⟩) | fail)
  go_step3
  exact HJ.out.j2 (k + 1) _ _ (by simp only [mu, off]; omega) ⟨_, _, _, _, ⟨rfl, rfl, rfl, rfl, rfl, rfl, rfl⟩, sw_step1 S1.out (by omega), fun _ => ⟨ow_step O1.out _, by simp; omega, hws⟩, HR.out⟩
set_option maxRecDepth 100000 in
set_option maxHeartbeats 4000000 in
theorem p2_qend (s : ByteArray) (w : World) (hs : s.size ≤ 256) (R : WP.Res) (k : Nat) (J : Nat → Act → World → Prop) (hJ : Js J s w R (mu s .quo k)) (a : Act) (W : World) (lv wv : Value) (ws : List (List UInt8)) (wb : List UInt8) (hF : Frm w lv wv a) (hS : SW s w W k lv ws) (ho : OW w W wv wb) (hwl : wb.length ≤ k) (hws : ws.length < 16) (hR : WP.run .quo ws wb k (s.data.toList.drop k) = R) (hk : k < s.size) (c : UInt8) (hc : s[k] = c) (hm : WP.may c = true) (hn34 : c.toNat = 34) (hk2 : s.size ≤ k + 1) :
    Pass 2 .quo s w R k J a W := by
  rw [drop_at s k hk, hc] at hR
  rw [WP.run, if_neg (by simp [hm]), if_pos hn34] at hR
  have hR2 : WP.run .btw (ws ++ [wb]) [] (k + 1) (s.data.toList.drop (k + 1)) = R := by rw [← hR]; symm; refine WP.run_end _ _ _ _ (.inr rfl) _ ?_; rw [drop_end s (k + 1) hk2]; intro c t h; cases h
  have HR2 := Lib.hid hR2
  clear hR2
  refine ⟨_, rfl, ?_⟩
  obtain ⟨u, rfl⟩ := fr_open a _ _ _ _ _ hF.hd hF.hs hF.h1 hF.h5 hF.h6 hF.h7 hF.h8
  clear hF
  obtain ⟨cl1, cl2, cl3⟩ := sw_cells hS
  unfold Fr
  have HS := Lib.hid hS
  have HR := Lib.hid hR
  have HJ := Lib.hid hJ
  clear hS hR hJ
  have HO := Lib.hid ho
  clear ho
  have HM := cm w s k true (by simp [hk])
  have HY := cy c true hm
  clear hm
  have hkk : k + 1 ≤ 256 := by omega
  have HT := Lib.hid (sw_step1 HS.out (by omega))
  obtain ⟨e1, e2, e3⟩ := sw_cells HT.out
  have HM2 := cm1 w s k false (by simp; omega)
  have hcv := own_string (P := Tryd.prog) Tryd.underlying39 Tryd.underlying5 Tryd.underlying9 (ow_step HO.out (.int .i64 ((k : Int) + 1)))
  have HZ : Hid (w.heap.size + 2 ≤ (W.setCell ⟨w.heap.size + 1, 0, none⟩ (.int .i64 ((k : Int) + 1))).heap.size) := Lib.hid (by have := blk_lt HT.out.ha; omega)
  have HW := Lib.hid (HT.out)
  obtain ⟨q34a, q34b⟩ : ((c.toNat : Int) == 34) = true ∧ ((c.toNat : Int) != 34) = false := eq_yes c 34 hn34
  clear hn34
  go_wp2_with (first | (at_builtin; refine print_append (w0 := _) (w.heap.size + 2) rfl (.tmp 116) (.tmp 119) 22 9 (.string ByteArray.empty) 16 rfl Tryd.underlying22 infoS rfl (by decide) lv (strs ws) (.string (strOfNums (by8 wb))) rfl (by first | rfl | (rw [show ∀ (X : World) p v, (X.setCell p v).heap.size = X.heap.size from fun X p v => by simp]; rfl)) rfl (by rw [strs_len]; exact HW.out.own) (Below.refl _ _) (HZ.out) (by rw [strs_len]; omega) ?_; intro v1 w1 hown hbel hg hat; have S1 := Lib.hid (sw_word HW.out hws hbel hown); clear hown hbel hg hat; obtain ⟨d1, d2, d3⟩ := sw_cells S1.out) | (go_at_call 23; first | (refine (HM.out _ (by assumption) (by assumption)).mono ?_; rintro e w1 ⟨rfl, rfl⟩) | (refine (HM2.out _ (by first | assumption | (simp; done)) (by first | assumption | (simp; assumption))).mono ?_; rintro e w1 ⟨rfl, rfl⟩)) | (go_at_call 17; refine (HY.out _).mono ?_; rintro e w1 ⟨rfl, rfl⟩) | fail)
  go_step3
  exact HJ.out.j0 (k + 1) _ _ (by simp only [mu, off]; omega) ⟨_, _, _, _, ⟨rfl, rfl, rfl, rfl, rfl, rfl, rfl⟩, S1.out, by simp, HR2.out⟩
set_option maxRecDepth 100000 in
set_option maxHeartbeats 4000000 in
theorem p2_qblk (s : ByteArray) (w : World) (hs : s.size ≤ 256) (R : WP.Res) (k : Nat) (J : Nat → Act → World → Prop) (hJ : Js J s w R (mu s .quo k)) (a : Act) (W : World) (lv wv : Value) (ws : List (List UInt8)) (wb : List UInt8) (hF : Frm w lv wv a) (hS : SW s w W k lv ws) (ho : OW w W wv wb) (hwl : wb.length ≤ k) (hws : ws.length < 16) (hR : WP.run .quo ws wb k (s.data.toList.drop k) = R) (hk : k < s.size) (c : UInt8) (hc : s[k] = c) (hm : WP.may c = true) (hn34 : c.toNat = 34) (hk2 : k + 1 < s.size) (c2 : UInt8) (hc2 : s[k + 1] = c2) (hb : WP.blk c2 = true) :
    Pass 2 .quo s w R k J a W := by
  rw [drop_at s k hk, hc] at hR
  rw [WP.run, if_neg (by simp [hm]), if_pos hn34] at hR
  have hR2 : WP.run .btw (ws ++ [wb]) [] (k + 1) (s.data.toList.drop (k + 1)) = R := by rw [← hR]; symm; refine WP.run_end _ _ _ _ (.inr rfl) _ ?_; rw [drop_at s (k + 1) hk2, hc2]; intro c t h; cases h; exact hb
  have HR2 := Lib.hid hR2
  clear hR2
  refine ⟨_, rfl, ?_⟩
  obtain ⟨u, rfl⟩ := fr_open a _ _ _ _ _ hF.hd hF.hs hF.h1 hF.h5 hF.h6 hF.h7 hF.h8
  clear hF
  obtain ⟨cl1, cl2, cl3⟩ := sw_cells hS
  unfold Fr
  have HS := Lib.hid hS
  have HR := Lib.hid hR
  have HJ := Lib.hid hJ
  clear hS hR hJ
  have HO := Lib.hid ho
  clear ho
  have HM := cm w s k true (by simp [hk])
  have HY := cy c true hm
  clear hm
  have hkk : k + 1 ≤ 256 := by omega
  have HT := Lib.hid (sw_step1 HS.out (by omega))
  obtain ⟨e1, e2, e3⟩ := sw_cells HT.out
  have HM2 := cm1 w s k true (by simp; omega)
  have HB := cb c2 true hb
  clear hb
  have hcv := own_string (P := Tryd.prog) Tryd.underlying39 Tryd.underlying5 Tryd.underlying9 (ow_step HO.out (.int .i64 ((k : Int) + 1)))
  have HZ : Hid (w.heap.size + 2 ≤ (W.setCell ⟨w.heap.size + 1, 0, none⟩ (.int .i64 ((k : Int) + 1))).heap.size) := Lib.hid (by have := blk_lt HT.out.ha; omega)
  have HW := Lib.hid (HT.out)
  obtain ⟨q34a, q34b⟩ : ((c.toNat : Int) == 34) = true ∧ ((c.toNat : Int) != 34) = false := eq_yes c 34 hn34
  clear hn34
  go_wp2_with (first | (at_builtin; refine print_append (w0 := _) (w.heap.size + 2) rfl (.tmp 116) (.tmp 119) 22 9 (.string ByteArray.empty) 16 rfl Tryd.underlying22 infoS rfl (by decide) lv (strs ws) (.string (strOfNums (by8 wb))) rfl (by first | rfl | (rw [show ∀ (X : World) p v, (X.setCell p v).heap.size = X.heap.size from fun X p v => by simp]; rfl)) rfl (by rw [strs_len]; exact HW.out.own) (Below.refl _ _) (HZ.out) (by rw [strs_len]; omega) ?_; intro v1 w1 hown hbel hg hat; have S1 := Lib.hid (sw_word HW.out hws hbel hown); clear hown hbel hg hat; obtain ⟨d1, d2, d3⟩ := sw_cells S1.out) | (go_at_call 23; first | (refine (HM.out _ (by assumption) (by assumption)).mono ?_; rintro e w1 ⟨rfl, rfl⟩) | (refine (HM2.out _ (by first | assumption | (simp; done)) (by first | assumption | (simp; assumption))).mono ?_; rintro e w1 ⟨rfl, rfl⟩)) | (go_at_call 18; refine (HB.out _).mono ?_; rintro e w1 ⟨rfl, rfl⟩) | (go_at_call 17; refine (HY.out _).mono ?_; rintro e w1 ⟨rfl, rfl⟩) | fail)
  go_step3
  exact HJ.out.j0 (k + 1) _ _ (by simp only [mu, off]; omega) ⟨_, _, _, _, ⟨rfl, rfl, rfl, rfl, rfl, rfl, rfl⟩, S1.out, by simp, HR2.out⟩
set_option maxRecDepth 100000 in
set_option maxHeartbeats 4000000 in
theorem p2_qbad (s : ByteArray) (w : World) (hs : s.size ≤ 256) (R : WP.Res) (k : Nat) (J : Nat → Act → World → Prop) (hJ : Js J s w R (mu s .quo k)) (a : Act) (W : World) (lv wv : Value) (ws : List (List UInt8)) (wb : List UInt8) (hF : Frm w lv wv a) (hS : SW s w W k lv ws) (ho : OW w W wv wb) (hwl : wb.length ≤ k) (hws : ws.length < 16) (hR : WP.run .quo ws wb k (s.data.toList.drop k) = R) (hk : k < s.size) (c : UInt8) (hc : s[k] = c) (hm : WP.may c = true) (hn34 : c.toNat = 34) (hk2 : k + 1 < s.size) (c2 : UInt8) (hc2 : s[k + 1] = c2) (hb : WP.blk c2 = false) :
    Pass 2 .quo s w R k J a W := by
  rw [drop_at s k hk, hc] at hR
  rw [WP.run, if_neg (by simp [hm]), if_pos hn34] at hR
  rw [drop_at s (k + 1) hk2, hc2, WP.run, if_neg (by simp [hb])] at hR
  refine ⟨_, rfl, ?_⟩
  obtain ⟨u, rfl⟩ := fr_open a _ _ _ _ _ hF.hd hF.hs hF.h1 hF.h5 hF.h6 hF.h7 hF.h8
  clear hF
  obtain ⟨cl1, cl2, cl3⟩ := sw_cells hS
  unfold Fr
  have HS := Lib.hid hS
  have HR := Lib.hid hR
  have HJ := Lib.hid hJ
  clear hS hR hJ
  have HO := Lib.hid ho
  clear ho
  have HM := cm w s k true (by simp [hk])
  have HY := cy c true hm
  clear hm
  have hkk : k + 1 ≤ 256 := by omega
  have HT := Lib.hid (sw_step1 HS.out (by omega))
  obtain ⟨e1, e2, e3⟩ := sw_cells HT.out
  have HM2 := cm1 w s k true (by simp; omega)
  have HB := cb c2 false hb
  clear hb
  obtain ⟨q34a, q34b⟩ : ((c.toNat : Int) == 34) = true ∧ ((c.toNat : Int) != 34) = false := eq_yes c 34 hn34
  clear hn34
  go_wp2_with (first | (go_at_call 23; first | (refine (HM.out _ (by assumption) (by assumption)).mono ?_; rintro e w1 ⟨rfl, rfl⟩) | (refine (HM2.out _ (by first | assumption | (simp; done)) (by first | assumption | (simp; assumption))).mono ?_; rintro e w1 ⟨rfl, rfl⟩)) | (go_at_call 18; refine (HB.out _).mono ?_; rintro e w1 ⟨rfl, rfl⟩) | (go_at_call 17; refine (HY.out _).mono ?_; rintro e w1 ⟨rfl, rfl⟩) | fail)
  go_quiet (fail)
  go_wp2_with fail
  go_ret3
  rw [← HR.out]
  exact post_err HT.out (k + 1) _ _
set_option maxRecDepth 100000 in
set_option maxHeartbeats 4000000 in
theorem p2_eend (s : ByteArray) (w : World) (hs : s.size ≤ 256) (R : WP.Res) (k : Nat) (J : Nat → Act → World → Prop) (hJ : Js J s w R (mu s .quo k)) (a : Act) (W : World) (lv wv : Value) (ws : List (List UInt8)) (wb : List UInt8) (hF : Frm w lv wv a) (hS : SW s w W k lv ws) (ho : OW w W wv wb) (hwl : wb.length ≤ k) (hws : ws.length < 16) (hR : WP.run .quo ws wb k (s.data.toList.drop k) = R) (hk : k < s.size) (c : UInt8) (hc : s[k] = c) (hm : WP.may c = true) (hn34 : c.toNat ≠ 34) (hn92 : c.toNat = 92) (hk2 : s.size ≤ k + 1) :
    Pass 2 .quo s w R k J a W := by
  rw [drop_at s k hk, hc] at hR
  rw [WP.run, if_neg (by simp [hm]), if_neg hn34, if_pos hn92] at hR
  rw [drop_end s (k + 1) hk2] at hR
  change ([], k + 1, 150) = R at hR
  refine ⟨_, rfl, ?_⟩
  obtain ⟨u, rfl⟩ := fr_open a _ _ _ _ _ hF.hd hF.hs hF.h1 hF.h5 hF.h6 hF.h7 hF.h8
  clear hF
  obtain ⟨cl1, cl2, cl3⟩ := sw_cells hS
  unfold Fr
  have HS := Lib.hid hS
  have HR := Lib.hid hR
  have HJ := Lib.hid hJ
  clear hS hR hJ
  have HO := Lib.hid ho
  clear ho
  have HM := cm w s k true (by simp [hk])
  have HY := cy c true hm
  clear hm
  have hkk : k + 1 ≤ 256 := by omega
  have HT := Lib.hid (sw_step1 HS.out (by omega))
  obtain ⟨e1, e2, e3⟩ := sw_cells HT.out
  have HM2 := cm1 w s k false (by simp; omega)
  obtain ⟨q34a, q34b⟩ : ((c.toNat : Int) == 34) = false ∧ ((c.toNat : Int) != 34) = true := eq_no c 34 hn34
  clear hn34
  obtain ⟨q92a, q92b⟩ : ((c.toNat : Int) == 92) = true ∧ ((c.toNat : Int) != 92) = false := eq_yes c 92 hn92
  clear hn92
  go_wp2_with (first | (go_at_call 23; first | (refine (HM.out _ (by assumption) (by assumption)).mono ?_; rintro e w1 ⟨rfl, rfl⟩) | (refine (HM2.out _ (by first | assumption | (simp; done)) (by first | assumption | (simp; assumption))).mono ?_; rintro e w1 ⟨rfl, rfl⟩)) | (go_at_call 17; refine (HY.out _).mono ?_; rintro e w1 ⟨rfl, rfl⟩) | fail)
  go_quiet (fail)
  go_wp2_with fail
  go_ret3
  rw [← HR.out]
  exact post_err HT.out (k + 1) _ _
set_option maxRecDepth 100000 in
set_option maxHeartbeats 4000000 in
theorem p2_ebad (s : ByteArray) (w : World) (hs : s.size ≤ 256) (R : WP.Res) (k : Nat) (J : Nat → Act → World → Prop) (hJ : Js J s w R (mu s .quo k)) (a : Act) (W : World) (lv wv : Value) (ws : List (List UInt8)) (wb : List UInt8) (hF : Frm w lv wv a) (hS : SW s w W k lv ws) (ho : OW w W wv wb) (hwl : wb.length ≤ k) (hws : ws.length < 16) (hR : WP.run .quo ws wb k (s.data.toList.drop k) = R) (hk : k < s.size) (c : UInt8) (hc : s[k] = c) (hm : WP.may c = true) (hn34 : c.toNat ≠ 34) (hn92 : c.toNat = 92) (hk2 : k + 1 < s.size) (c2 : UInt8) (hc2 : s[k + 1] = c2) (hr34 : c2.toNat ≠ 34) (hr92 : c2.toNat ≠ 92) :
    Pass 2 .quo s w R k J a W := by
  rw [drop_at s k hk, hc] at hR
  rw [WP.run, if_neg (by simp [hm]), if_neg hn34, if_pos hn92] at hR
  rw [drop_at s (k + 1) hk2, hc2, WP.run, if_neg (by simp [hr34, hr92])] at hR
  refine ⟨_, rfl, ?_⟩
  obtain ⟨u, rfl⟩ := fr_open a _ _ _ _ _ hF.hd hF.hs hF.h1 hF.h5 hF.h6 hF.h7 hF.h8
  clear hF
  obtain ⟨cl1, cl2, cl3⟩ := sw_cells hS
  unfold Fr
  have HS := Lib.hid hS
  have HR := Lib.hid hR
  have HJ := Lib.hid hJ
  clear hS hR hJ
  have HO := Lib.hid ho
  clear ho
  have HM := cm w s k true (by simp [hk])
  have HY := cy c true hm
  clear hm
  have hkk : k + 1 ≤ 256 := by omega
  have HT := Lib.hid (sw_step1 HS.out (by omega))
  obtain ⟨e1, e2, e3⟩ := sw_cells HT.out
  have HM2 := cm1 w s k true (by simp; omega)
  obtain ⟨r34a, r34b⟩ : ((c2.toNat : Int) == 34) = false ∧ ((c2.toNat : Int) != 34) = true := eq_no c2 34 hr34
  clear hr34
  obtain ⟨r92a, r92b⟩ : ((c2.toNat : Int) == 92) = false ∧ ((c2.toNat : Int) != 92) = true := eq_no c2 92 hr92
  clear hr92
  obtain ⟨q34a, q34b⟩ : ((c.toNat : Int) == 34) = false ∧ ((c.toNat : Int) != 34) = true := eq_no c 34 hn34
  clear hn34
  obtain ⟨q92a, q92b⟩ : ((c.toNat : Int) == 92) = true ∧ ((c.toNat : Int) != 92) = false := eq_yes c 92 hn92
  clear hn92
  go_wp2_with (first | (go_at_call 23; first | (refine (HM.out _ (by assumption) (by assumption)).mono ?_; rintro e w1 ⟨rfl, rfl⟩) | (refine (HM2.out _ (by first | assumption | (simp; done)) (by first | assumption | (simp; assumption))).mono ?_; rintro e w1 ⟨rfl, rfl⟩)) | (go_at_call 17; refine (HY.out _).mono ?_; rintro e w1 ⟨rfl, rfl⟩) | fail)
  go_quiet (fail)
  go_wp2_with fail
  go_ret3
  rw [← HR.out]
  exact post_err HT.out (k + 1) _ _
set_option maxRecDepth 100000 in
set_option maxHeartbeats 4000000 in
theorem p2_ego34 (s : ByteArray) (w : World) (hs : s.size ≤ 256) (R : WP.Res) (k : Nat) (J : Nat → Act → World → Prop) (hJ : Js J s w R (mu s .quo k)) (a : Act) (W : World) (lv wv : Value) (ws : List (List UInt8)) (wb : List UInt8) (hF : Frm w lv wv a) (hS : SW s w W k lv ws) (ho : OW w W wv wb) (hwl : wb.length ≤ k) (hws : ws.length < 16) (hR : WP.run .quo ws wb k (s.data.toList.drop k) = R) (hk : k < s.size) (c : UInt8) (hc : s[k] = c) (hm : WP.may c = true) (hn34 : c.toNat ≠ 34) (hn92 : c.toNat = 92) (hk2 : k + 1 < s.size) (c2 : UInt8) (hc2 : s[k + 1] = c2) (hr34 : c2.toNat = 34) :
    Pass 2 .quo s w R k J a W := by
  rw [drop_at s k hk, hc] at hR
  rw [WP.run, if_neg (by simp [hm]), if_neg hn34, if_pos hn92] at hR
  rw [drop_at s (k + 1) hk2, hc2, WP.run, if_pos (.inl hr34)] at hR
  refine ⟨_, rfl, ?_⟩
  obtain ⟨u, rfl⟩ := fr_open a _ _ _ _ _ hF.hd hF.hs hF.h1 hF.h5 hF.h6 hF.h7 hF.h8
  clear hF
  obtain ⟨cl1, cl2, cl3⟩ := sw_cells hS
  unfold Fr
  have HS := Lib.hid hS
  have HR := Lib.hid hR
  have HJ := Lib.hid hJ
  clear hS hR hJ
  have HO := Lib.hid ho
  clear ho
  have HM := cm w s k true (by simp [hk])
  have HY := cy c true hm
  clear hm
  have hkk : k + 1 ≤ 256 := by omega
  have hkk2 : k + 1 + 1 ≤ 256 := by omega
  have HMU := Lib.hid (show mu s .quo (k + 2) < mu s .quo k by simp only [mu, off]; omega)
  have HK2 := Lib.hid (show k + 1 + 1 ≤ s.size by omega)
  have HWL := Lib.hid hwl
  have HT := Lib.hid (sw_step1 HS.out (by omega))
  obtain ⟨e1, e2, e3⟩ := sw_cells HT.out
  have HM2 := cm1 w s k true (by simp; omega)
  have HZ : Hid (w.heap.size + 2 ≤ (W.setCell ⟨w.heap.size + 1, 0, none⟩ (.int .i64 ((k : Int) + 1))).heap.size) := Lib.hid (by have := blk_lt HT.out.ha; omega)
  have HW := Lib.hid (HT.out)
  obtain ⟨r34a, r34b⟩ : ((c2.toNat : Int) == 34) = true ∧ ((c2.toNat : Int) != 34) = false := eq_yes c2 34 hr34
  clear hr34
  obtain ⟨q34a, q34b⟩ : ((c.toNat : Int) == 34) = false ∧ ((c.toNat : Int) != 34) = true := eq_no c 34 hn34
  clear hn34
  obtain ⟨q92a, q92b⟩ : ((c.toNat : Int) == 92) = true ∧ ((c.toNat : Int) != 92) = false := eq_yes c 92 hn92
  clear hn92
  go_wp2_with (first | (at_builtin; refine print_append_num (w0 := _) (w.heap.size + 2) rfl (.tmp 143) (.tmp 147) 39 5 .u8 1 rfl Tryd.underlying39 info8 (by decide) (wv) (by8 wb) (c2.toNat : Int) rfl (by first | rfl | (rw [show ∀ (X : World) p v, (X.setCell p v).heap.size = X.heap.size from fun X p v => by simp]; rfl)) (by rw [by8_len]; exact ow_step HO.out _) (Below.refl _ _) (HZ.out) (by rw [by8_len]; first | omega | simp) ?_; intro v1 w1 hown hbel hg hat; have S1 := Lib.hid (sw_byte HW.out (ow_step HO.out _) hbel hg); have O1 := Lib.hid (ow_byte hown); clear hown hbel hg hat; obtain ⟨d1, d2, d3⟩ := sw_cells S1.out) | (go_at_call 23; first | (refine (HM.out _ (by assumption) (by assumption)).mono ?_; rintro e w1 ⟨rfl, rfl⟩) | (refine (HM2.out _ (by first | assumption | (simp; done)) (by first | assumption | (simp; assumption))).mono ?_; rintro e w1 ⟨rfl, rfl⟩)) | (go_at_call 17; refine (HY.out _).mono ?_; rintro e w1 ⟨rfl, rfl⟩) | fail)
  go_step3
  exact HJ.out.j2 (k + 2) _ _ (HMU.out) ⟨_, _, _, _, ⟨rfl, rfl, rfl, rfl, rfl, rfl, rfl⟩, sw_step1 S1.out HK2.out, fun _ => ⟨ow_step O1.out _, by have := HWL.out; simp; omega, hws⟩, HR.out⟩
set_option maxRecDepth 100000 in
set_option maxHeartbeats 4000000 in
theorem p2_ego92 (s : ByteArray) (w : World) (hs : s.size ≤ 256) (R : WP.Res) (k : Nat) (J : Nat → Act → World → Prop) (hJ : Js J s w R (mu s .quo k)) (a : Act) (W : World) (lv wv : Value) (ws : List (List UInt8)) (wb : List UInt8) (hF : Frm w lv wv a) (hS : SW s w W k lv ws) (ho : OW w W wv wb) (hwl : wb.length ≤ k) (hws : ws.length < 16) (hR : WP.run .quo ws wb k (s.data.toList.drop k) = R) (hk : k < s.size) (c : UInt8) (hc : s[k] = c) (hm : WP.may c = true) (hn34 : c.toNat ≠ 34) (hn92 : c.toNat = 92) (hk2 : k + 1 < s.size) (c2 : UInt8) (hc2 : s[k + 1] = c2) (hr34 : c2.toNat ≠ 34) (hr92 : c2.toNat = 92) :
    Pass 2 .quo s w R k J a W := by
  rw [drop_at s k hk, hc] at hR
  rw [WP.run, if_neg (by simp [hm]), if_neg hn34, if_pos hn92] at hR
  rw [drop_at s (k + 1) hk2, hc2, WP.run, if_pos (.inr hr92)] at hR
  refine ⟨_, rfl, ?_⟩
  obtain ⟨u, rfl⟩ := fr_open a _ _ _ _ _ hF.hd hF.hs hF.h1 hF.h5 hF.h6 hF.h7 hF.h8
  clear hF
  obtain ⟨cl1, cl2, cl3⟩ := sw_cells hS
  unfold Fr
  have HS := Lib.hid hS
  have HR := Lib.hid hR
  have HJ := Lib.hid hJ
  clear hS hR hJ
  have HO := Lib.hid ho
  clear ho
  have HM := cm w s k true (by simp [hk])
  have HY := cy c true hm
  clear hm
  have hkk : k + 1 ≤ 256 := by omega
  have hkk2 : k + 1 + 1 ≤ 256 := by omega
  have HMU := Lib.hid (show mu s .quo (k + 2) < mu s .quo k by simp only [mu, off]; omega)
  have HK2 := Lib.hid (show k + 1 + 1 ≤ s.size by omega)
  have HWL := Lib.hid hwl
  have HT := Lib.hid (sw_step1 HS.out (by omega))
  obtain ⟨e1, e2, e3⟩ := sw_cells HT.out
  have HM2 := cm1 w s k true (by simp; omega)
  have HZ : Hid (w.heap.size + 2 ≤ (W.setCell ⟨w.heap.size + 1, 0, none⟩ (.int .i64 ((k : Int) + 1))).heap.size) := Lib.hid (by have := blk_lt HT.out.ha; omega)
  have HW := Lib.hid (HT.out)
  obtain ⟨r34a, r34b⟩ : ((c2.toNat : Int) == 34) = false ∧ ((c2.toNat : Int) != 34) = true := eq_no c2 34 hr34
  clear hr34
  obtain ⟨r92a, r92b⟩ : ((c2.toNat : Int) == 92) = true ∧ ((c2.toNat : Int) != 92) = false := eq_yes c2 92 hr92
  clear hr92
  obtain ⟨q34a, q34b⟩ : ((c.toNat : Int) == 34) = false ∧ ((c.toNat : Int) != 34) = true := eq_no c 34 hn34
  clear hn34
  obtain ⟨q92a, q92b⟩ : ((c.toNat : Int) == 92) = true ∧ ((c.toNat : Int) != 92) = false := eq_yes c 92 hn92
  clear hn92
  go_wp2_with (first | (at_builtin; refine print_append_num (w0 := _) (w.heap.size + 2) rfl (.tmp 143) (.tmp 147) 39 5 .u8 1 rfl Tryd.underlying39 info8 (by decide) (wv) (by8 wb) (c2.toNat : Int) rfl (by first | rfl | (rw [show ∀ (X : World) p v, (X.setCell p v).heap.size = X.heap.size from fun X p v => by simp]; rfl)) (by rw [by8_len]; exact ow_step HO.out _) (Below.refl _ _) (HZ.out) (by rw [by8_len]; first | omega | simp) ?_; intro v1 w1 hown hbel hg hat; have S1 := Lib.hid (sw_byte HW.out (ow_step HO.out _) hbel hg); have O1 := Lib.hid (ow_byte hown); clear hown hbel hg hat; obtain ⟨d1, d2, d3⟩ := sw_cells S1.out) | (go_at_call 23; first | (refine (HM.out _ (by assumption) (by assumption)).mono ?_; rintro e w1 ⟨rfl, rfl⟩) | (refine (HM2.out _ (by first | assumption | (simp; done)) (by first | assumption | (simp; assumption))).mono ?_; rintro e w1 ⟨rfl, rfl⟩)) | (go_at_call 17; refine (HY.out _).mono ?_; rintro e w1 ⟨rfl, rfl⟩) | fail)
  go_step3
  exact HJ.out.j2 (k + 2) _ _ (HMU.out) ⟨_, _, _, _, ⟨rfl, rfl, rfl, rfl, rfl, rfl, rfl⟩, sw_step1 S1.out HK2.out, fun _ => ⟨ow_step O1.out _, by have := HWL.out; simp; omega, hws⟩, HR.out⟩
theorem byte_ex (s : ByteArray) (k : Nat) (h : k < s.size) : ∃ c, s[k]'h = c := ⟨_, rfl⟩
theorem pass_rest (s : ByteArray) (w : World) (hs : s.size ≤ 256) (R : WP.Res) (k : Nat) (J : Nat → Act → World → Prop) (hJ : Js J s w R (mu s .rest k)) (a : Act) (W : World) (h : St .rest s w R k a W) : Pass 1 .rest s w R k J a W := by
  obtain ⟨lv, wv, ws, wb, hF, hS, _, hR⟩ := h.ex
  by_cases hk : k < s.size
  · obtain ⟨c, hc⟩ := byte_ex s k hk
    cases hm : WP.may c
    · exact p1_bad s w hs R k J hJ a W lv wv ws wb hF hS hR hk c hc hm
    · exact p1_go s w hs R k J hJ a W lv wv ws wb hF hS hR hk c hc hm
  · exact p1_end s w hs R k J hJ a W lv wv ws wb hF hS hR (by omega)
theorem pass_btw (s : ByteArray) (w : World) (hs : s.size ≤ 256) (R : WP.Res) (k : Nat) (J : Nat → Act → World → Prop) (hJ : Js J s w R (mu s .btw k)) (a : Act) (W : World) (h : St .btw s w R k a W) : Pass 0 .btw s w R k J a W := by
  obtain ⟨lv, wv, ws, wb, hF, hS, _, hR⟩ := h.ex
  by_cases hk : k < s.size
  · obtain ⟨c, hc⟩ := byte_ex s k hk
    cases hb : WP.blk c
    · by_cases h35 : c.toNat = 35
      · exact p0_sharp s w hs R k J hJ a W lv wv ws wb hF hS hR hk c hc hb (by simp [WP.may, h35]) h35
      · cases hm : WP.may c
        · exact p0_bad s w hs R k J hJ a W lv wv ws wb hF hS hR hk c hc hb hm h35
        · by_cases hl : ws.length = 16
          · exact p0_many s w hs R k J hJ a W lv wv ws wb hF hS hR hk c hc hb hm h35 hl
          · have hl2 : ws.length < 16 := by have := hS.len; omega
            by_cases h34 : c.toNat = 34
            · exact p0_quo s w hs R k J hJ a W lv wv ws wb hF hS hR hk c hc hb hm h35 h34 hl2
            · by_cases h92 : c.toNat = 92
              · exact p0_stroke s w hs R k J hJ a W lv wv ws wb hF hS hR hk c hc hb hm h35 h34 h92 hl2
              · exact p0_pla s w hs R k J hJ a W lv wv ws wb hF hS hR hk c hc hb hm h35 h34 h92 hl2
    · exact p0_blk s w hs R k J hJ a W lv wv ws wb hF hS hR hk c hc hb
  · exact p0_end s w hs R k J hJ a W lv wv ws wb hF hS hR (by omega)
theorem pass_pla (s : ByteArray) (w : World) (hs : s.size ≤ 256) (R : WP.Res) (k : Nat) (J : Nat → Act → World → Prop) (hJ : Js J s w R (mu s .pla k)) (a : Act) (W : World) (h : St .pla s w R k a W) : Pass 3 .pla s w R k J a W := by
  obtain ⟨lv, wv, ws, wb, hF, hS, hO, hR⟩ := h.ex
  obtain ⟨ho, hwl, hws⟩ := hO (.inl rfl)
  by_cases hk : k < s.size
  · obtain ⟨c, hc⟩ := byte_ex s k hk
    cases hb : WP.blk c
    · cases hm : WP.may c
      · exact p3_bad s w hs R k J hJ a W lv wv ws wb hF hS ho hwl hws hR hk c hc hb hm
      · by_cases h34 : c.toNat = 34
        · exact p3_bad34 s w hs R k J hJ a W lv wv ws wb hF hS ho hwl hws hR hk c hc hb hm h34
        · by_cases h92 : c.toNat = 92
          · exact p3_bad92 s w hs R k J hJ a W lv wv ws wb hF hS ho hwl hws hR hk c hc hb hm h34 h92
          · exact p3_go s w hs R k J hJ a W lv wv ws wb hF hS ho hwl hws hR hk c hc hb hm h34 h92
    · exact p3_blk s w hs R k J hJ a W lv wv ws wb hF hS ho hwl hws hR hk c hc hb
  · exact p3_end s w hs R k J hJ a W lv wv ws wb hF hS ho hwl hws hR (by omega)
theorem pass_quo (s : ByteArray) (w : World) (hs : s.size ≤ 256) (R : WP.Res) (k : Nat) (J : Nat → Act → World → Prop) (hJ : Js J s w R (mu s .quo k)) (a : Act) (W : World) (h : St .quo s w R k a W) : Pass 2 .quo s w R k J a W := by
  obtain ⟨lv, wv, ws, wb, hF, hS, hO, hR⟩ := h.ex
  obtain ⟨ho, hwl, hws⟩ := hO (.inr rfl)
  by_cases hk : k < s.size
  · obtain ⟨c, hc⟩ := byte_ex s k hk
    cases hm : WP.may c
    · exact p2_bad s w hs R k J hJ a W lv wv ws wb hF hS ho hwl hws hR hk c hc hm
    · by_cases h34 : c.toNat = 34
      · by_cases hk2 : k + 1 < s.size
        · obtain ⟨c2, hc2⟩ := byte_ex s (k + 1) hk2
          cases hb : WP.blk c2
          · exact p2_qbad s w hs R k J hJ a W lv wv ws wb hF hS ho hwl hws hR hk c hc hm h34 hk2 c2 hc2 hb
          · exact p2_qblk s w hs R k J hJ a W lv wv ws wb hF hS ho hwl hws hR hk c hc hm h34 hk2 c2 hc2 hb
        · exact p2_qend s w hs R k J hJ a W lv wv ws wb hF hS ho hwl hws hR hk c hc hm h34 (by omega)
      · by_cases h92 : c.toNat = 92
        · by_cases hk2 : k + 1 < s.size
          · obtain ⟨c2, hc2⟩ := byte_ex s (k + 1) hk2
            by_cases r34 : c2.toNat = 34
            · exact p2_ego34 s w hs R k J hJ a W lv wv ws wb hF hS ho hwl hws hR hk c hc hm h34 h92 hk2 c2 hc2 r34
            · by_cases r92 : c2.toNat = 92
              · exact p2_ego92 s w hs R k J hJ a W lv wv ws wb hF hS ho hwl hws hR hk c hc hm h34 h92 hk2 c2 hc2 r34 r92
              · exact p2_ebad s w hs R k J hJ a W lv wv ws wb hF hS ho hwl hws hR hk c hc hm h34 h92 hk2 c2 hc2 r34 r92
          · exact p2_eend s w hs R k J hJ a W lv wv ws wb hF hS ho hwl hws hR hk c hc hm h34 h92 (by omega)
        · exact p2_go s w hs R k J hJ a W lv wv ws wb hF hS ho hwl hws hR hk c hc hm h34 h92
  · exact p2_end s w hs R k J hJ a W lv wv ws wb hF hS ho hwl hws hR (by omega)
def JJ (s : ByteArray) (w : World) (R : WP.Res) (n : Nat) (l : Nat) (a : Act) (W : World) : Prop :=
  ∃ m k, ((m = .btw ∧ l = 0) ∨ (m = .rest ∧ l = 1) ∨ (m = .quo ∧ l = 2) ∨ (m = .pla ∧ l = 3)) ∧ mu s m k < n ∧ St m s w R k a W
def posOf (w W : World) : Nat := match W.cell? ⟨w.heap.size + 1, 0, none⟩ with | some (.int _ k) => k.toNat | _ => 0
def lm (l : Nat) : WP.Mode := if l = 0 then .btw else if l = 1 then .rest else if l = 2 then .quo else .pla
theorem pos_is {m : WP.Mode} {s : ByteArray} {w : World} {R : WP.Res} {k : Nat} {a : Act} {W : World} (h : St m s w R k a W) : posOf w W = k := by
  obtain ⟨lv, wv, ws, wb, hF, hS, _, _⟩ := h.ex
  obtain ⟨_, c2, _⟩ := sw_cells hS
  unfold posOf
  rw [c2]
  simp
theorem js_of (s : ByteArray) (w : World) (R : WP.Res) (n : Nat) : Js (JJ s w R n) s w R n :=
  ⟨fun k a W h hs => ⟨.btw, k, .inl ⟨rfl, rfl⟩, h, hs⟩, fun k a W h hs => ⟨.rest, k, .inr (.inl ⟨rfl, rfl⟩), h, hs⟩, fun k a W h hs => ⟨.quo, k, .inr (.inr (.inl ⟨rfl, rfl⟩)), h, hs⟩, fun k a W h hs => ⟨.pla, k, .inr (.inr (.inr ⟨rfl, rfl⟩)), h, hs⟩⟩
theorem wp_skip_seq {c : Code} {Q : Exit → Act → World → Prop} {a : Act} {W : World} (h : c.wp Tryd.prog Q a W) : (Code.seq .skip c).wp Tryd.prog Q a W := wp_seq (wp_skip h)
theorem wp_jumps_mono {c : Code} {J J' : Nat → Act → World → Prop} {Q : Exit → Act → World → Prop} {a : Act} {W : World} (hJ : ∀ l a W, J l a W → J' l a W) (h : c.wp Tryd.prog (jumps J Q) a W) : c.wp Tryd.prog (jumps J' Q) a W := by
  refine wp_mono h fun e a' w' h' => ?_
  cases e
  case goto l => exact hJ _ _ _ h'
  all_goals exact h'
theorem sw_start (s : ByteArray) (w : World) : SW s w ((w.alloc (.cells #[.string s] 9)).alloc (.cells #[.int .i64 0] 3)) 0 (.slice none 0 0) [] :=
  ⟨(Below.heap_alloc _ _ _ (by simp)).trans (heap_alloc_new w _), by have := heap_alloc_new (w.alloc (.cells #[.string s] 9)) (.cells #[.int .i64 0] 3); simpa using this, Nat.zero_le _, own_nil _ _ _ _, below_alloc (below_alloc (Below.refl _ _) _) _, by simp⟩
set_option maxRecDepth 100000 in
set_option maxHeartbeats 4000000 in
theorem split_small (s : ByteArray) (w : World) (hs : s.size ≤ 256) :
    Calls Tryd.prog 13 #[.string s] w (Post w (WP.split s.data.toList)) := by
  have hR : WP.split s.data.toList = WP.run .btw [] [] 0 s.data.toList := by
    unfold WP.split
    rw [if_neg (by simpa using hs)]
  rw [hR]
  generalize hRR : WP.run .btw [] [] 0 s.data.toList = R
  have HRR := Lib.hid hRR
  clear hR hRR
  have hq : ¬ (256 : Int) < (s.size : Int) := by omega
  have hmf : ∀ (fn : Fn) (first cap : Array Value) (w : World), (Instr.makeFunc fn first cap).run Tryd.prog w = .ok (.func fn first cap) w := fun _ _ _ _ => rfl
  have HB : ∀ l m k a W, ((m = WP.Mode.btw ∧ l = 0) ∨ (m = .rest ∧ l = 1) ∨ (m = .quo ∧ l = 2) ∨ (m = .pla ∧ l = 3)) → St m s w R k a W → Pass l m s w R k (JJ s w R (mu s m k)) a W := by
    intro l m k a W hl h
    rcases hl with ⟨rfl, rfl⟩ | ⟨rfl, rfl⟩ | ⟨rfl, rfl⟩ | ⟨rfl, rfl⟩
    · exact pass_btw s w hs R k _ (js_of s w R _) a W h
    · exact pass_rest s w hs R k _ (js_of s w R _) a W h
    · exact pass_quo s w hs R k _ (js_of s w R _) a W h
    · exact pass_pla s w hs R k _ (js_of s w R _) a W h
  have HBB := Lib.hid HB
  clear HB
  go_enter Tryd.func13, Tryd.ntmps13
  go_wp2_with fail
  refine wp_scope_labels (fun l a W => ∃ n, JJ s w R n l a W) (fun l a W => mu s (lm l) (posOf w W)) ?_ ?_
  · go_wp2_with fail
    go_step3
    rename_i K hK
    refine hK _ _ ?_
    refine (fun a W (h : St .btw s w R 0 a W) => (?_ : Code.wp _ _ _ a W)) _ _ ⟨.slice none 0 0, .slice none 0 0, [], [], ⟨rfl, rfl, rfl, rfl, rfl, rfl, rfl⟩, sw_start s w, by simp, HRR.out⟩
    obtain ⟨rest, h1, h2⟩ := HBB.out 0 .btw 0 a W (.inl ⟨rfl, rfl⟩) h
    obtain rfl := (Code.seq.inj (Option.some.inj (h1.symm.trans (rfl : findLabel sbody 0 = some (.seq .skip _))))).2
    exact wp_jumps_mono (fun l a W h => ⟨_, h⟩) h2
  · rintro l a W ⟨n, m, k, hl, hn, hst⟩
    obtain ⟨rest, h1, h2⟩ := HBB.out l m k a W hl hst
    refine ⟨_, h1, wp_skip_seq (wp_jumps_mono ?_ h2)⟩
    rintro l' a' W' ⟨m', k', hl', hn', hst'⟩
    refine ⟨⟨_, m', k', hl', hn', hst'⟩, ?_⟩
    have e1 := pos_is hst
    have e2 := pos_is hst'
    have e3 : lm l = m := by rcases hl with ⟨rfl, rfl⟩ | ⟨rfl, rfl⟩ | ⟨rfl, rfl⟩ | ⟨rfl, rfl⟩ <;> rfl
    have e4 : lm l' = m' := by rcases hl' with ⟨rfl, rfl⟩ | ⟨rfl, rfl⟩ | ⟨rfl, rfl⟩ | ⟨rfl, rfl⟩ <;> rfl
    rw [e1, e2, e3, e4]
    exact hn'
set_option maxRecDepth 100000 in
set_option maxHeartbeats 4000000 in
theorem split_big (s : ByteArray) (w : World) (hs : ¬ s.size ≤ 256) :
    Calls Tryd.prog 13 #[.string s] w (Post w (WP.split s.data.toList)) := by
  have hR : WP.split s.data.toList = ([], 256, 150) := by
    unfold WP.split
    rw [if_pos (by simp; omega)]
  rw [hR]
  clear hR
  have hq : (256 : Int) < (s.size : Int) := by omega
  have hmf : ∀ (fn : Fn) (first cap : Array Value) (w : World), (Instr.makeFunc fn first cap).run Tryd.prog w = .ok (.func fn first cap) w := fun _ _ _ _ => rfl
  go_enter Tryd.func13, Tryd.ntmps13
  go_wp2_with fail
  go_step3
  go_wp2_with fail
  go_ret3
  exact ⟨_, rfl, own_nil _ _ _ _, below_alloc (Below.refl _ _) _⟩
theorem split_any (s : ByteArray) (w : World) : Calls Tryd.prog 13 #[.string s] w (Post w (WP.split s.data.toList)) := by
  by_cases hs : s.size ≤ 256
  · exact split_small s w hs
  · exact split_big s w hs
def wordsSplit (s : ByteArray) : List ByteArray × Int × Int := ((WP.split s.data.toList).1.map ba, ((WP.split s.data.toList).2.1 : Nat), ((WP.split s.data.toList).2.2 : Nat))
def words_Split.f (a0 : ByteArray) : Option (List ByteArray × Int × Int) := some (wordsSplit a0)
theorem words_Split.calls (a0 : ByteArray) (r1 : List ByteArray) (r2 r3 : Int) (w : World) (h : words_Split.f a0 = some (r1, r2, r3)) :
    Calls Tryd.prog 13 #[.string a0] w fun e w' => ∃ v0_ : Value, e = .returned (.tuple #[v0_, .int .i64 r2, .int .i64 r3]) ∧ Kd.R Kd.string 9 w' w.heap.size (fun _ => True) v0_ r1 ∧ Below w.heap.size w w' := by
  have h' := Option.some.inj h
  unfold wordsSplit at h'
  obtain ⟨rfl, h2⟩ := Prod.mk.inj h'
  obtain ⟨rfl, rfl⟩ := Prod.mk.inj h2
  refine (split_any a0 w).mono ?_
  rintro e w' ⟨lv, rfl, ho, hb⟩
  refine ⟨lv, rfl, ⟨fun _ _ => trivial, strs _, by rw [List.length_map]; exact ho, ?_⟩, hb⟩
  exact reps_strs _ _ _ _
end Go.Proofs.YtbfeokfninedcaaDoor.Ext
namespace Go.Proofs
open Go.Shelf
def Tryd.lays156_ren : Go.Shelf.Ren := ⟨fun | 156 => 21 | 165 => 28 | 166 => 29 | 169 => 30 | 240 => 36 | 241 => 37 | 276 => 48 | 277 => 49 | n => n, fun | 31 => 22 | 9 => 9 | 3 => 3 | 4 => 4 | 0 => 0 | 20 => 20 | 72 => 61 | 76 => 65 | 70 => 59 | 37 => 39 | 75 => 64 | 127 => 71 | 164 => 89 | 5 => 5 | 80 => 67 | n => n, fun | n => n⟩
theorem Tryd.lays156 : Go.Proofs.Lays.n156 Tryd.prog Tryd.lays156_ren := {
  mixed := by kernel_rfl
  f156 := Tryd.func21.trans (congrArg some (by kernel_rfl))
  f165 := Tryd.func28.trans (congrArg some (by kernel_rfl))
  f166 := Tryd.func29.trans (congrArg some (by kernel_rfl))
  f169 := Tryd.func30.trans (congrArg some (by kernel_rfl))
  f240 := Tryd.func36.trans (congrArg some (by kernel_rfl))
  f241 := Tryd.func37.trans (congrArg some (by kernel_rfl))
  f276 := Tryd.func48.trans (congrArg some (by kernel_rfl))
  f277 := Tryd.func49.trans (congrArg some (by kernel_rfl))
  t0 := Tryd.underlying0
  a0 := Tryd.isAgg0
  z0 := Tryd.sizeOf0
  v0 := Tryd.zeroValue0
  t3 := Tryd.underlying3
  a3 := Tryd.isAgg3
  z3 := Tryd.sizeOf3
  v3 := Tryd.zeroValue3
  t4 := Tryd.underlying4
  a4 := Tryd.isAgg4
  z4 := Tryd.sizeOf4
  v4 := Tryd.zeroValue4
  t9 := Tryd.underlying9
  a9 := Tryd.isAgg9
  z9 := Tryd.sizeOf9
  v9 := Tryd.zeroValue9
  t20 := Tryd.underlying20
  a20 := Tryd.isAgg20
  z20 := Tryd.sizeOf20
  v20 := Tryd.zeroValue20
  t31 := Tryd.underlying22
  a31 := Tryd.isAgg22
  z31 := Tryd.sizeOf22
  v31 := Tryd.zeroValue22
  t37 := Tryd.underlying39
  a37 := Tryd.isAgg39
  z37 := Tryd.sizeOf39
  v37 := Tryd.zeroValue39
  t70 := Tryd.underlying59
  a70 := Tryd.isAgg59
  z70 := Tryd.sizeOf59
  v70 := Tryd.zeroValue59
  t72 := Tryd.underlying61
  a72 := Tryd.isAgg61
  z72 := Tryd.sizeOf61
  v72 := Tryd.zeroValue61
  t75 := Tryd.underlying64
  a75 := Tryd.isAgg64
  z75 := Tryd.sizeOf64
  v75 := Tryd.zeroValue64
  t76 := Tryd.underlying65
  a76 := Tryd.isAgg65
  z76 := Tryd.sizeOf65
  v76 := Tryd.zeroValue65
  t127 := Tryd.underlying71
  a127 := Tryd.isAgg71
  z127 := Tryd.sizeOf71
  v127 := Tryd.zeroValue71
  t164 := Tryd.underlying89
  a164 := Tryd.isAgg89
  z164 := Tryd.sizeOf89
  v164 := Tryd.zeroValue89 }
theorem Tryd.Builder_Extra_156 : Builder.Extra Tryd.prog Tryd.lays156_ren := {
  sizeBuilder := by kernel_rfl
  liesBuilder := by kernel_rfl
  t5 := Tryd.underlying5
  a5 := Tryd.isAgg5
  z5 := Tryd.sizeOf5
  v5 := Tryd.zeroValue5
  infoByte := by kernel_rfl
  cellsByte := by kernel_rfl
  sizeByte := by kernel_rfl
  neB5 := by decide }
open Go.RowKit in
theorem Tryd.strings_Join_none (a : Option Addr) (c : Nat) (sep : ByteArray) (w : World) :
    Calls Tryd.prog 21 #[.slice a 0 c, .string sep] w fun e w' => e = .returned (.string ⟨#[]⟩) ∧ w' = w := Any.strings_Join_none Tryd.lays156 Tryd.Builder_Extra_156 a c sep w
open Go.RowKit in
theorem Tryd.strings_Join (bk o c : Nat) (xs : List ByteArray) (sep : ByteArray) (w : World) (hcells : ∀ (j : Nat) x, xs[j]? = some x → w.cell? ⟨bk, o + j, none⟩ = some (.string x)) (hbk : bk < w.heap.size) (hN : xs.length ≤ 140737488355328) (hcap : xs.length ≤ c) (hlen : (Lib.join (xs.map (·.data.toList)) sep.data.toList).length ≤ 140737488355328) :
    Calls Tryd.prog 21 #[.slice (some ⟨bk, o, none⟩) xs.length c, .string sep] w fun e w' => e = .returned (.string ⟨(Lib.join (xs.map (·.data.toList)) sep.data.toList).toArray⟩) ∧ Below w.heap.size w w' := Any.strings_Join Tryd.lays156 Tryd.Builder_Extra_156 bk o c xs sep w hcells hbk hN hcap hlen
def Tryd.lays143_ren : Go.Shelf.Ren := ⟨fun | 143 => 40 | 219 => 53 | 217 => 61 | 225 => 62 | 224 => 63 | 267 => 64 | 266 => 75 | 314 => 76 | n => n, fun | 9 => 9 | 3 => 3 | 4 => 4 | 5 => 5 | 46 => 111 | 146 => 125 | 51 => 45 | n => n, fun | 1 => 0 | n => n⟩
theorem Tryd.lays143 : Go.Proofs.Lays.n143 Tryd.prog Tryd.lays143_ren := {
  mixed := by kernel_rfl
  f143 := Tryd.func40.trans (congrArg some (by kernel_rfl))
  f217 := Tryd.func61.trans (congrArg some (by kernel_rfl))
  f219 := Tryd.func53.trans (congrArg some (by kernel_rfl))
  f224 := Tryd.func63.trans (congrArg some (by kernel_rfl))
  f225 := Tryd.func62.trans (congrArg some (by kernel_rfl))
  f266 := Tryd.func75.trans (congrArg some (by kernel_rfl))
  f267 := Tryd.func64.trans (congrArg some (by kernel_rfl))
  f314 := Tryd.func76.trans (congrArg some (by kernel_rfl))
  t3 := Tryd.underlying3
  a3 := Tryd.isAgg3
  z3 := Tryd.sizeOf3
  v3 := Tryd.zeroValue3
  t4 := Tryd.underlying4
  a4 := Tryd.isAgg4
  z4 := Tryd.sizeOf4
  v4 := Tryd.zeroValue4
  t5 := Tryd.underlying5
  a5 := Tryd.isAgg5
  z5 := Tryd.sizeOf5
  v5 := Tryd.zeroValue5
  t9 := Tryd.underlying9
  a9 := Tryd.isAgg9
  z9 := Tryd.sizeOf9
  v9 := Tryd.zeroValue9
  t46 := Tryd.underlying111
  a46 := Tryd.isAgg111
  z46 := Tryd.sizeOf111
  v46 := Tryd.zeroValue111
  t51 := Tryd.underlying45
  a51 := Tryd.isAgg45
  z51 := Tryd.sizeOf45
  v51 := Tryd.zeroValue45
  t146 := Tryd.underlying125
  a146 := Tryd.isAgg125
  z146 := Tryd.sizeOf125
  v146 := Tryd.zeroValue125
  g1 := by kernel_rfl }
open Go.RowKit Go.Lib in
theorem Tryd.strings_Index_one (s : ByteArray) (c : UInt8) (w : World) :
    Calls Tryd.prog 40 #[.string s, .string ⟨#[c]⟩] w fun e w' => e = .returned (.int .i64 (Lib.indexByte s.data.toList c)) ∧ w' = w := Any.strings_Index_one Tryd.lays143 s c w
def Tryd.lays138_ren : Go.Shelf.Ren := ⟨fun | 138 => 39 | 195 => 50 | 218 => 52 | 143 => 40 | 219 => 53 | 217 => 61 | 225 => 62 | 224 => 63 | 267 => 64 | 266 => 75 | 314 => 76 | n => n, fun | 9 => 9 | 3 => 3 | 4 => 4 | 5 => 5 | 0 => 0 | 46 => 111 | 146 => 125 | 51 => 45 | n => n, fun | 1 => 0 | n => n⟩
theorem Tryd.lays138 : Go.Proofs.Lays.n138 Tryd.prog Tryd.lays138_ren := {
  mixed := by kernel_rfl
  f138 := Tryd.func39.trans (congrArg some (by kernel_rfl))
  f143 := Tryd.func40.trans (congrArg some (by kernel_rfl))
  f195 := Tryd.func50.trans (congrArg some (by kernel_rfl))
  f217 := Tryd.func61.trans (congrArg some (by kernel_rfl))
  f218 := Tryd.func52.trans (congrArg some (by kernel_rfl))
  f219 := Tryd.func53.trans (congrArg some (by kernel_rfl))
  f224 := Tryd.func63.trans (congrArg some (by kernel_rfl))
  f225 := Tryd.func62.trans (congrArg some (by kernel_rfl))
  f266 := Tryd.func75.trans (congrArg some (by kernel_rfl))
  f267 := Tryd.func64.trans (congrArg some (by kernel_rfl))
  f314 := Tryd.func76.trans (congrArg some (by kernel_rfl))
  t0 := Tryd.underlying0
  a0 := Tryd.isAgg0
  z0 := Tryd.sizeOf0
  v0 := Tryd.zeroValue0
  t3 := Tryd.underlying3
  a3 := Tryd.isAgg3
  z3 := Tryd.sizeOf3
  v3 := Tryd.zeroValue3
  t4 := Tryd.underlying4
  a4 := Tryd.isAgg4
  z4 := Tryd.sizeOf4
  v4 := Tryd.zeroValue4
  t5 := Tryd.underlying5
  a5 := Tryd.isAgg5
  z5 := Tryd.sizeOf5
  v5 := Tryd.zeroValue5
  t9 := Tryd.underlying9
  a9 := Tryd.isAgg9
  z9 := Tryd.sizeOf9
  v9 := Tryd.zeroValue9
  t46 := Tryd.underlying111
  a46 := Tryd.isAgg111
  z46 := Tryd.sizeOf111
  v46 := Tryd.zeroValue111
  t51 := Tryd.underlying45
  a51 := Tryd.isAgg45
  z51 := Tryd.sizeOf45
  v51 := Tryd.zeroValue45
  t146 := Tryd.underlying125
  a146 := Tryd.isAgg125
  z146 := Tryd.sizeOf125
  v146 := Tryd.zeroValue125
  g1 := by kernel_rfl }
open Go.RowKit Go.Lib in
theorem Tryd.strings_Count_one (s : ByteArray) (c : UInt8) (w : World) :
    Calls Tryd.prog 39 #[.string s, .string ⟨#[c]⟩] w fun e w' => e = .returned (.int .i64 (Lib.countByte s.data.toList c)) ∧ w' = w := Any.strings_Count_one Tryd.lays138 s c w
def Tryd.lays102_ren : Go.Shelf.Ren := ⟨fun | 102 => 25 | 209 => 32 | 207 => 41 | n => n, fun | 9 => 9 | 4 => 4 | 3 => 3 | n => n, fun | n => n⟩
theorem Tryd.lays102 : Go.Proofs.Lays.n102 Tryd.prog Tryd.lays102_ren := {
  mixed := by kernel_rfl
  f102 := Tryd.func25.trans (congrArg some (by kernel_rfl))
  f207 := Tryd.func41.trans (congrArg some (by kernel_rfl))
  f209 := Tryd.func32.trans (congrArg some (by kernel_rfl))
  t3 := Tryd.underlying3
  a3 := Tryd.isAgg3
  z3 := Tryd.sizeOf3
  v3 := Tryd.zeroValue3
  t4 := Tryd.underlying4
  a4 := Tryd.isAgg4
  z4 := Tryd.sizeOf4
  v4 := Tryd.zeroValue4
  t9 := Tryd.underlying9
  a9 := Tryd.isAgg9
  z9 := Tryd.sizeOf9
  v9 := Tryd.zeroValue9 }
open Go.RowKit Go.Lib in
theorem Tryd.strings_TrimSuffix (s p : ByteArray) (w : World) (hs : s.size ≤ 9223372036854775807) :
    Calls Tryd.prog 25 #[.string s, .string p] w fun e w' => e = .returned (.string ⟨(Lib.trimSuffix s.data.toList p.data.toList).toArray⟩) ∧ w' = w := Any.strings_TrimSuffix Tryd.lays102 s p w hs
def Tryd.lays221_ren : Go.Shelf.Ren := ⟨fun | 221 => 31 | 268 => 38 | 138 => 39 | 143 => 40 | 195 => 50 | 197 => 51 | 218 => 52 | 219 => 53 | 260 => 60 | 217 => 61 | 225 => 62 | 224 => 63 | 267 => 64 | 266 => 75 | 314 => 76 | n => n, fun | 9 => 9 | 3 => 3 | 31 => 22 | 4 => 4 | 0 => 0 | 105 => 93 | 21 => 21 | 5 => 5 | 46 => 111 | 119 => 82 | 139 => 124 | 138 => 123 | 146 => 125 | 51 => 45 | n => n, fun | 1 => 0 | 3 => 1 | 4 => 2 | n => n⟩
theorem Tryd.lays221 : Go.Proofs.Lays.n221 Tryd.prog Tryd.lays221_ren := {
  mixed := by kernel_rfl
  f138 := Tryd.func39.trans (congrArg some (by kernel_rfl))
  f143 := Tryd.func40.trans (congrArg some (by kernel_rfl))
  f195 := Tryd.func50.trans (congrArg some (by kernel_rfl))
  f197 := Tryd.func51.trans (congrArg some (by kernel_rfl))
  f217 := Tryd.func61.trans (congrArg some (by kernel_rfl))
  f218 := Tryd.func52.trans (congrArg some (by kernel_rfl))
  f219 := Tryd.func53.trans (congrArg some (by kernel_rfl))
  f221 := Tryd.func31.trans (congrArg some (by kernel_rfl))
  f224 := Tryd.func63.trans (congrArg some (by kernel_rfl))
  f225 := Tryd.func62.trans (congrArg some (by kernel_rfl))
  f260 := Tryd.func60.trans (congrArg some (by kernel_rfl))
  f266 := Tryd.func75.trans (congrArg some (by kernel_rfl))
  f267 := Tryd.func64.trans (congrArg some (by kernel_rfl))
  f268 := Tryd.func38.trans (congrArg some (by kernel_rfl))
  f314 := Tryd.func76.trans (congrArg some (by kernel_rfl))
  t0 := Tryd.underlying0
  a0 := Tryd.isAgg0
  z0 := Tryd.sizeOf0
  v0 := Tryd.zeroValue0
  t3 := Tryd.underlying3
  a3 := Tryd.isAgg3
  z3 := Tryd.sizeOf3
  v3 := Tryd.zeroValue3
  t4 := Tryd.underlying4
  a4 := Tryd.isAgg4
  z4 := Tryd.sizeOf4
  v4 := Tryd.zeroValue4
  t5 := Tryd.underlying5
  a5 := Tryd.isAgg5
  z5 := Tryd.sizeOf5
  v5 := Tryd.zeroValue5
  t9 := Tryd.underlying9
  a9 := Tryd.isAgg9
  z9 := Tryd.sizeOf9
  v9 := Tryd.zeroValue9
  t21 := Tryd.underlying21
  a21 := Tryd.isAgg21
  z21 := Tryd.sizeOf21
  v21 := Tryd.zeroValue21
  t31 := Tryd.underlying22
  a31 := Tryd.isAgg22
  z31 := Tryd.sizeOf22
  v31 := Tryd.zeroValue22
  t46 := Tryd.underlying111
  a46 := Tryd.isAgg111
  z46 := Tryd.sizeOf111
  v46 := Tryd.zeroValue111
  t51 := Tryd.underlying45
  a51 := Tryd.isAgg45
  z51 := Tryd.sizeOf45
  v51 := Tryd.zeroValue45
  t105 := Tryd.underlying93
  a105 := Tryd.isAgg93
  z105 := Tryd.sizeOf93
  v105 := Tryd.zeroValue93
  t119 := Tryd.underlying82
  a119 := Tryd.isAgg82
  z119 := Tryd.sizeOf82
  t138 := Tryd.underlying123
  a138 := Tryd.isAgg123
  z138 := Tryd.sizeOf123
  v138 := Tryd.zeroValue123
  t139 := Tryd.underlying124
  a139 := Tryd.isAgg124
  z139 := Tryd.sizeOf124
  v139 := Tryd.zeroValue124
  t146 := Tryd.underlying125
  a146 := Tryd.isAgg125
  z146 := Tryd.sizeOf125
  v146 := Tryd.zeroValue125
  g1 := by kernel_rfl
  g3 := by kernel_rfl
  g4 := by kernel_rfl }
def Tryd.lays146_ren : Go.Shelf.Ren := ⟨fun | 146 => 24 | 221 => 31 | 268 => 38 | 138 => 39 | 143 => 40 | 195 => 50 | 197 => 51 | 218 => 52 | 219 => 53 | 260 => 60 | 217 => 61 | 225 => 62 | 224 => 63 | 267 => 64 | 266 => 75 | 314 => 76 | n => n, fun | 9 => 9 | 31 => 22 | 3 => 3 | 4 => 4 | 0 => 0 | 105 => 93 | 21 => 21 | 5 => 5 | 46 => 111 | 119 => 82 | 139 => 124 | 138 => 123 | 146 => 125 | 51 => 45 | n => n, fun | 1 => 0 | 3 => 1 | 4 => 2 | n => n⟩
theorem Tryd.lays146 : Go.Proofs.Lays.n146 Tryd.prog Tryd.lays146_ren := {
  mixed := by kernel_rfl
  f138 := Tryd.func39.trans (congrArg some (by kernel_rfl))
  f143 := Tryd.func40.trans (congrArg some (by kernel_rfl))
  f146 := Tryd.func24.trans (congrArg some (by kernel_rfl))
  f195 := Tryd.func50.trans (congrArg some (by kernel_rfl))
  f197 := Tryd.func51.trans (congrArg some (by kernel_rfl))
  f217 := Tryd.func61.trans (congrArg some (by kernel_rfl))
  f218 := Tryd.func52.trans (congrArg some (by kernel_rfl))
  f219 := Tryd.func53.trans (congrArg some (by kernel_rfl))
  f221 := Tryd.func31.trans (congrArg some (by kernel_rfl))
  f224 := Tryd.func63.trans (congrArg some (by kernel_rfl))
  f225 := Tryd.func62.trans (congrArg some (by kernel_rfl))
  f260 := Tryd.func60.trans (congrArg some (by kernel_rfl))
  f266 := Tryd.func75.trans (congrArg some (by kernel_rfl))
  f267 := Tryd.func64.trans (congrArg some (by kernel_rfl))
  f268 := Tryd.func38.trans (congrArg some (by kernel_rfl))
  f314 := Tryd.func76.trans (congrArg some (by kernel_rfl))
  t0 := Tryd.underlying0
  a0 := Tryd.isAgg0
  z0 := Tryd.sizeOf0
  v0 := Tryd.zeroValue0
  t3 := Tryd.underlying3
  a3 := Tryd.isAgg3
  z3 := Tryd.sizeOf3
  v3 := Tryd.zeroValue3
  t4 := Tryd.underlying4
  a4 := Tryd.isAgg4
  z4 := Tryd.sizeOf4
  v4 := Tryd.zeroValue4
  t5 := Tryd.underlying5
  a5 := Tryd.isAgg5
  z5 := Tryd.sizeOf5
  v5 := Tryd.zeroValue5
  t9 := Tryd.underlying9
  a9 := Tryd.isAgg9
  z9 := Tryd.sizeOf9
  v9 := Tryd.zeroValue9
  t21 := Tryd.underlying21
  a21 := Tryd.isAgg21
  z21 := Tryd.sizeOf21
  v21 := Tryd.zeroValue21
  t31 := Tryd.underlying22
  a31 := Tryd.isAgg22
  z31 := Tryd.sizeOf22
  v31 := Tryd.zeroValue22
  t46 := Tryd.underlying111
  a46 := Tryd.isAgg111
  z46 := Tryd.sizeOf111
  v46 := Tryd.zeroValue111
  t51 := Tryd.underlying45
  a51 := Tryd.isAgg45
  z51 := Tryd.sizeOf45
  v51 := Tryd.zeroValue45
  t105 := Tryd.underlying93
  a105 := Tryd.isAgg93
  z105 := Tryd.sizeOf93
  v105 := Tryd.zeroValue93
  t119 := Tryd.underlying82
  a119 := Tryd.isAgg82
  z119 := Tryd.sizeOf82
  t138 := Tryd.underlying123
  a138 := Tryd.isAgg123
  z138 := Tryd.sizeOf123
  v138 := Tryd.zeroValue123
  t139 := Tryd.underlying124
  a139 := Tryd.isAgg124
  z139 := Tryd.sizeOf124
  v139 := Tryd.zeroValue124
  t146 := Tryd.underlying125
  a146 := Tryd.isAgg125
  z146 := Tryd.sizeOf125
  v146 := Tryd.zeroValue125
  g1 := by kernel_rfl
  g3 := by kernel_rfl
  g4 := by kernel_rfl }
open Go.RowKit Go.Lib in
theorem Tryd.strings_Split (s sep : ByteArray) (m : Int) (w : World) (hs : s.size < 4294967281) (hm : w.cell? ⟨0, 0, none⟩ = some (.int .i64 m)) (h1 : 1 ≤ sep.size) :
    Calls Tryd.prog 24 #[.string s, .string sep] w fun e w' =>
      e = .returned (.slice (some ⟨w.heap.size, 0, none⟩) (Lib.countB s sep + 1) (Lib.countB s sep + 1)) ∧ w' = w.alloc (.cells ((Lib.splitB sep 0 (Lib.countB s sep) s).map Value.string).toArray 9) := Any.strings_Split Tryd.lays146 (by kernel_rfl) s sep m w hs hm h1
end Go.Proofs
