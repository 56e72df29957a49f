/- Gathered by a program of this session (shake.py): what the claim's theorem needs. -/
import Derived.Test.YtlglbpjccpdloaaGreatDoorOr0
import Derived.Test.YtlglbpjccpdloaaGreatDoorOr1
import Derived.Test.YtlglbpjccpdloaaGreatDoorOr2
import Derived.Below
import Derived.Deep.Draws
import Derived.Deep.AppendLies
import Derived.Maps.AppendAt
import Derived.OwnWalk
import Derived.Laws.BytesArg
import Derived.Laws.MakeOwn
import Derived.Laws.OwnMore
import Derived.Deep.OwnRows
import Derived.Tactics
import Derived.Lib.ConvBytes
import Derived.Laws.Slices
import Derived.WalkKit
import Derived.KernelRfl
import Derived.RowKit3
import Derived.Deep.LoopGhost
import Derived.Deep.QuietTactic
import Derived.BigQuiet
import Derived.WideLaws
import Derived.Deep.DeepCutAuto
import Derived.Deep.CutBlock
import Derived.Deep.RegionHeld3
import Derived.Laws.Rows
import Derived.Lib.AppendStr
import Derived.ArgAppend
import Derived.Laws.IdiomCopy
import Derived.OrdersHeld
import Derived.Laws.BitsLemmas
import Derived.RowKit
import Derived.Test.YtlglbpjccpdloaaGreatDoorProg
import Derived.Laws.EntriesVeiled
set_option linter.unusedVariables false
set_option linter.unusedSimpArgs false
namespace Go.Proofs.YtlglbpjccpdloaaGreatDoor.Ext
end Go.Proofs.YtlglbpjccpdloaaGreatDoor.Ext
namespace Go.Proofs.YtlglbpjccpdloaaGreatDoor.POrdE
end Go.Proofs.YtlglbpjccpdloaaGreatDoor.POrdE
namespace Go.Proofs.YtlglbpjccpdloaaGreatDoor.PToxA
end Go.Proofs.YtlglbpjccpdloaaGreatDoor.PToxA
namespace Go.Proofs.YtlglbpjccpdloaaGreatDoor.PWrdA
end Go.Proofs.YtlglbpjccpdloaaGreatDoor.PWrdA
namespace Go.Proofs.YtlglbpjccpdloaaGreatDoorW.PrintLast
end Go.Proofs.YtlglbpjccpdloaaGreatDoorW.PrintLast
namespace Go.Proofs.YtlglbpjccpdloaaGreatDoorW.PrintMore
end Go.Proofs.YtlglbpjccpdloaaGreatDoorW.PrintMore
namespace Go.Proofs.YtlglbpjccpdloaaGreatDoorW.PrintWords
end Go.Proofs.YtlglbpjccpdloaaGreatDoorW.PrintWords
namespace Go.Proofs.YtlglbpjccpdloaaGreatDoor.PWrdA
open Go.Proofs.YtlglbpjccpdloaaGreatDoor.Ext Go.RowKit Go.Proofs.YtlglbpjccpdloaaGreatDoorW.PrintWords Go.Proofs.YtlglbpjccpdloaaGreatDoorW.PrintLast Go.Proofs.YtlglbpjccpdloaaGreatDoorW.PrintMore
attribute [local go_sem] max2_int min2_int max_two min_two max_three min_three max_four min_four   -- for this text's walks alone
set_option linter.unusedVariables false
set_option linter.unusedSimpArgs false
def errW : Option Int → Value
 | none => .nilIface
 | some c => .iface 0 (.int .i64 c)
theorem errW_none : errW none = .nilIface := rfl
theorem errW_some (c : Int) : errW (some c) = .iface 0 (.int .i64 c) := rfl
theorem info9 : (Tryz.prog.info? 9).map (fun i => (i.zero, i.size, i.bytes)) = some (some (.string ⟨#[]⟩), 1, 16) := by kernel_rfl
end Go.Proofs.YtlglbpjccpdloaaGreatDoor.PWrdA
namespace Go.Proofs.YtlglbpjccpdloaaGreatDoor.PWrdA
open Go.Proofs.YtlglbpjccpdloaaGreatDoor.Ext Go.RowKit Go.Proofs.YtlglbpjccpdloaaGreatDoorW.PrintWords Go.Proofs.YtlglbpjccpdloaaGreatDoorW.PrintLast Go.Proofs.YtlglbpjccpdloaaGreatDoorW.PrintMore
attribute [local go_sem] max2_int min2_int max_two min_two max_three min_three max_four min_four   -- for this text's walks alone
set_option linter.unusedVariables false
set_option linter.unusedSimpArgs false
private theorem pw_size_mk (l : Array UInt8) : (⟨l⟩ : ByteArray).size = l.size := rfl
def chicaneref15_Same.l0 : Nat → List ByteArray → List ByteArray → Int → Option (Bool)
 | 0, _, _, _ => none
 | k + 1, x0, x1, x5 => if x5 < (x0.length : Int) then (if 0 ≤ x5 then (if x5 < (x1.length : Int) then (if (rdOf ByteArray.empty x0 x5).toList = (rdOf ByteArray.empty x1 x5).toList then (chicaneref15_Same.l0 k x0 x1 (wrap64 (x5 + 1))) else (some false)) else (none)) else (none)) else (some true)
def chicaneref15_Same.f (k : Nat) (l0 : List ByteArray) (l1 : List ByteArray) : Option (Bool) := if (l0.length : Int) = (l1.length : Int) then (chicaneref15_Same.l0 k l0 l1 0) else (some false)
set_option maxHeartbeats 8000000 in
set_option maxRecDepth 100000 in
theorem chicaneref15_Same.calls (k : Nat) (A0 : Option Addr) (c0 : Nat) (l0 : List ByteArray) (A1 : Option Addr) (c1 : Nat) (l1 : List ByteArray) (r : Bool) (w : World) (hr0 : Kd.C Kd.string w A0 l0.length l0) (hc0 : l0.length ≤ c0) (hr1 : Kd.C Kd.string w A1 l1.length l1) (hc1 : l1.length ≤ c1) (h : chicaneref15_Same.f k l0 l1 = some r) :
  Calls Tryz.prog 11 #[.slice A0 l0.length c0, .slice A1 l1.length c1] w fun e w' => e = .returned (.bool r) ∧ Drawn0 w w' := by
 have HR0 := Aside0.mk hr0
 have HC0 := Aside0.mk hc0
 clear hr0 hc0
 have HR1 := Aside0.mk hr1
 have HC1 := Aside0.mk hc1
 clear hr1 hc1
 have H : (if (l0.length : Int) = (l1.length : Int) then (chicaneref15_Same.l0 k l0 l1 0) else (some false)) = some r := h
 clear h
 by_cases c3 : (l0.length : Int) = (l1.length : Int)
 ·rw [if_pos c3] at H
  have c3b0 : ((l0.length : Int) == (l1.length : Int)) = true := beq_iff_eq.mpr c3
  have c3b1 : ((l0.length : Int) != (l1.length : Int)) = false := bne_eq_false_iff_eq.mpr c3
  have c3b2 : (l0.length == l1.length) = true := by first | simpa using c3 | (simp at c3 ⊢; omega)
  clear c3
  have H' := Aside0.mk H
  clear H
  go_enter Tryz.func11, Tryz.ntmps11
  go_wp2
  repeat (go_quiet (fail); try go_wp2)
  go_loopg [5] k (fun kq v5 w' => ∃ (x5_1 : Int), v5 = .int .i64 x5_1 ∧ Aside0 (chicaneref15_Same.l0 kq l0 l1 x5_1 = some r) ∧ Aside0 (kq ≤ k) ∧ Drawn0 w w')
  case atStart => exact ⟨(0), (by first | rfl | (simp; done) | (simp [*]; done)), H', ⟨Nat.le_refl _⟩, by repeat (first | exact Drawn0.refl _ | apply Drawn0.step)⟩
  case round =>
   clear H'
   try clear c1
   try clear p2
   try clear c3
   try clear c3b0
   try clear c3b1
   try clear c3b2
   try clear c3b3
   obtain ⟨x5_1, rfl, HA, HK1, ⟨m1, rfl⟩⟩ := hrel
   cases gk with
   | zero => exact absurd HA.out (by simp [chicaneref15_Same.l0])
   | succ k1 =>
    have H := HA.out
    clear HA
    simp only [chicaneref15_Same.l0] at H
    by_cases c4 : x5_1 < (l0.length : Int)
    ·rw [if_pos c4] at H
     have c4b0 : decide (x5_1 < (l0.length : Int)) = true := decide_eq_true c4
     clear c4
     by_cases c5 : 0 ≤ x5_1
     ·rw [if_pos c5] at H
      have c5b0 : decide (0 ≤ x5_1) = true := decide_eq_true c5
      clear c5
      by_cases c6 : x5_1 < (l1.length : Int)
      ·rw [if_pos c6] at H
       have c6b0 : decide (x5_1 < (l1.length : Int)) = true := decide_eq_true c6
       clear c6
       by_cases c7 : (rdOf ByteArray.empty l0 x5_1).toList = (rdOf ByteArray.empty l1 x5_1).toList
       ·rw [if_pos c7] at H
        have c7b0 : ((rdOf ByteArray.empty l0 x5_1).toList == (rdOf ByteArray.empty l1 x5_1).toList) = true := beq_iff_eq.mpr c7
        have c7b1 : ((rdOf ByteArray.empty l0 x5_1).toList != (rdOf ByteArray.empty l1 x5_1).toList) = false := bne_eq_false_iff_eq.mpr c7
        clear c7
        have H' := Aside0.mk H
        clear H
        have p101 : 0 ≤ (x5_1 : Int) := of_decide_eq_true (by first | (with_reducible assumption) | assumption)
        have q101 : x5_1 < (l0.length : Int) := of_decide_eq_true (by first | (with_reducible assumption) | assumption)
        obtain ⟨ad101, e101, hx101_0⟩ := Kd.at_string HR0.out x5_1 p101 q101
        cases e101
        replace p101 := eq_true p101
        replace q101 := eq_true q101
        have p102 : 0 ≤ (x5_1 : Int) := of_decide_eq_true (by first | (with_reducible assumption) | assumption)
        have q102 : x5_1 < (l1.length : Int) := of_decide_eq_true (by first | (with_reducible assumption) | assumption)
        obtain ⟨ad102, e102, hx102_0⟩ := Kd.at_string HR1.out x5_1 p102 q102
        cases e102
        replace p102 := eq_true p102
        replace q102 := eq_true q102
        go_wp2
        repeat (go_quiet (fail); try go_wp2)
        go_roundg k1
        case measure => have := HK1.out; omega
        case rel => exact ⟨(wrap64 (x5_1 + 1)), (by first | rfl | (simp; done) | (simp [*]; done)), H', ⟨by have := HK1.out; omega⟩, by repeat (first | exact Drawn0.refl _ | apply Drawn0.step)⟩
       ·rw [if_neg c7] at H
        have c7b0 : ((rdOf ByteArray.empty l0 x5_1).toList == (rdOf ByteArray.empty l1 x5_1).toList) = false := beq_eq_false_iff_ne.mpr c7
        have c7b1 : ((rdOf ByteArray.empty l0 x5_1).toList != (rdOf ByteArray.empty l1 x5_1).toList) = true := bne_iff_ne.mpr c7
        obtain rfl := Option.some.inj H
        have p101 : 0 ≤ (x5_1 : Int) := of_decide_eq_true (by first | (with_reducible assumption) | assumption)
        have q101 : x5_1 < (l0.length : Int) := of_decide_eq_true (by first | (with_reducible assumption) | assumption)
        obtain ⟨ad101, e101, hx101_0⟩ := Kd.at_string HR0.out x5_1 p101 q101
        cases e101
        replace p101 := eq_true p101
        replace q101 := eq_true q101
        have p102 : 0 ≤ (x5_1 : Int) := of_decide_eq_true (by first | (with_reducible assumption) | assumption)
        have q102 : x5_1 < (l1.length : Int) := of_decide_eq_true (by first | (with_reducible assumption) | assumption)
        obtain ⟨ad102, e102, hx102_0⟩ := Kd.at_string HR1.out x5_1 p102 q102
        cases e102
        replace p102 := eq_true p102
        replace q102 := eq_true q102
        go_wp2
        repeat (go_quiet (fail); try go_wp2)
        go_ret
        exact ⟨by first | rfl | (simp; done) | (simp [*]; done), by repeat (first | exact Drawn0.refl _ | apply Drawn0.step)⟩
      ·rw [if_neg c6] at H
       exact absurd H (by simp)
     ·rw [if_neg c5] at H
      exact absurd H (by simp)
    ·rw [if_neg c4] at H
     have c4b0 : decide (x5_1 < (l0.length : Int)) = false := decide_eq_false c4
     clear c4
     obtain rfl := Option.some.inj H
     go_wp2
     repeat (go_quiet (fail); try go_wp2)
     go_ret
     exact ⟨by first | rfl | (simp; done) | (simp [*]; done), by repeat (first | exact Drawn0.refl _ | apply Drawn0.step)⟩
 ·rw [if_neg c3] at H
  have c3b0 : ((l0.length : Int) == (l1.length : Int)) = false := beq_eq_false_iff_ne.mpr c3
  have c3b1 : ((l0.length : Int) != (l1.length : Int)) = true := bne_iff_ne.mpr c3
  have c3b2 : (l0.length == l1.length) = false := by first | simpa using c3 | (simp at c3 ⊢; omega)
  obtain rfl := Option.some.inj H
  go_enter Tryz.func11, Tryz.ntmps11
  go_wp2
  repeat (go_quiet (fail); try go_wp2)
  go_ret
  exact ⟨by first | rfl | (simp; done) | (simp [*]; done), by repeat (first | exact Drawn0.refl _ | apply Drawn0.step)⟩
mutual
def chicaneref15_Plain.j0 : Nat → ByteArray → Bool → Option (Bool)
 | 0, _, _ => none
 | k + 1, x0, x10 => if x10 = true then (some false) else (chicaneref15_Plain.l0 k x0 0)
def chicaneref15_Plain.l0 : Nat → ByteArray → Int → Option (Bool)
 | 0, _, _ => none
 | k + 1, x0, x3 => if x3 < (x0.size : Int) then (if 0 ≤ x3 then (if (bt x0 x3) < 33 then (some false) else (if (bt x0 x3) > 126 then (some false) else (if (bt x0 x3) = 34 then (some false) else (if (bt x0 x3) = 92 then (some false) else (chicaneref15_Plain.l0 k x0 (wrap64 (x3 + 1))))))) else (none)) else (some true)
end
def chicaneref15_Plain.f (k : Nat) (a0 : ByteArray) : Option (Bool) := if a0.toList = ([] : List UInt8) then (chicaneref15_Plain.j0 k a0 true) else (if 0 < (a0.size : Int) then (chicaneref15_Plain.j0 k a0 ((bt a0 0) == 35)) else (none))
def chicaneref15_may.f (a0 : Int) : Option (Bool) := if a0 ≥ 32 then (if a0 ≤ 126 then (some true) else (some (a0 == 9))) else (some (a0 == 9))
end Go.Proofs.YtlglbpjccpdloaaGreatDoor.PWrdA
namespace Go.Proofs.YtlglbpjccpdloaaGreatDoor.PWrdA
open Go.Proofs.YtlglbpjccpdloaaGreatDoor.Ext Go.RowKit Go.Proofs.YtlglbpjccpdloaaGreatDoorW.PrintWords Go.Proofs.YtlglbpjccpdloaaGreatDoorW.PrintLast Go.Proofs.YtlglbpjccpdloaaGreatDoorW.PrintMore
attribute [local go_sem] max2_int min2_int max_two min_two max_three min_three max_four min_four   -- for this text's walks alone
set_option linter.unusedVariables false
set_option linter.unusedSimpArgs false
mutual
def chicaneref15_Join.l0 : Nat → List ByteArray → ByteArray → Int → Option (ByteArray)
 | 0, _, _, _ => none
 | k + 1, x0, x3, x4 => if x4 < (x0.length : Int) then (if x4 > 0 then (if x3.size + 1 ≤ 9223372036854775807 then (chicaneref15_Join.j1 k x0 (x3 ++ (⟨#[32]⟩ : ByteArray)) x4) else (none)) else (chicaneref15_Join.j1 k x0 x3 x4)) else (if (x3.size : Int) > 256 then (some (⟨#[]⟩ : ByteArray)) else (some x3))
def chicaneref15_Join.j1 : Nat → List ByteArray → ByteArray → Int → Option (ByteArray)
 | 0, _, _, _ => none
 | k + 1, x0, x3, x4 => if 0 ≤ x4 then (if x4 < (x0.length : Int) then ((chicaneref15_Plain.f k (rdOf ByteArray.empty x0 x4)).bind fun t104 => (if t104 = true then (chicaneref15_Join.j2 k x0 x3 x4 (⟨#[]⟩ : ByteArray)) else (chicaneref15_Join.j2 k x0 x3 x4 (strOfNums (([34] : List Int)))))) else (none)) else (none)
def chicaneref15_Join.j2 : Nat → List ByteArray → ByteArray → Int → ByteArray → Option (ByteArray)
 | 0, _, _, _, _ => none
 | k + 1, x0, x3, x4, x5 => if x3.size + x5.size ≤ 9223372036854775807 then (chicaneref15_Join.l1 k x0 (x3 ++ x5) x4 x5 0) else (none)
def chicaneref15_Join.l1 : Nat → List ByteArray → ByteArray → Int → ByteArray → Int → Option (ByteArray)
 | 0, _, _, _, _, _ => none
 | k + 1, x0, x3, x4, x5, x6 => if 0 ≤ x4 then (if x4 < (x0.length : Int) then (if x6 < ((rdOf ByteArray.empty x0 x4).size : Int) then (if 0 ≤ x6 then ((chicaneref15_may.f (bt (rdOf ByteArray.empty x0 x4) x6)).bind fun t110 => (if t110 = true then (if (bt (rdOf ByteArray.empty x0 x4) x6) = 34 then ((some (([92] : List Int) : List Int)).bind fun y111 => (if x3.size + (strOfNums y111).size ≤ 9223372036854775807 then ((some (([bt (rdOf ByteArray.empty x0 x4) x6] : List Int) : List Int)).bind fun y114 => (if (x3 ++ (strOfNums y111)).size + (strOfNums y114).size ≤ 9223372036854775807 then (chicaneref15_Join.l1 k x0 ((x3 ++ (strOfNums y111)) ++ (strOfNums y114)) x4 x5 (wrap64 (x6 + 1))) else (none))) else (none))) else (if (bt (rdOf ByteArray.empty x0 x4) x6) = 92 then ((some (([92] : List Int) : List Int)).bind fun y117 => (if x3.size + (strOfNums y117).size ≤ 9223372036854775807 then ((some (([bt (rdOf ByteArray.empty x0 x4) x6] : List Int) : List Int)).bind fun y120 => (if (x3 ++ (strOfNums y117)).size + (strOfNums y120).size ≤ 9223372036854775807 then (chicaneref15_Join.l1 k x0 ((x3 ++ (strOfNums y117)) ++ (strOfNums y120)) x4 x5 (wrap64 (x6 + 1))) else (none))) else (none))) else ((some (([bt (rdOf ByteArray.empty x0 x4) x6] : List Int) : List Int)).bind fun y123 => (if x3.size + (strOfNums y123).size ≤ 9223372036854775807 then (chicaneref15_Join.l1 k x0 (x3 ++ (strOfNums y123)) x4 x5 (wrap64 (x6 + 1))) else (none))))) else (some (⟨#[]⟩ : ByteArray)))) else (none)) else (if x3.size + x5.size ≤ 9223372036854775807 then (chicaneref15_Join.l0 k x0 (x3 ++ x5) (wrap64 (x4 + 1))) else (none))) else (none)) else (none)
end
def chicaneref15_Join.f (k : Nat) (l0 : List ByteArray) : Option (ByteArray) := if (l0.length : Int) > 16 then (some (⟨#[]⟩ : ByteArray)) else (chicaneref15_Join.l0 k l0 (⟨#[]⟩ : ByteArray) 0)
def chicaneref15_blank.f (a0 : Int) : Option (Bool) := if a0 = 32 then (some true) else (some (a0 == 9))
end Go.Proofs.YtlglbpjccpdloaaGreatDoor.PWrdA
namespace Go.Proofs.YtlglbpjccpdloaaGreatDoor.PWrdA
open Go.Proofs.YtlglbpjccpdloaaGreatDoor.Ext Go.RowKit Go.Proofs.YtlglbpjccpdloaaGreatDoorW.PrintWords Go.Proofs.YtlglbpjccpdloaaGreatDoorW.PrintLast Go.Proofs.YtlglbpjccpdloaaGreatDoorW.PrintMore
attribute [local go_sem] max2_int min2_int max_two min_two max_three min_three max_four min_four   -- for this text's walks alone
set_option linter.unusedVariables false
set_option linter.unusedSimpArgs false
mutual
def chicaneref15_quoted.l0 : Nat → ByteArray → Int → ByteArray → Option (ByteArray × Int × Bool)
 | 0, _, _, _ => none
 | k + 1, x0, x1, x7 => if x1 < (x0.size : Int) then (if 0 ≤ x1 then (chicaneref15_quoted.j1 k x0 x1 x7 ((bt x0 x1) != 34)) else (none)) else (chicaneref15_quoted.j1 k x0 x1 x7 false)
def chicaneref15_quoted.j1 : Nat → ByteArray → Int → ByteArray → Bool → Option (ByteArray × Int × Bool)
 | 0, _, _, _, _ => none
 | k + 1, x0, x1, x7, x19 => if x19 = true then (if 0 ≤ x1 then (if x1 < (x0.size : Int) then ((chicaneref15_may.f (bt x0 x1)).bind fun t126 => (if t126 = true then (if (bt x0 x1) = 92 then (if (wrap64 (x1 + 1)) ≥ (x0.size : Int) then (some ((⟨#[]⟩ : ByteArray), wrap64 (x1 + 1), false)) else (if 0 ≤ (wrap64 (x1 + 1)) then (if (wrap64 (x1 + 1)) < (x0.size : Int) then (if (bt x0 (wrap64 (x1 + 1))) = 34 then (if (wrap64 (x1 + 1)) ≤ (wrap64 ((wrap64 (x1 + 1)) + 1)) then (if (wrap64 ((wrap64 (x1 + 1)) + 1)) ≤ (x0.size : Int) then (if x7.size + (x0.extract ((wrap64 (x1 + 1)) : Int).toNat ((wrap64 ((wrap64 (x1 + 1)) + 1)) : Int).toNat).size ≤ 9223372036854775807 then (chicaneref15_quoted.l0 k x0 (wrap64 ((wrap64 (x1 + 1)) + 1)) (x7 ++ (x0.extract ((wrap64 (x1 + 1)) : Int).toNat ((wrap64 ((wrap64 (x1 + 1)) + 1)) : Int).toNat))) else (none)) else (none)) else (none)) else (if (bt x0 (wrap64 (x1 + 1))) = 92 then (if (wrap64 (x1 + 1)) ≤ (wrap64 ((wrap64 (x1 + 1)) + 1)) then (if (wrap64 ((wrap64 (x1 + 1)) + 1)) ≤ (x0.size : Int) then (if x7.size + (x0.extract ((wrap64 (x1 + 1)) : Int).toNat ((wrap64 ((wrap64 (x1 + 1)) + 1)) : Int).toNat).size ≤ 9223372036854775807 then (chicaneref15_quoted.l0 k x0 (wrap64 ((wrap64 (x1 + 1)) + 1)) (x7 ++ (x0.extract ((wrap64 (x1 + 1)) : Int).toNat ((wrap64 ((wrap64 (x1 + 1)) + 1)) : Int).toNat))) else (none)) else (none)) else (none)) else (some ((⟨#[]⟩ : ByteArray), wrap64 (x1 + 1), false)))) else (none)) else (none))) else (if x1 ≤ (wrap64 (x1 + 1)) then (if (wrap64 (x1 + 1)) ≤ (x0.size : Int) then (if x7.size + (x0.extract (x1 : Int).toNat ((wrap64 (x1 + 1)) : Int).toNat).size ≤ 9223372036854775807 then (chicaneref15_quoted.l0 k x0 (wrap64 (x1 + 1)) (x7 ++ (x0.extract (x1 : Int).toNat ((wrap64 (x1 + 1)) : Int).toNat))) else (none)) else (none)) else (none))) else (some ((⟨#[]⟩ : ByteArray), x1, false)))) else (none)) else (none)) else (if x1 ≥ (x0.size : Int) then (some ((⟨#[]⟩ : ByteArray), x1, false)) else (if (wrap64 (x1 + 1)) < (x0.size : Int) then (if 0 ≤ (wrap64 (x1 + 1)) then ((chicaneref15_blank.f (bt x0 (wrap64 (x1 + 1)))).bind fun t127 => (if t127 = true then (some (x7, wrap64 (x1 + 1), true)) else (some ((⟨#[]⟩ : ByteArray), wrap64 (x1 + 1), false)))) else (none)) else (some (x7, wrap64 (x1 + 1), true))))
end
def chicaneref15_quoted.f (k : Nat) (a0 : ByteArray) (a1 : Int) : Option (ByteArray × Int × Bool) := chicaneref15_quoted.l0 k a0 (wrap64 (a1 + 1)) (⟨#[]⟩ : ByteArray)
def chicaneref15_end.l0 : Nat → ByteArray → Int → Option (Int)
 | 0, _, _ => none
 | k + 1, x0, x1 => if x1 < (x0.size : Int) then (if 0 ≤ x1 then ((chicaneref15_blank.f (bt x0 x1)).bind fun t128 => (if t128 = true then (some x1) else (chicaneref15_end.l0 k x0 (wrap64 (x1 + 1))))) else (none)) else (some x1)
def chicaneref15_end.f (k : Nat) (a0 : ByteArray) (a1 : Int) : Option (Int) := chicaneref15_end.l0 k a0 a1
def chicaneref15_word.l0 : Nat → ByteArray → Int → Int → Int → Option (ByteArray × Int × Bool)
 | 0, _, _, _, _ => none
 | k + 1, x0, x1, x7, x8 => if x8 < x7 then (if 0 ≤ x8 then (if x8 < (x0.size : Int) then ((chicaneref15_may.f (bt x0 x8)).bind fun t133 => (if t133 = true then (if (bt x0 x8) = 34 then (some ((⟨#[]⟩ : ByteArray), x8, false)) else (if (bt x0 x8) = 92 then (some ((⟨#[]⟩ : ByteArray), x8, false)) else (chicaneref15_word.l0 k x0 x1 x7 (wrap64 (x8 + 1))))) else (some ((⟨#[]⟩ : ByteArray), x8, false)))) else (none)) else (none)) else (if 0 ≤ x1 then (if x1 ≤ x7 then (if x7 ≤ (x0.size : Int) then (some (x0.extract (x1 : Int).toNat (x7 : Int).toNat, x7, true)) else (none)) else (none)) else (none))
def chicaneref15_word.f (k : Nat) (a0 : ByteArray) (a1 : Int) : Option (ByteArray × Int × Bool) := if 0 ≤ a1 then (if a1 < (a0.size : Int) then (if (bt a0 a1) = 34 then ((chicaneref15_quoted.f k a0 a1).bind fun bt129 => (some (bt129.1, bt129.2.1, bt129.2.2))) else ((chicaneref15_end.f k a0 a1).bind fun t132 => (chicaneref15_word.l0 k a0 a1 t132 a1))) else (none)) else (none)
end Go.Proofs.YtlglbpjccpdloaaGreatDoor.PWrdA
namespace Go.Proofs.YtlglbpjccpdloaaGreatDoor.PWrdA
open Go.Proofs.YtlglbpjccpdloaaGreatDoor.Ext Go.RowKit Go.Proofs.YtlglbpjccpdloaaGreatDoorW.PrintWords Go.Proofs.YtlglbpjccpdloaaGreatDoorW.PrintLast Go.Proofs.YtlglbpjccpdloaaGreatDoorW.PrintMore
attribute [local go_sem] max2_int min2_int max_two min_two max_three min_three max_four min_four   -- for this text's walks alone
set_option linter.unusedVariables false
set_option linter.unusedSimpArgs false
mutual
def chicaneref15_Split.l0 : Nat → ByteArray → List ByteArray → Int → Option (List ByteArray × Int × Int)
 | 0, _, _, _ => none
 | k + 1, x0, x5, x6 => if x6 < (x0.size : Int) then (if 0 ≤ x6 then ((chicaneref15_blank.f (bt x0 x6)).bind fun t134 => (if t134 = true then (chicaneref15_Split.l0 k x0 x5 (wrap64 (x6 + 1))) else (if (bt x0 x6) = 35 then (chicaneref15_Split.l1 k x0 x5 x6) else ((chicaneref15_may.f (bt x0 x6)).bind fun t136 => (if t136 = true then (if (x5.length : Int) ≥ 16 then (some (([] : List ByteArray), x6, 151)) else ((chicaneref15_word.f k x0 x6).bind fun bt137 => (if bt137.2.2 = true then (if x5.length < 8796093022208 then (chicaneref15_Split.l0 k x0 (x5 ++ [bt137.1]) bt137.2.1) else (none)) else (some (([] : List ByteArray), bt137.2.1, 150))))) else (some (([] : List ByteArray), x6, 150))))))) else (none)) else (some (x5, (x0.size : Int), 0))
def chicaneref15_Split.l1 : Nat → ByteArray → List ByteArray → Int → Option (List ByteArray × Int × Int)
 | 0, _, _, _ => none
 | k + 1, x0, x5, x6 => if x6 < (x0.size : Int) then (if 0 ≤ x6 then ((chicaneref15_may.f (bt x0 x6)).bind fun t135 => (if t135 = true then (chicaneref15_Split.l1 k x0 x5 (wrap64 (x6 + 1))) else (some (([] : List ByteArray), x6, 150)))) else (none)) else (chicaneref15_Split.l0 k x0 x5 x6)
end
def chicaneref15_Split.f (k : Nat) (a0 : ByteArray) : Option (List ByteArray × Int × Int) := if (a0.size : Int) > 256 then (some (([] : List ByteArray), 256, 150)) else (chicaneref15_Split.l0 k a0 ([] : List ByteArray) 0)
def words_may.f (a0 : Int) : Option (Bool) := if a0 ≥ 32 then (if a0 ≤ 126 then (some true) else (some (a0 == 9))) else (some (a0 == 9))
set_option maxHeartbeats 8000000 in
set_option maxRecDepth 100000 in
theorem words_may.calls (a0 : Int) (r : Bool) (w : World) (h : words_may.f a0 = some r) :
  Calls Tryz.prog 64 #[.int .u8 a0] w fun e w' => e = .returned (.bool r) ∧ Drawn0 w w' := by
 have H : (if a0 ≥ 32 then (if a0 ≤ 126 then (some true) else (some (a0 == 9))) else (some (a0 == 9))) = some r := h
 clear h
 by_cases c2 : a0 ≥ 32
 ·rw [if_pos c2] at H
  have c2b0 : decide (32 ≤ a0) = true := decide_eq_true c2
  clear c2
  by_cases c3 : a0 ≤ 126
  ·rw [if_pos c3] at H
   have c3b0 : decide (a0 ≤ 126) = true := decide_eq_true c3
   clear c3
   obtain rfl := Option.some.inj H
   go_enter Tryz.func64, Tryz.ntmps64
   go_wp2
   go_ret
   exact ⟨by first | rfl | (simp; done) | (simp [*]; done), by repeat (first | exact Drawn0.refl _ | apply Drawn0.step)⟩
  ·rw [if_neg c3] at H
   have c3b0 : decide (a0 ≤ 126) = false := decide_eq_false c3
   clear c3
   obtain rfl := Option.some.inj H
   go_enter Tryz.func64, Tryz.ntmps64
   go_wp2
   go_ret
   exact ⟨by first | rfl | (simp; done) | (simp [*]; done), by repeat (first | exact Drawn0.refl _ | apply Drawn0.step)⟩
 ·rw [if_neg c2] at H
  have c2b0 : decide (32 ≤ a0) = false := decide_eq_false c2
  clear c2
  obtain rfl := Option.some.inj H
  go_enter Tryz.func64, Tryz.ntmps64
  go_wp2
  go_ret
  exact ⟨by first | rfl | (simp; done) | (simp [*]; done), by repeat (first | exact Drawn0.refl _ | apply Drawn0.step)⟩
def words_blank.f (a0 : Int) : Option (Bool) := if a0 = 32 then (some true) else (some (a0 == 9))
set_option maxHeartbeats 8000000 in
set_option maxRecDepth 100000 in
theorem words_blank.calls (a0 : Int) (r : Bool) (w : World) (h : words_blank.f a0 = some r) :
  Calls Tryz.prog 70 #[.int .u8 a0] w fun e w' => e = .returned (.bool r) ∧ Drawn0 w w' := by
 have H : (if a0 = 32 then (some true) else (some (a0 == 9))) = some r := h
 clear h
 by_cases c2 : a0 = 32
 ·rw [if_pos c2] at H
  have c2b0 : (a0 == 32) = true := beq_iff_eq.mpr c2
  have c2b1 : (a0 != 32) = false := bne_eq_false_iff_eq.mpr c2
  clear c2
  obtain rfl := Option.some.inj H
  go_enter Tryz.func70, Tryz.ntmps70
  go_wp2
  go_ret
  exact ⟨by first | rfl | (simp; done) | (simp [*]; done), by repeat (first | exact Drawn0.refl _ | apply Drawn0.step)⟩
 ·rw [if_neg c2] at H
  have c2b0 : (a0 == 32) = false := beq_eq_false_iff_ne.mpr c2
  have c2b1 : (a0 != 32) = true := bne_iff_ne.mpr c2
  obtain rfl := Option.some.inj H
  go_enter Tryz.func70, Tryz.ntmps70
  go_wp2
  go_ret
  exact ⟨by first | rfl | (simp; done) | (simp [*]; done), by repeat (first | exact Drawn0.refl _ | apply Drawn0.step)⟩
def words_Plain.l0 : Nat → ByteArray → Int → Int → Option (Bool)
 | 0, _, _, _ => none
 | k + 1, x0, x5, x6 => if x6 < x5 then (if 0 ≤ x6 then (if x6 < (x0.size : Int) then ((words_may.f (bt x0 x6)).bind fun t143 => (if t143 = true then ((words_blank.f (bt x0 x6)).bind fun t144 => (if t144 = true then (some false) else (if (bt x0 x6) = 34 then (some false) else (if (bt x0 x6) = 92 then (some false) else (words_Plain.l0 k x0 x5 (wrap64 (x6 + 1))))))) else (some false))) else (none)) else (none)) else (if x0.toList = ([] : List UInt8) then (some false) else (if 0 < (x0.size : Int) then (some ((bt x0 0) != 35)) else (none)))
def words_Plain.f (k : Nat) (a0 : ByteArray) : Option (Bool) := words_Plain.l0 k a0 (a0.size : Int) 0
set_option maxHeartbeats 8000000 in
set_option maxRecDepth 100000 in
theorem words_Plain.calls (k : Nat) (a0 : ByteArray) (r : Bool) (w : World) (h : words_Plain.f k a0 = some r) :
  Calls Tryz.prog 65 #[.string a0] w fun e w' => e = .returned (.bool r) ∧ Drawn0 w w' := by
 have H : (words_Plain.l0 k a0 (a0.size : Int) 0) = some r := h
 clear h
 have H' := Aside0.mk H
 clear H
 go_enter Tryz.func65, Tryz.ntmps65
 go_wp2
 go_loopg [6] k (fun kq v6 w' => ∃ (x6_1 : Int), v6 = .int .i64 x6_1 ∧ Aside0 (words_Plain.l0 kq a0 (a0.size : Int) x6_1 = some r) ∧ Aside0 (kq ≤ k) ∧ Drawn0 w w')
 case atStart => exact ⟨(0), (by first | rfl | (simp; done) | (simp [*]; done)), H', ⟨Nat.le_refl _⟩, by repeat (first | exact Drawn0.refl _ | apply Drawn0.step)⟩
 case round =>
  clear H'
  obtain ⟨x6_1, rfl, HA, HK1, ⟨m1, rfl⟩⟩ := hrel
  cases gk with
  | zero => exact absurd HA.out (by simp [words_Plain.l0])
  | succ k1 =>
   have H := HA.out
   clear HA
   simp only [words_Plain.l0] at H
   by_cases c2 : x6_1 < (a0.size : Int)
   ·rw [if_pos c2] at H
    have c2b0 : decide (x6_1 < (a0.size : Int)) = true := decide_eq_true c2
    clear c2
    by_cases c3 : 0 ≤ x6_1
    ·rw [if_pos c3] at H
     have c3b0 : decide (0 ≤ x6_1) = true := decide_eq_true c3
     clear c3
     by_cases c4 : x6_1 < (a0.size : Int)
     ·rw [if_pos c4] at H
      have c4b0 : decide (x6_1 < (a0.size : Int)) = true := decide_eq_true c4
      clear c4
      replace H := Option.bind_eq_some_iff.mp H
      obtain ⟨t143, A60, H⟩ := H
      replace H : (if t143 = true then ((words_blank.f (bt a0 x6_1)).bind fun t144 => (if t144 = true then (some false) else (if (bt a0 x6_1) = 34 then (some false) else (if (bt a0 x6_1) = 92 then (some false) else (words_Plain.l0 k1 a0 (a0.size : Int) (wrap64 (x6_1 + 1))))))) else (some false)) = some r := H
      have A6 := Aside0.mk A60
      clear A60
      by_cases c7 : t143 = true
      ·subst c7
       have H1 : ((words_blank.f (bt a0 x6_1)).bind fun t144 => (if t144 = true then (some false) else (if (bt a0 x6_1) = 34 then (some false) else (if (bt a0 x6_1) = 92 then (some false) else (words_Plain.l0 k1 a0 (a0.size : Int) (wrap64 (x6_1 + 1))))))) = some r := by rw [if_pos rfl] at H; exact H
       clear H
       have H := H1
       clear H1
       replace H := Option.bind_eq_some_iff.mp H
       obtain ⟨t144, A90, H⟩ := H
       replace H : (if t144 = true then (some false) else (if (bt a0 x6_1) = 34 then (some false) else (if (bt a0 x6_1) = 92 then (some false) else (words_Plain.l0 k1 a0 (a0.size : Int) (wrap64 (x6_1 + 1)))))) = some r := H
       have A9 := Aside0.mk A90
       clear A90
       by_cases c10 : t144 = true
       ·subst c10
        have H1 : (some false) = some r := by rw [if_pos rfl] at H; exact H
        clear H
        have H := H1
        clear H1
        obtain rfl := Option.some.inj H
        have p5 : 0 ≤ (x6_1 : Int) := of_decide_eq_true (by first | (with_reducible assumption) | assumption)
        have q5 : x6_1 < (a0.size : Int) := of_decide_eq_true (by first | (with_reducible assumption) | assumption)
        have hx5 := bt_at a0 x6_1
        replace p5 := eq_true p5
        replace q5 := eq_true q5
        go_wp2_with (first | ((with_reducible refine gate_callee (f := 64) rfl ?_); refine goesL_ (some 12) rfl rfl Tryz.func64 (by kernel_rfl) rfl #[.int .u8 (bt a0 x6_1)] rfl (by (try simp only [List.map_toArray, List.map_cons, List.map_nil]); first | done | rfl | (simp only [List.length_drop, List.length_take]; rfl)) ?_; (with_reducible refine (words_may.calls (bt a0 x6_1) true _ A6.out).mono ?_); rintro e w' ⟨rfl, ⟨nd, rfl⟩⟩; refine ⟨_, rfl, ?_⟩; have p8 : 0 ≤ (x6_1 : Int) := of_decide_eq_true (by first | (with_reducible assumption) | assumption); have q8 : x6_1 < (a0.size : Int) := of_decide_eq_true (by first | (with_reducible assumption) | assumption); have hx8 := bt_at a0 x6_1; replace p8 := eq_true p8; replace q8 := eq_true q8) | (go_at_call 70; (with_reducible refine (words_blank.calls (bt a0 x6_1) true _ A9.out).mono ?_); rintro e w' ⟨rfl, ⟨nd, rfl⟩⟩))
        go_ret
        exact ⟨by first | rfl | (simp; done) | (simp [*]; done), by repeat (first | exact Drawn0.refl _ | apply Drawn0.step)⟩
       ·replace c10 := Bool.eq_false_iff.mpr c10
        subst c10
        have H1 : (if (bt a0 x6_1) = 34 then (some false) else (if (bt a0 x6_1) = 92 then (some false) else (words_Plain.l0 k1 a0 (a0.size : Int) (wrap64 (x6_1 + 1))))) = some r := by rw [if_neg (show ¬ (false = true) by decide)] at H; exact H
        clear H
        have H := H1
        clear H1
        by_cases c12 : (bt a0 x6_1) = 34
        ·rw [if_pos c12] at H
         have c12b0 : ((bt a0 x6_1) == 34) = true := beq_iff_eq.mpr c12
         have c12b1 : ((bt a0 x6_1) != 34) = false := bne_eq_false_iff_eq.mpr c12
         clear c12
         obtain rfl := Option.some.inj H
         have p5 : 0 ≤ (x6_1 : Int) := of_decide_eq_true (by first | (with_reducible assumption) | assumption)
         have q5 : x6_1 < (a0.size : Int) := of_decide_eq_true (by first | (with_reducible assumption) | assumption)
         have hx5 := bt_at a0 x6_1
         replace p5 := eq_true p5
         replace q5 := eq_true q5
         go_wp2_with (first | ((with_reducible refine gate_callee (f := 64) rfl ?_); refine goesL_ (some 12) rfl rfl Tryz.func64 (by kernel_rfl) rfl #[.int .u8 (bt a0 x6_1)] rfl (by (try simp only [List.map_toArray, List.map_cons, List.map_nil]); first | done | rfl | (simp only [List.length_drop, List.length_take]; rfl)) ?_; (with_reducible refine (words_may.calls (bt a0 x6_1) true _ A6.out).mono ?_); rintro e w' ⟨rfl, ⟨nd, rfl⟩⟩; refine ⟨_, rfl, ?_⟩; have p8 : 0 ≤ (x6_1 : Int) := of_decide_eq_true (by first | (with_reducible assumption) | assumption); have q8 : x6_1 < (a0.size : Int) := of_decide_eq_true (by first | (with_reducible assumption) | assumption); have hx8 := bt_at a0 x6_1; replace p8 := eq_true p8; replace q8 := eq_true q8) | (go_at_call 70; (with_reducible refine (words_blank.calls (bt a0 x6_1) false _ A9.out).mono ?_); rintro e w' ⟨rfl, ⟨nd, rfl⟩⟩; have p11 : 0 ≤ (x6_1 : Int) := of_decide_eq_true (by first | (with_reducible assumption) | assumption); have q11 : x6_1 < (a0.size : Int) := of_decide_eq_true (by first | (with_reducible assumption) | assumption); have hx11 := bt_at a0 x6_1; replace p11 := eq_true p11; replace q11 := eq_true q11))
         go_ret
         exact ⟨by first | rfl | (simp; done) | (simp [*]; done), by repeat (first | exact Drawn0.refl _ | apply Drawn0.step)⟩
        ·rw [if_neg c12] at H
         have c12b0 : ((bt a0 x6_1) == 34) = false := beq_eq_false_iff_ne.mpr c12
         have c12b1 : ((bt a0 x6_1) != 34) = true := bne_iff_ne.mpr c12
         by_cases c14 : (bt a0 x6_1) = 92
         ·rw [if_pos c14] at H
          have c14b0 : ((bt a0 x6_1) == 92) = true := beq_iff_eq.mpr c14
          have c14b1 : ((bt a0 x6_1) != 92) = false := bne_eq_false_iff_eq.mpr c14
          clear c14
          obtain rfl := Option.some.inj H
          have p5 : 0 ≤ (x6_1 : Int) := of_decide_eq_true (by first | (with_reducible assumption) | assumption)
          have q5 : x6_1 < (a0.size : Int) := of_decide_eq_true (by first | (with_reducible assumption) | assumption)
          have hx5 := bt_at a0 x6_1
          replace p5 := eq_true p5
          replace q5 := eq_true q5
          go_wp2_with (first | ((with_reducible refine gate_callee (f := 64) rfl ?_); refine goesL_ (some 12) rfl rfl Tryz.func64 (by kernel_rfl) rfl #[.int .u8 (bt a0 x6_1)] rfl (by (try simp only [List.map_toArray, List.map_cons, List.map_nil]); first | done | rfl | (simp only [List.length_drop, List.length_take]; rfl)) ?_; (with_reducible refine (words_may.calls (bt a0 x6_1) true _ A6.out).mono ?_); rintro e w' ⟨rfl, ⟨nd, rfl⟩⟩; refine ⟨_, rfl, ?_⟩; have p8 : 0 ≤ (x6_1 : Int) := of_decide_eq_true (by first | (with_reducible assumption) | assumption); have q8 : x6_1 < (a0.size : Int) := of_decide_eq_true (by first | (with_reducible assumption) | assumption); have hx8 := bt_at a0 x6_1; replace p8 := eq_true p8; replace q8 := eq_true q8) | (go_at_call 70; (with_reducible refine (words_blank.calls (bt a0 x6_1) false _ A9.out).mono ?_); rintro e w' ⟨rfl, ⟨nd, rfl⟩⟩; have p11 : 0 ≤ (x6_1 : Int) := of_decide_eq_true (by first | (with_reducible assumption) | assumption); have q11 : x6_1 < (a0.size : Int) := of_decide_eq_true (by first | (with_reducible assumption) | assumption); have hx11 := bt_at a0 x6_1; replace p11 := eq_true p11; replace q11 := eq_true q11; have p13 : 0 ≤ (x6_1 : Int) := of_decide_eq_true (by first | (with_reducible assumption) | assumption); have q13 : x6_1 < (a0.size : Int) := of_decide_eq_true (by first | (with_reducible assumption) | assumption); have hx13 := bt_at a0 x6_1; replace p13 := eq_true p13; replace q13 := eq_true q13))
          go_ret
          exact ⟨by first | rfl | (simp; done) | (simp [*]; done), by repeat (first | exact Drawn0.refl _ | apply Drawn0.step)⟩
         ·rw [if_neg c14] at H
          have c14b0 : ((bt a0 x6_1) == 92) = false := beq_eq_false_iff_ne.mpr c14
          have c14b1 : ((bt a0 x6_1) != 92) = true := bne_iff_ne.mpr c14
          have H' := Aside0.mk H
          clear H
          have p5 : 0 ≤ (x6_1 : Int) := of_decide_eq_true (by first | (with_reducible assumption) | assumption)
          have q5 : x6_1 < (a0.size : Int) := of_decide_eq_true (by first | (with_reducible assumption) | assumption)
          have hx5 := bt_at a0 x6_1
          replace p5 := eq_true p5
          replace q5 := eq_true q5
          go_wp2_with (first | ((with_reducible refine gate_callee (f := 64) rfl ?_); refine goesL_ (some 12) rfl rfl Tryz.func64 (by kernel_rfl) rfl #[.int .u8 (bt a0 x6_1)] rfl (by (try simp only [List.map_toArray, List.map_cons, List.map_nil]); first | done | rfl | (simp only [List.length_drop, List.length_take]; rfl)) ?_; (with_reducible refine (words_may.calls (bt a0 x6_1) true _ A6.out).mono ?_); rintro e w' ⟨rfl, ⟨nd, rfl⟩⟩; refine ⟨_, rfl, ?_⟩; have p8 : 0 ≤ (x6_1 : Int) := of_decide_eq_true (by first | (with_reducible assumption) | assumption); have q8 : x6_1 < (a0.size : Int) := of_decide_eq_true (by first | (with_reducible assumption) | assumption); have hx8 := bt_at a0 x6_1; replace p8 := eq_true p8; replace q8 := eq_true q8) | (go_at_call 70; (with_reducible refine (words_blank.calls (bt a0 x6_1) false _ A9.out).mono ?_); rintro e w' ⟨rfl, ⟨nd, rfl⟩⟩; have p11 : 0 ≤ (x6_1 : Int) := of_decide_eq_true (by first | (with_reducible assumption) | assumption); have q11 : x6_1 < (a0.size : Int) := of_decide_eq_true (by first | (with_reducible assumption) | assumption); have hx11 := bt_at a0 x6_1; replace p11 := eq_true p11; replace q11 := eq_true q11; have p13 : 0 ≤ (x6_1 : Int) := of_decide_eq_true (by first | (with_reducible assumption) | assumption); have q13 : x6_1 < (a0.size : Int) := of_decide_eq_true (by first | (with_reducible assumption) | assumption); have hx13 := bt_at a0 x6_1; replace p13 := eq_true p13; replace q13 := eq_true q13))
          go_roundg k1
          case measure => have := HK1.out; omega
          case rel => exact ⟨(wrap64 (x6_1 + 1)), (by first | rfl | (simp; done) | (simp [*]; done)), H', ⟨by have := HK1.out; omega⟩, by repeat (first | exact Drawn0.refl _ | apply Drawn0.step)⟩
      ·replace c7 := Bool.eq_false_iff.mpr c7
       subst c7
       have H1 : (some false) = some r := by rw [if_neg (show ¬ (false = true) by decide)] at H; exact H
       clear H
       have H := H1
       clear H1
       obtain rfl := Option.some.inj H
       have p5 : 0 ≤ (x6_1 : Int) := of_decide_eq_true (by first | (with_reducible assumption) | assumption)
       have q5 : x6_1 < (a0.size : Int) := of_decide_eq_true (by first | (with_reducible assumption) | assumption)
       have hx5 := bt_at a0 x6_1
       replace p5 := eq_true p5
       replace q5 := eq_true q5
       go_wp2_with (first | ((with_reducible refine gate_callee (f := 64) rfl ?_); refine goesL_ (some 12) rfl rfl Tryz.func64 (by kernel_rfl) rfl #[.int .u8 (bt a0 x6_1)] rfl (by (try simp only [List.map_toArray, List.map_cons, List.map_nil]); first | done | rfl | (simp only [List.length_drop, List.length_take]; rfl)) ?_; (with_reducible refine (words_may.calls (bt a0 x6_1) false _ A6.out).mono ?_); rintro e w' ⟨rfl, ⟨nd, rfl⟩⟩; refine ⟨_, rfl, ?_⟩))
       go_ret
       exact ⟨by first | rfl | (simp; done) | (simp [*]; done), by repeat (first | exact Drawn0.refl _ | apply Drawn0.step)⟩
     ·rw [if_neg c4] at H
      exact absurd H (by simp)
    ·rw [if_neg c3] at H
     exact absurd H (by simp)
   ·rw [if_neg c2] at H
    have c2b0 : decide (x6_1 < (a0.size : Int)) = false := decide_eq_false c2
    clear c2
    by_cases c15 : a0.toList = ([] : List UInt8)
    ·rw [if_pos c15] at H
     have c15b0 : (a0.toList == ([] : List UInt8)) = true := beq_iff_eq.mpr c15
     have c15b1 : (a0.toList != ([] : List UInt8)) = false := bne_eq_false_iff_eq.mpr c15
     clear c15
     obtain rfl := Option.some.inj H
     go_wp2
     go_ret
     exact ⟨by first | rfl | (simp; done) | (simp [*]; done), by repeat (first | exact Drawn0.refl _ | apply Drawn0.step)⟩
    ·rw [if_neg c15] at H
     have c15b0 : (a0.toList == ([] : List UInt8)) = false := beq_eq_false_iff_ne.mpr c15
     have c15b1 : (a0.toList != ([] : List UInt8)) = true := bne_iff_ne.mpr c15
     by_cases c16 : 0 < (a0.size : Int)
     ·rw [if_pos c16] at H
      have c16b0 : decide (0 < (a0.size : Int)) = true := decide_eq_true c16
      have c16b1 : decide (0 < a0.size) = true := decide_eq_true (by omega)
      clear c16
      obtain rfl := Option.some.inj H
      have p17 : 0 ≤ (0 : Int) := (by omega)
      have q17 : 0 < a0.size := (by have : (0 : Int) < (a0.size : Int) := of_decide_eq_true (by first | (with_reducible assumption) | assumption); omega)
      have hx17 : ∀ h : 0 < a0.size, ((a0[0]'h).toNat : Int) = bt a0 0 := bt_at a0 0
      clear p17
      have qi17 : (0 < (a0.size : Int)) = True := eq_true (of_decide_eq_true (by first | (with_reducible assumption) | assumption))
      replace q17 := eq_true q17
      go_wp2
      go_ret
      exact ⟨by first | rfl | (simp; done) | (simp [*]; done), by repeat (first | exact Drawn0.refl _ | apply Drawn0.step)⟩
     ·rw [if_neg c16] at H
      exact absurd H (by simp)
def order_Changes.f (a0 : Int) : Option (Bool) := if a0 ≥ 1 then (if a0 ≤ 7 then (some true) else (some (a0 == 10))) else (some (a0 == 10))
set_option maxHeartbeats 8000000 in
set_option maxRecDepth 100000 in
theorem order_Changes.calls (a0 : Int) (r : Bool) (w : World) (h : order_Changes.f a0 = some r) :
  Calls Tryz.prog 21 #[.int .i64 a0] w fun e w' => e = .returned (.bool r) ∧ Drawn0 w w' := by
 have H : (if a0 ≥ 1 then (if a0 ≤ 7 then (some true) else (some (a0 == 10))) else (some (a0 == 10))) = some r := h
 clear h
 by_cases c2 : a0 ≥ 1
 ·rw [if_pos c2] at H
  have c2b0 : decide (1 ≤ a0) = true := decide_eq_true c2
  clear c2
  by_cases c3 : a0 ≤ 7
  ·rw [if_pos c3] at H
   have c3b0 : decide (a0 ≤ 7) = true := decide_eq_true c3
   clear c3
   obtain rfl := Option.some.inj H
   go_enter Tryz.func21, Tryz.ntmps21
   go_wp2
   go_ret
   exact ⟨by first | rfl | (simp; done) | (simp [*]; done), by repeat (first | exact Drawn0.refl _ | apply Drawn0.step)⟩
  ·rw [if_neg c3] at H
   have c3b0 : decide (a0 ≤ 7) = false := decide_eq_false c3
   clear c3
   obtain rfl := Option.some.inj H
   go_enter Tryz.func21, Tryz.ntmps21
   go_wp2
   go_ret
   exact ⟨by first | rfl | (simp; done) | (simp [*]; done), by repeat (first | exact Drawn0.refl _ | apply Drawn0.step)⟩
 ·rw [if_neg c2] at H
  have c2b0 : decide (1 ≤ a0) = false := decide_eq_false c2
  clear c2
  obtain rfl := Option.some.inj H
  go_enter Tryz.func21, Tryz.ntmps21
  go_wp2
  go_ret
  exact ⟨by first | rfl | (simp; done) | (simp [*]; done), by repeat (first | exact Drawn0.refl _ | apply Drawn0.step)⟩
def order_noProxy.f (a0 : Int) : Option (Bool) := if a0 = 8 then (some true) else (some (a0 == 10))
set_option maxHeartbeats 8000000 in
set_option maxRecDepth 100000 in
theorem order_noProxy.calls (a0 : Int) (r : Bool) (w : World) (h : order_noProxy.f a0 = some r) :
  Calls Tryz.prog 24 #[.int .i64 a0] w fun e w' => e = .returned (.bool r) ∧ Drawn0 w w' := by
 have H : (if a0 = 8 then (some true) else (some (a0 == 10))) = some r := h
 clear h
 by_cases c2 : a0 = 8
 ·rw [if_pos c2] at H
  have c2b0 : (a0 == 8) = true := beq_iff_eq.mpr c2
  have c2b1 : (a0 != 8) = false := bne_eq_false_iff_eq.mpr c2
  clear c2
  obtain rfl := Option.some.inj H
  go_enter Tryz.func24, Tryz.ntmps24
  go_wp2
  go_ret
  exact ⟨by first | rfl | (simp; done) | (simp [*]; done), by repeat (first | exact Drawn0.refl _ | apply Drawn0.step)⟩
 ·rw [if_neg c2] at H
  have c2b0 : (a0 == 8) = false := beq_eq_false_iff_ne.mpr c2
  have c2b1 : (a0 != 8) = true := bne_iff_ne.mpr c2
  obtain rfl := Option.some.inj H
  go_enter Tryz.func24, Tryz.ntmps24
  go_wp2
  go_ret
  exact ⟨by first | rfl | (simp; done) | (simp [*]; done), by repeat (first | exact Drawn0.refl _ | apply Drawn0.step)⟩
def order_toxical.f (a0 : Int) : Option (Bool) := if a0 = 5 then (some true) else (some (a0 == 7))
set_option maxHeartbeats 8000000 in
set_option maxRecDepth 100000 in
theorem order_toxical.calls (a0 : Int) (r : Bool) (w : World) (h : order_toxical.f a0 = some r) :
  Calls Tryz.prog 28 #[.int .i64 a0] w fun e w' => e = .returned (.bool r) ∧ Drawn0 w w' := by
 have H : (if a0 = 5 then (some true) else (some (a0 == 7))) = some r := h
 clear h
 by_cases c2 : a0 = 5
 ·rw [if_pos c2] at H
  have c2b0 : (a0 == 5) = true := beq_iff_eq.mpr c2
  have c2b1 : (a0 != 5) = false := bne_eq_false_iff_eq.mpr c2
  clear c2
  obtain rfl := Option.some.inj H
  go_enter Tryz.func28, Tryz.ntmps28
  go_wp2
  go_ret
  exact ⟨by first | rfl | (simp; done) | (simp [*]; done), by repeat (first | exact Drawn0.refl _ | apply Drawn0.step)⟩
 ·rw [if_neg c2] at H
  have c2b0 : (a0 == 5) = false := beq_eq_false_iff_ne.mpr c2
  have c2b1 : (a0 != 5) = true := bne_iff_ne.mpr c2
  obtain rfl := Option.some.inj H
  go_enter Tryz.func28, Tryz.ntmps28
  go_wp2
  go_ret
  exact ⟨by first | rfl | (simp; done) | (simp [*]; done), by repeat (first | exact Drawn0.refl _ | apply Drawn0.step)⟩
def order_most.f (a0 : Int) : Option (Int × Int) := (order_noProxy.f a0).bind fun t145 => (if t145 = true then (some (0, 0)) else ((order_toxical.f a0).bind fun t146 => (if t146 = true then (some (6, 7)) else (if a0 = 1 then (some (2, 2)) else (if a0 = 6 then (some (2, 2)) else (some (1, 1)))))))
set_option maxHeartbeats 8000000 in
set_option maxRecDepth 100000 in
theorem order_most.calls (a0 : Int) (r1 : Int) (r2 : Int) (w : World) (h : order_most.f a0 = some (r1, r2)) :
  Calls Tryz.prog 23 #[.int .i64 a0] w fun e w' => e = .returned (.tuple #[.int .i64 r1, .int .i64 r2]) ∧ Drawn0 w w' := by
 have H : ((order_noProxy.f a0).bind fun t145 => (if t145 = true then (some (0, 0)) else ((order_toxical.f a0).bind fun t146 => (if t146 = true then (some (6, 7)) else (if a0 = 1 then (some (2, 2)) else (if a0 = 6 then (some (2, 2)) else (some (1, 1)))))))) = some (r1, r2) := h
 clear h
 replace H := Option.bind_eq_some_iff.mp H
 obtain ⟨t145, A20, H⟩ := H
 replace H : (if t145 = true then (some (0, 0)) else ((order_toxical.f a0).bind fun t146 => (if t146 = true then (some (6, 7)) else (if a0 = 1 then (some (2, 2)) else (if a0 = 6 then (some (2, 2)) else (some (1, 1))))))) = some (r1, r2) := H
 have A2 := Aside0.mk A20
 clear A20
 by_cases c3 : t145 = true
 ·subst c3
  have H1 : (some (0, 0)) = some (r1, r2) := by rw [if_pos rfl] at H; exact H
  clear H
  have H := H1
  clear H1
  simp only [Option.some.injEq, Prod.mk.injEq] at H
  obtain ⟨rfl, rfl⟩ := H
  go_enter Tryz.func23, Tryz.ntmps23
  go_wp2_with (first | ((with_reducible refine gate_callee (f := 24) rfl ?_); refine goesL_ (some 6) rfl rfl Tryz.func24 (by kernel_rfl) rfl #[.int .i64 a0] rfl (by (try simp only [List.map_toArray, List.map_cons, List.map_nil]); first | done | rfl | (simp only [List.length_drop, List.length_take]; rfl)) ?_; (with_reducible refine (order_noProxy.calls a0 true _ A2.out).mono ?_); rintro e w' ⟨rfl, ⟨nd, rfl⟩⟩; refine ⟨_, rfl, ?_⟩))
  go_ret2
  exact ⟨by first | rfl | (simp; done) | (simp [*]; done), by repeat (first | exact Drawn0.refl _ | apply Drawn0.step)⟩
 ·replace c3 := Bool.eq_false_iff.mpr c3
  subst c3
  have H1 : ((order_toxical.f a0).bind fun t146 => (if t146 = true then (some (6, 7)) else (if a0 = 1 then (some (2, 2)) else (if a0 = 6 then (some (2, 2)) else (some (1, 1)))))) = some (r1, r2) := by rw [if_neg (show ¬ (false = true) by decide)] at H; exact H
  clear H
  have H := H1
  clear H1
  replace H := Option.bind_eq_some_iff.mp H
  obtain ⟨t146, A40, H⟩ := H
  replace H : (if t146 = true then (some (6, 7)) else (if a0 = 1 then (some (2, 2)) else (if a0 = 6 then (some (2, 2)) else (some (1, 1))))) = some (r1, r2) := H
  have A4 := Aside0.mk A40
  clear A40
  by_cases c5 : t146 = true
  ·subst c5
   have H1 : (some (6, 7)) = some (r1, r2) := by rw [if_pos rfl] at H; exact H
   clear H
   have H := H1
   clear H1
   simp only [Option.some.injEq, Prod.mk.injEq] at H
   obtain ⟨rfl, rfl⟩ := H
   go_enter Tryz.func23, Tryz.ntmps23
   go_wp2_with (first | ((with_reducible refine gate_callee (f := 24) rfl ?_); refine goesL_ (some 6) rfl rfl Tryz.func24 (by kernel_rfl) rfl #[.int .i64 a0] rfl (by (try simp only [List.map_toArray, List.map_cons, List.map_nil]); first | done | rfl | (simp only [List.length_drop, List.length_take]; rfl)) ?_; (with_reducible refine (order_noProxy.calls a0 false _ A2.out).mono ?_); rintro e w' ⟨rfl, ⟨nd, rfl⟩⟩; refine ⟨_, rfl, ?_⟩) | ((with_reducible refine gate_callee (f := 28) rfl ?_); refine goesL_ (some 9) rfl rfl Tryz.func28 (by kernel_rfl) rfl #[.int .i64 a0] rfl (by (try simp only [List.map_toArray, List.map_cons, List.map_nil]); first | done | rfl | (simp only [List.length_drop, List.length_take]; rfl)) ?_; (with_reducible refine (order_toxical.calls a0 true _ A4.out).mono ?_); rintro e w' ⟨rfl, ⟨nd, rfl⟩⟩; refine ⟨_, rfl, ?_⟩))
   go_ret2
   exact ⟨by first | rfl | (simp; done) | (simp [*]; done), by repeat (first | exact Drawn0.refl _ | apply Drawn0.step)⟩
  ·replace c5 := Bool.eq_false_iff.mpr c5
   subst c5
   have H1 : (if a0 = 1 then (some (2, 2)) else (if a0 = 6 then (some (2, 2)) else (some (1, 1)))) = some (r1, r2) := by rw [if_neg (show ¬ (false = true) by decide)] at H; exact H
   clear H
   have H := H1
   clear H1
   by_cases c6 : a0 = 1
   ·rw [if_pos c6] at H
    have c6b0 : (a0 == 1) = true := beq_iff_eq.mpr c6
    have c6b1 : (a0 != 1) = false := bne_eq_false_iff_eq.mpr c6
    clear c6
    simp only [Option.some.injEq, Prod.mk.injEq] at H
    obtain ⟨rfl, rfl⟩ := H
    go_enter Tryz.func23, Tryz.ntmps23
    go_wp2_with (first | ((with_reducible refine gate_callee (f := 24) rfl ?_); refine goesL_ (some 6) rfl rfl Tryz.func24 (by kernel_rfl) rfl #[.int .i64 a0] rfl (by (try simp only [List.map_toArray, List.map_cons, List.map_nil]); first | done | rfl | (simp only [List.length_drop, List.length_take]; rfl)) ?_; (with_reducible refine (order_noProxy.calls a0 false _ A2.out).mono ?_); rintro e w' ⟨rfl, ⟨nd, rfl⟩⟩; refine ⟨_, rfl, ?_⟩) | ((with_reducible refine gate_callee (f := 28) rfl ?_); refine goesL_ (some 9) rfl rfl Tryz.func28 (by kernel_rfl) rfl #[.int .i64 a0] rfl (by (try simp only [List.map_toArray, List.map_cons, List.map_nil]); first | done | rfl | (simp only [List.length_drop, List.length_take]; rfl)) ?_; (with_reducible refine (order_toxical.calls a0 false _ A4.out).mono ?_); rintro e w' ⟨rfl, ⟨nd, rfl⟩⟩; refine ⟨_, rfl, ?_⟩))
    go_ret2
    exact ⟨by first | rfl | (simp; done) | (simp [*]; done), by repeat (first | exact Drawn0.refl _ | apply Drawn0.step)⟩
   ·rw [if_neg c6] at H
    have c6b0 : (a0 == 1) = false := beq_eq_false_iff_ne.mpr c6
    have c6b1 : (a0 != 1) = true := bne_iff_ne.mpr c6
    by_cases c7 : a0 = 6
    ·rw [if_pos c7] at H
     have c7b0 : (a0 == 6) = true := beq_iff_eq.mpr c7
     have c7b1 : (a0 != 6) = false := bne_eq_false_iff_eq.mpr c7
     clear c7
     simp only [Option.some.injEq, Prod.mk.injEq] at H
     obtain ⟨rfl, rfl⟩ := H
     go_enter Tryz.func23, Tryz.ntmps23
     go_wp2_with (first | ((with_reducible refine gate_callee (f := 24) rfl ?_); refine goesL_ (some 6) rfl rfl Tryz.func24 (by kernel_rfl) rfl #[.int .i64 a0] rfl (by (try simp only [List.map_toArray, List.map_cons, List.map_nil]); first | done | rfl | (simp only [List.length_drop, List.length_take]; rfl)) ?_; (with_reducible refine (order_noProxy.calls a0 false _ A2.out).mono ?_); rintro e w' ⟨rfl, ⟨nd, rfl⟩⟩; refine ⟨_, rfl, ?_⟩) | ((with_reducible refine gate_callee (f := 28) rfl ?_); refine goesL_ (some 9) rfl rfl Tryz.func28 (by kernel_rfl) rfl #[.int .i64 a0] rfl (by (try simp only [List.map_toArray, List.map_cons, List.map_nil]); first | done | rfl | (simp only [List.length_drop, List.length_take]; rfl)) ?_; (with_reducible refine (order_toxical.calls a0 false _ A4.out).mono ?_); rintro e w' ⟨rfl, ⟨nd, rfl⟩⟩; refine ⟨_, rfl, ?_⟩))
     go_ret2
     exact ⟨by first | rfl | (simp; done) | (simp [*]; done), by repeat (first | exact Drawn0.refl _ | apply Drawn0.step)⟩
    ·rw [if_neg c7] at H
     have c7b0 : (a0 == 6) = false := beq_eq_false_iff_ne.mpr c7
     have c7b1 : (a0 != 6) = true := bne_iff_ne.mpr c7
     simp only [Option.some.injEq, Prod.mk.injEq] at H
     obtain ⟨rfl, rfl⟩ := H
     go_enter Tryz.func23, Tryz.ntmps23
     go_wp2_with (first | ((with_reducible refine gate_callee (f := 24) rfl ?_); refine goesL_ (some 6) rfl rfl Tryz.func24 (by kernel_rfl) rfl #[.int .i64 a0] rfl (by (try simp only [List.map_toArray, List.map_cons, List.map_nil]); first | done | rfl | (simp only [List.length_drop, List.length_take]; rfl)) ?_; (with_reducible refine (order_noProxy.calls a0 false _ A2.out).mono ?_); rintro e w' ⟨rfl, ⟨nd, rfl⟩⟩; refine ⟨_, rfl, ?_⟩) | ((with_reducible refine gate_callee (f := 28) rfl ?_); refine goesL_ (some 9) rfl rfl Tryz.func28 (by kernel_rfl) rfl #[.int .i64 a0] rfl (by (try simp only [List.map_toArray, List.map_cons, List.map_nil]); first | done | rfl | (simp only [List.length_drop, List.length_take]; rfl)) ?_; (with_reducible refine (order_toxical.calls a0 false _ A4.out).mono ?_); rintro e w' ⟨rfl, ⟨nd, rfl⟩⟩; refine ⟨_, rfl, ?_⟩))
     go_ret2
     exact ⟨by first | rfl | (simp; done) | (simp [*]; done), by repeat (first | exact Drawn0.refl _ | apply Drawn0.step)⟩
def order_Verbs.f  : Option (List ByteArray) := some (([(⟨#[112, 114, 111, 120, 121, 32, 97, 100, 100]⟩ : ByteArray), (⟨#[112, 114, 111, 120, 121, 32, 100, 114, 111, 112]⟩ : ByteArray), (⟨#[111, 110]⟩ : ByteArray), (⟨#[111, 102, 102]⟩ : ByteArray), (⟨#[116, 111, 120, 105, 99, 32, 97, 100, 100]⟩ : ByteArray), (⟨#[116, 111, 120, 105, 99, 32, 100, 114, 111, 112]⟩ : ByteArray), (⟨#[116, 111, 120, 105, 99, 32, 115, 101, 116]⟩ : ByteArray), (⟨#[108, 105, 115, 116]⟩ : ByteArray), (⟨#[115, 104, 111, 119]⟩ : ByteArray), (⟨#[114, 101, 115, 101, 116]⟩ : ByteArray)] : List ByteArray))
set_option maxHeartbeats 8000000 in
set_option maxRecDepth 100000 in
theorem order_Verbs.calls  (r : List ByteArray) (w : World) (h : order_Verbs.f  = some r) :
  Calls Tryz.prog 18 #[] w fun e w' => ∃ v0_ : Value, e = .returned (v0_) ∧ Kd.R Kd.string 9 w' w.heap.size (fun _ => True) v0_ r ∧ Below w.heap.size w w' := by
 have HB := Aside0.mk (Below.refl w.heap.size w)
 have H : (some (([(⟨#[112, 114, 111, 120, 121, 32, 97, 100, 100]⟩ : ByteArray), (⟨#[112, 114, 111, 120, 121, 32, 100, 114, 111, 112]⟩ : ByteArray), (⟨#[111, 110]⟩ : ByteArray), (⟨#[111, 102, 102]⟩ : ByteArray), (⟨#[116, 111, 120, 105, 99, 32, 97, 100, 100]⟩ : ByteArray), (⟨#[116, 111, 120, 105, 99, 32, 100, 114, 111, 112]⟩ : ByteArray), (⟨#[116, 111, 120, 105, 99, 32, 115, 101, 116]⟩ : ByteArray), (⟨#[108, 105, 115, 116]⟩ : ByteArray), (⟨#[115, 104, 111, 119]⟩ : ByteArray), (⟨#[114, 101, 115, 101, 116]⟩ : ByteArray)] : List ByteArray))) = some r := h
 clear h
 obtain ⟨y147, hy147⟩ : ∃ y_ : List ByteArray, y_ = (([(⟨#[112, 114, 111, 120, 121, 32, 97, 100, 100]⟩ : ByteArray), (⟨#[112, 114, 111, 120, 121, 32, 100, 114, 111, 112]⟩ : ByteArray), (⟨#[111, 110]⟩ : ByteArray), (⟨#[111, 102, 102]⟩ : ByteArray), (⟨#[116, 111, 120, 105, 99, 32, 97, 100, 100]⟩ : ByteArray), (⟨#[116, 111, 120, 105, 99, 32, 100, 114, 111, 112]⟩ : ByteArray), (⟨#[116, 111, 120, 105, 99, 32, 115, 101, 116]⟩ : ByteArray), (⟨#[108, 105, 115, 116]⟩ : ByteArray), (⟨#[115, 104, 111, 119]⟩ : ByteArray), (⟨#[114, 101, 115, 101, 116]⟩ : ByteArray)] : List ByteArray)) := ⟨_, rfl⟩
 replace H : (some y147) = some r := by first | (rw [hy147]; with_reducible exact H) | (have H2_ := (Option.bind_some _ _).symm.trans H; rw [hy147]; with_reducible exact H2_) | (have H2_ := (Option.bind_some _ _).symm.trans H; with_reducible exact H2_) | with_reducible exact H | (rw [hy147]; exact H) | exact H
 have Ny147 := Aside0.mk hy147
 clear hy147
 obtain rfl := Option.some.inj H
 go_enter Tryz.func18, Tryz.ntmps18
 go_wp2_with (first | ((with_reducible refine gate_dst (N := 1) rfl ?_); refine Kd.R_lit Kd.string _ 9 ?hg (N := 1) ?hd (xs := ([(⟨#[112, 114, 111, 120, 121, 32, 97, 100, 100]⟩ : ByteArray), (⟨#[112, 114, 111, 120, 121, 32, 100, 114, 111, 112]⟩ : ByteArray), (⟨#[111, 110]⟩ : ByteArray), (⟨#[111, 102, 102]⟩ : ByteArray), (⟨#[116, 111, 120, 105, 99, 32, 97, 100, 100]⟩ : ByteArray), (⟨#[116, 111, 120, 105, 99, 32, 100, 114, 111, 112]⟩ : ByteArray), (⟨#[116, 111, 120, 105, 99, 32, 115, 101, 116]⟩ : ByteArray), (⟨#[108, 105, 115, 116]⟩ : ByteArray), (⟨#[115, 104, 111, 119]⟩ : ByteArray), (⟨#[114, 101, 115, 101, 116]⟩ : ByteArray)] : List ByteArray)) (inner := [.string (⟨#[112, 114, 111, 120, 121, 32, 97, 100, 100]⟩ : ByteArray), .string (⟨#[112, 114, 111, 120, 121, 32, 100, 114, 111, 112]⟩ : ByteArray), .string (⟨#[111, 110]⟩ : ByteArray), .string (⟨#[111, 102, 102]⟩ : ByteArray), .string (⟨#[116, 111, 120, 105, 99, 32, 97, 100, 100]⟩ : ByteArray), .string (⟨#[116, 111, 120, 105, 99, 32, 100, 114, 111, 112]⟩ : ByteArray), .string (⟨#[116, 111, 120, 105, 99, 32, 115, 101, 116]⟩ : ByteArray), .string (⟨#[108, 105, 115, 116]⟩ : ByteArray), .string (⟨#[115, 104, 111, 119]⟩ : ByteArray), .string (⟨#[114, 101, 115, 101, 116]⟩ : ByteArray)]) (ok := fun _ => True) (okp := fun _ => True) ?hr ?hp (fun _ hk => hk) trivial (Below.refl _ _) (Nat.le_refl _) (by simp) ?_; (case hd => rfl); (case hg => rfl); (case hr => first | (go_simp; done) | (go_simp; rfl)); (case hp => exact (Reps.one (show Kd.M Kd.string _ _ _ (⟨#[112, 114, 111, 120, 121, 32, 97, 100, 100]⟩ : ByteArray) [.string (⟨#[112, 114, 111, 120, 121, 32, 97, 100, 100]⟩ : ByteArray)] from rfl) (Reps.one (show Kd.M Kd.string _ _ _ (⟨#[112, 114, 111, 120, 121, 32, 100, 114, 111, 112]⟩ : ByteArray) [.string (⟨#[112, 114, 111, 120, 121, 32, 100, 114, 111, 112]⟩ : ByteArray)] from rfl) (Reps.one (show Kd.M Kd.string _ _ _ (⟨#[111, 110]⟩ : ByteArray) [.string (⟨#[111, 110]⟩ : ByteArray)] from rfl) (Reps.one (show Kd.M Kd.string _ _ _ (⟨#[111, 102, 102]⟩ : ByteArray) [.string (⟨#[111, 102, 102]⟩ : ByteArray)] from rfl) (Reps.one (show Kd.M Kd.string _ _ _ (⟨#[116, 111, 120, 105, 99, 32, 97, 100, 100]⟩ : ByteArray) [.string (⟨#[116, 111, 120, 105, 99, 32, 97, 100, 100]⟩ : ByteArray)] from rfl) (Reps.one (show Kd.M Kd.string _ _ _ (⟨#[116, 111, 120, 105, 99, 32, 100, 114, 111, 112]⟩ : ByteArray) [.string (⟨#[116, 111, 120, 105, 99, 32, 100, 114, 111, 112]⟩ : ByteArray)] from rfl) (Reps.one (show Kd.M Kd.string _ _ _ (⟨#[116, 111, 120, 105, 99, 32, 115, 101, 116]⟩ : ByteArray) [.string (⟨#[116, 111, 120, 105, 99, 32, 115, 101, 116]⟩ : ByteArray)] from rfl) (Reps.one (show Kd.M Kd.string _ _ _ (⟨#[108, 105, 115, 116]⟩ : ByteArray) [.string (⟨#[108, 105, 115, 116]⟩ : ByteArray)] from rfl) (Reps.one (show Kd.M Kd.string _ _ _ (⟨#[115, 104, 111, 119]⟩ : ByteArray) [.string (⟨#[115, 104, 111, 119]⟩ : ByteArray)] from rfl) (Reps.one (show Kd.M Kd.string _ _ _ (⟨#[114, 101, 115, 101, 116]⟩ : ByteArray) [.string (⟨#[114, 101, 115, 101, 116]⟩ : ByteArray)] from rfl) (Reps.none _ _)))))))))))); intro v148 w1 ho2 hb hg_ hnew_; clear hg_ hnew_; (first | rw [← Ny147.out] at ho2 | (simp only [Int.reduceToNat] at ho2; rw [← Ny147.out] at ho2)); have n0_ := Aside0.mk (Kd.R_lower ho2 (below_size (by repeat (first | (with_reducible first | exact HB.out | apply below_alloc | apply pw_below_drewN | apply below_drew1) | exact HB.out)))); have n1_ := Aside0.mk (below_step (by repeat (first | (with_reducible first | exact HB.out | apply below_alloc | apply pw_below_drewN | apply below_drew1) | exact HB.out)) hb); clear HB; have HO149 := n0_; have HB := n1_; clear n0_ n1_; clear hb ho2))
 go_ret
 exact ⟨_, by first | rfl | (simp [errW_none, errW_some] <;> rfl) | (simp [*, errW_none, errW_some] <;> rfl), by (with_reducible repeat (first | apply Kd.R_alloc | apply Kd.R_drewN | apply Kd.R_drew)); exact HO149.out, by repeat (first | (with_reducible first | exact HB.out | apply below_alloc | apply pw_below_drewN | apply below_drew1) | exact HB.out)⟩
end Go.Proofs.YtlglbpjccpdloaaGreatDoor.PWrdA
namespace Go.Proofs.YtlglbpjccpdloaaGreatDoor.PWrdA
open Go.Proofs.YtlglbpjccpdloaaGreatDoor.Ext Go.RowKit Go.Proofs.YtlglbpjccpdloaaGreatDoorW.PrintWords Go.Proofs.YtlglbpjccpdloaaGreatDoorW.PrintLast Go.Proofs.YtlglbpjccpdloaaGreatDoorW.PrintMore
attribute [local go_sem] max2_int min2_int max_two min_two max_three min_three max_four min_four   -- for this text's walks alone
set_option linter.unusedVariables false
set_option linter.unusedSimpArgs false
def chicaneref16_Verb.f (a0 : Int) : Option (List ByteArray) := if a0 = 1 then (some (([(⟨#[112, 114, 111, 120, 121]⟩ : ByteArray), (⟨#[97, 100, 100]⟩ : ByteArray)] : List ByteArray))) else (if a0 = 2 then (some (([(⟨#[112, 114, 111, 120, 121]⟩ : ByteArray), (⟨#[100, 114, 111, 112]⟩ : ByteArray)] : List ByteArray))) else (if a0 = 3 then (some (([(⟨#[111, 110]⟩ : ByteArray)] : List ByteArray))) else (if a0 = 4 then (some (([(⟨#[111, 102, 102]⟩ : ByteArray)] : List ByteArray))) else (if a0 = 5 then (some (([(⟨#[116, 111, 120, 105, 99]⟩ : ByteArray), (⟨#[97, 100, 100]⟩ : ByteArray)] : List ByteArray))) else (if a0 = 6 then (some (([(⟨#[116, 111, 120, 105, 99]⟩ : ByteArray), (⟨#[100, 114, 111, 112]⟩ : ByteArray)] : List ByteArray))) else (if a0 = 7 then (some (([(⟨#[116, 111, 120, 105, 99]⟩ : ByteArray), (⟨#[115, 101, 116]⟩ : ByteArray)] : List ByteArray))) else (if a0 = 8 then (some (([(⟨#[108, 105, 115, 116]⟩ : ByteArray)] : List ByteArray))) else (if a0 = 9 then (some (([(⟨#[115, 104, 111, 119]⟩ : ByteArray)] : List ByteArray))) else (if a0 = 10 then (some (([(⟨#[114, 101, 115, 101, 116]⟩ : ByteArray)] : List ByteArray))) else (some ([] : List ByteArray)))))))))))
set_option maxHeartbeats 8000000 in
set_option maxRecDepth 100000 in
theorem chicaneref16_Verb.calls (a0 : Int) (r : List ByteArray) (w : World) (h : chicaneref16_Verb.f a0 = some r) :
  Calls Tryz.prog 20 #[.int .i64 a0] w fun e w' => ∃ v0_ : Value, e = .returned (v0_) ∧ Kd.R Kd.string 9 w' w.heap.size (fun _ => True) v0_ r ∧ Below w.heap.size w w' := by
 have HB := Aside0.mk (Below.refl w.heap.size w)
 have H : (if a0 = 1 then (some (([(⟨#[112, 114, 111, 120, 121]⟩ : ByteArray), (⟨#[97, 100, 100]⟩ : ByteArray)] : List ByteArray))) else (if a0 = 2 then (some (([(⟨#[112, 114, 111, 120, 121]⟩ : ByteArray), (⟨#[100, 114, 111, 112]⟩ : ByteArray)] : List ByteArray))) else (if a0 = 3 then (some (([(⟨#[111, 110]⟩ : ByteArray)] : List ByteArray))) else (if a0 = 4 then (some (([(⟨#[111, 102, 102]⟩ : ByteArray)] : List ByteArray))) else (if a0 = 5 then (some (([(⟨#[116, 111, 120, 105, 99]⟩ : ByteArray), (⟨#[97, 100, 100]⟩ : ByteArray)] : List ByteArray))) else (if a0 = 6 then (some (([(⟨#[116, 111, 120, 105, 99]⟩ : ByteArray), (⟨#[100, 114, 111, 112]⟩ : ByteArray)] : List ByteArray))) else (if a0 = 7 then (some (([(⟨#[116, 111, 120, 105, 99]⟩ : ByteArray), (⟨#[115, 101, 116]⟩ : ByteArray)] : List ByteArray))) else (if a0 = 8 then (some (([(⟨#[108, 105, 115, 116]⟩ : ByteArray)] : List ByteArray))) else (if a0 = 9 then (some (([(⟨#[115, 104, 111, 119]⟩ : ByteArray)] : List ByteArray))) else (if a0 = 10 then (some (([(⟨#[114, 101, 115, 101, 116]⟩ : ByteArray)] : List ByteArray))) else (some ([] : List ByteArray)))))))))))) = some r := h
 clear h
 by_cases c2 : a0 = 1
 ·rw [if_pos c2] at H
  have c2b0 : (a0 == 1) = true := beq_iff_eq.mpr c2
  have c2b1 : (a0 != 1) = false := bne_eq_false_iff_eq.mpr c2
  clear c2
  obtain ⟨y150, hy150⟩ : ∃ y_ : List ByteArray, y_ = (([(⟨#[112, 114, 111, 120, 121]⟩ : ByteArray), (⟨#[97, 100, 100]⟩ : ByteArray)] : List ByteArray)) := ⟨_, rfl⟩
  replace H : (some y150) = some r := by first | (rw [hy150]; with_reducible exact H) | (have H2_ := (Option.bind_some _ _).symm.trans H; rw [hy150]; with_reducible exact H2_) | (have H2_ := (Option.bind_some _ _).symm.trans H; with_reducible exact H2_) | with_reducible exact H | (rw [hy150]; exact H) | exact H
  have Ny150 := Aside0.mk hy150
  clear hy150
  obtain rfl := Option.some.inj H
  go_enter Tryz.func20, Tryz.ntmps20
  go_wp2_with (first | ((with_reducible refine gate_dst (N := 6) rfl ?_); refine Kd.R_lit Kd.string _ 9 ?hg (N := 6) ?hd (xs := ([(⟨#[112, 114, 111, 120, 121]⟩ : ByteArray), (⟨#[97, 100, 100]⟩ : ByteArray)] : List ByteArray)) (inner := [.string (⟨#[112, 114, 111, 120, 121]⟩ : ByteArray), .string (⟨#[97, 100, 100]⟩ : ByteArray)]) (ok := fun _ => True) (okp := fun _ => True) ?hr ?hp (fun _ hk => hk) trivial (Below.refl _ _) (Nat.le_refl _) (by simp) ?_; (case hd => rfl); (case hg => rfl); (case hr => first | (go_simp; done) | (go_simp; rfl)); (case hp => exact (Reps.one (show Kd.M Kd.string _ _ _ (⟨#[112, 114, 111, 120, 121]⟩ : ByteArray) [.string (⟨#[112, 114, 111, 120, 121]⟩ : ByteArray)] from rfl) (Reps.one (show Kd.M Kd.string _ _ _ (⟨#[97, 100, 100]⟩ : ByteArray) [.string (⟨#[97, 100, 100]⟩ : ByteArray)] from rfl) (Reps.none _ _)))); intro v151 w3 ho4 hb hg_ hnew_; clear hg_ hnew_; (first | rw [← Ny150.out] at ho4 | (simp only [Int.reduceToNat] at ho4; rw [← Ny150.out] at ho4)); have n0_ := Aside0.mk (Kd.R_lower ho4 (below_size (by repeat (first | (with_reducible first | exact HB.out | apply below_alloc | apply pw_below_drewN | apply below_drew1) | exact HB.out)))); have n1_ := Aside0.mk (below_step (by repeat (first | (with_reducible first | exact HB.out | apply below_alloc | apply pw_below_drewN | apply below_drew1) | exact HB.out)) hb); clear HB; have HO152 := n0_; have HB := n1_; clear n0_ n1_; clear hb ho4))
  go_ret
  exact ⟨_, by first | rfl | (simp [errW_none, errW_some] <;> rfl) | (simp [*, errW_none, errW_some] <;> rfl), by (with_reducible repeat (first | apply Kd.R_alloc | apply Kd.R_drewN | apply Kd.R_drew)); exact HO152.out, by repeat (first | (with_reducible first | exact HB.out | apply below_alloc | apply pw_below_drewN | apply below_drew1) | exact HB.out)⟩
 ·rw [if_neg c2] at H
  have c2b0 : (a0 == 1) = false := beq_eq_false_iff_ne.mpr c2
  have c2b1 : (a0 != 1) = true := bne_iff_ne.mpr c2
  by_cases c5 : a0 = 2
  ·rw [if_pos c5] at H
   have c5b0 : (a0 == 2) = true := beq_iff_eq.mpr c5
   have c5b1 : (a0 != 2) = false := bne_eq_false_iff_eq.mpr c5
   clear c5
   obtain ⟨y153, hy153⟩ : ∃ y_ : List ByteArray, y_ = (([(⟨#[112, 114, 111, 120, 121]⟩ : ByteArray), (⟨#[100, 114, 111, 112]⟩ : ByteArray)] : List ByteArray)) := ⟨_, rfl⟩
   replace H : (some y153) = some r := by first | (rw [hy153]; with_reducible exact H) | (have H2_ := (Option.bind_some _ _).symm.trans H; rw [hy153]; with_reducible exact H2_) | (have H2_ := (Option.bind_some _ _).symm.trans H; with_reducible exact H2_) | with_reducible exact H | (rw [hy153]; exact H) | exact H
   have Ny153 := Aside0.mk hy153
   clear hy153
   obtain rfl := Option.some.inj H
   go_enter Tryz.func20, Tryz.ntmps20
   go_wp2_with (first | ((with_reducible refine gate_dst (N := 9) rfl ?_); refine Kd.R_lit Kd.string _ 9 ?hg (N := 9) ?hd (xs := ([(⟨#[112, 114, 111, 120, 121]⟩ : ByteArray), (⟨#[100, 114, 111, 112]⟩ : ByteArray)] : List ByteArray)) (inner := [.string (⟨#[112, 114, 111, 120, 121]⟩ : ByteArray), .string (⟨#[100, 114, 111, 112]⟩ : ByteArray)]) (ok := fun _ => True) (okp := fun _ => True) ?hr ?hp (fun _ hk => hk) trivial (Below.refl _ _) (Nat.le_refl _) (by simp) ?_; (case hd => rfl); (case hg => rfl); (case hr => first | (go_simp; done) | (go_simp; rfl)); (case hp => exact (Reps.one (show Kd.M Kd.string _ _ _ (⟨#[112, 114, 111, 120, 121]⟩ : ByteArray) [.string (⟨#[112, 114, 111, 120, 121]⟩ : ByteArray)] from rfl) (Reps.one (show Kd.M Kd.string _ _ _ (⟨#[100, 114, 111, 112]⟩ : ByteArray) [.string (⟨#[100, 114, 111, 112]⟩ : ByteArray)] from rfl) (Reps.none _ _)))); intro v154 w6 ho7 hb hg_ hnew_; clear hg_ hnew_; (first | rw [← Ny153.out] at ho7 | (simp only [Int.reduceToNat] at ho7; rw [← Ny153.out] at ho7)); have n0_ := Aside0.mk (Kd.R_lower ho7 (below_size (by repeat (first | (with_reducible first | exact HB.out | apply below_alloc | apply pw_below_drewN | apply below_drew1) | exact HB.out)))); have n1_ := Aside0.mk (below_step (by repeat (first | (with_reducible first | exact HB.out | apply below_alloc | apply pw_below_drewN | apply below_drew1) | exact HB.out)) hb); clear HB; have HO155 := n0_; have HB := n1_; clear n0_ n1_; clear hb ho7))
   go_ret
   exact ⟨_, by first | rfl | (simp [errW_none, errW_some] <;> rfl) | (simp [*, errW_none, errW_some] <;> rfl), by (with_reducible repeat (first | apply Kd.R_alloc | apply Kd.R_drewN | apply Kd.R_drew)); exact HO155.out, by repeat (first | (with_reducible first | exact HB.out | apply below_alloc | apply pw_below_drewN | apply below_drew1) | exact HB.out)⟩
  ·rw [if_neg c5] at H
   have c5b0 : (a0 == 2) = false := beq_eq_false_iff_ne.mpr c5
   have c5b1 : (a0 != 2) = true := bne_iff_ne.mpr c5
   by_cases c8 : a0 = 3
   ·rw [if_pos c8] at H
    have c8b0 : (a0 == 3) = true := beq_iff_eq.mpr c8
    have c8b1 : (a0 != 3) = false := bne_eq_false_iff_eq.mpr c8
    clear c8
    obtain ⟨y156, hy156⟩ : ∃ y_ : List ByteArray, y_ = (([(⟨#[111, 110]⟩ : ByteArray)] : List ByteArray)) := ⟨_, rfl⟩
    replace H : (some y156) = some r := by first | (rw [hy156]; with_reducible exact H) | (have H2_ := (Option.bind_some _ _).symm.trans H; rw [hy156]; with_reducible exact H2_) | (have H2_ := (Option.bind_some _ _).symm.trans H; with_reducible exact H2_) | with_reducible exact H | (rw [hy156]; exact H) | exact H
    have Ny156 := Aside0.mk hy156
    clear hy156
    obtain rfl := Option.some.inj H
    go_enter Tryz.func20, Tryz.ntmps20
    go_wp2_with (first | ((with_reducible refine gate_dst (N := 12) rfl ?_); refine Kd.R_lit Kd.string _ 9 ?hg (N := 12) ?hd (xs := ([(⟨#[111, 110]⟩ : ByteArray)] : List ByteArray)) (inner := [.string (⟨#[111, 110]⟩ : ByteArray)]) (ok := fun _ => True) (okp := fun _ => True) ?hr ?hp (fun _ hk => hk) trivial (Below.refl _ _) (Nat.le_refl _) (by simp) ?_; (case hd => rfl); (case hg => rfl); (case hr => first | (go_simp; done) | (go_simp; rfl)); (case hp => exact (Reps.one (show Kd.M Kd.string _ _ _ (⟨#[111, 110]⟩ : ByteArray) [.string (⟨#[111, 110]⟩ : ByteArray)] from rfl) (Reps.none _ _))); intro v157 w9 ho10 hb hg_ hnew_; clear hg_ hnew_; (first | rw [← Ny156.out] at ho10 | (simp only [Int.reduceToNat] at ho10; rw [← Ny156.out] at ho10)); have n0_ := Aside0.mk (Kd.R_lower ho10 (below_size (by repeat (first | (with_reducible first | exact HB.out | apply below_alloc | apply pw_below_drewN | apply below_drew1) | exact HB.out)))); have n1_ := Aside0.mk (below_step (by repeat (first | (with_reducible first | exact HB.out | apply below_alloc | apply pw_below_drewN | apply below_drew1) | exact HB.out)) hb); clear HB; have HO158 := n0_; have HB := n1_; clear n0_ n1_; clear hb ho10))
    go_ret
    exact ⟨_, by first | rfl | (simp [errW_none, errW_some] <;> rfl) | (simp [*, errW_none, errW_some] <;> rfl), by (with_reducible repeat (first | apply Kd.R_alloc | apply Kd.R_drewN | apply Kd.R_drew)); exact HO158.out, by repeat (first | (with_reducible first | exact HB.out | apply below_alloc | apply pw_below_drewN | apply below_drew1) | exact HB.out)⟩
   ·rw [if_neg c8] at H
    have c8b0 : (a0 == 3) = false := beq_eq_false_iff_ne.mpr c8
    have c8b1 : (a0 != 3) = true := bne_iff_ne.mpr c8
    by_cases c11 : a0 = 4
    ·rw [if_pos c11] at H
     have c11b0 : (a0 == 4) = true := beq_iff_eq.mpr c11
     have c11b1 : (a0 != 4) = false := bne_eq_false_iff_eq.mpr c11
     clear c11
     obtain ⟨y159, hy159⟩ : ∃ y_ : List ByteArray, y_ = (([(⟨#[111, 102, 102]⟩ : ByteArray)] : List ByteArray)) := ⟨_, rfl⟩
     replace H : (some y159) = some r := by first | (rw [hy159]; with_reducible exact H) | (have H2_ := (Option.bind_some _ _).symm.trans H; rw [hy159]; with_reducible exact H2_) | (have H2_ := (Option.bind_some _ _).symm.trans H; with_reducible exact H2_) | with_reducible exact H | (rw [hy159]; exact H) | exact H
     have Ny159 := Aside0.mk hy159
     clear hy159
     obtain rfl := Option.some.inj H
     go_enter Tryz.func20, Tryz.ntmps20
     go_wp2_with (first | ((with_reducible refine gate_dst (N := 15) rfl ?_); refine Kd.R_lit Kd.string _ 9 ?hg (N := 15) ?hd (xs := ([(⟨#[111, 102, 102]⟩ : ByteArray)] : List ByteArray)) (inner := [.string (⟨#[111, 102, 102]⟩ : ByteArray)]) (ok := fun _ => True) (okp := fun _ => True) ?hr ?hp (fun _ hk => hk) trivial (Below.refl _ _) (Nat.le_refl _) (by simp) ?_; (case hd => rfl); (case hg => rfl); (case hr => first | (go_simp; done) | (go_simp; rfl)); (case hp => exact (Reps.one (show Kd.M Kd.string _ _ _ (⟨#[111, 102, 102]⟩ : ByteArray) [.string (⟨#[111, 102, 102]⟩ : ByteArray)] from rfl) (Reps.none _ _))); intro v160 w12 ho13 hb hg_ hnew_; clear hg_ hnew_; (first | rw [← Ny159.out] at ho13 | (simp only [Int.reduceToNat] at ho13; rw [← Ny159.out] at ho13)); have n0_ := Aside0.mk (Kd.R_lower ho13 (below_size (by repeat (first | (with_reducible first | exact HB.out | apply below_alloc | apply pw_below_drewN | apply below_drew1) | exact HB.out)))); have n1_ := Aside0.mk (below_step (by repeat (first | (with_reducible first | exact HB.out | apply below_alloc | apply pw_below_drewN | apply below_drew1) | exact HB.out)) hb); clear HB; have HO161 := n0_; have HB := n1_; clear n0_ n1_; clear hb ho13))
     go_ret
     exact ⟨_, by first | rfl | (simp [errW_none, errW_some] <;> rfl) | (simp [*, errW_none, errW_some] <;> rfl), by (with_reducible repeat (first | apply Kd.R_alloc | apply Kd.R_drewN | apply Kd.R_drew)); exact HO161.out, by repeat (first | (with_reducible first | exact HB.out | apply below_alloc | apply pw_below_drewN | apply below_drew1) | exact HB.out)⟩
    ·rw [if_neg c11] at H
     have c11b0 : (a0 == 4) = false := beq_eq_false_iff_ne.mpr c11
     have c11b1 : (a0 != 4) = true := bne_iff_ne.mpr c11
     by_cases c14 : a0 = 5
     ·rw [if_pos c14] at H
      have c14b0 : (a0 == 5) = true := beq_iff_eq.mpr c14
      have c14b1 : (a0 != 5) = false := bne_eq_false_iff_eq.mpr c14
      clear c14
      obtain ⟨y162, hy162⟩ : ∃ y_ : List ByteArray, y_ = (([(⟨#[116, 111, 120, 105, 99]⟩ : ByteArray), (⟨#[97, 100, 100]⟩ : ByteArray)] : List ByteArray)) := ⟨_, rfl⟩
      replace H : (some y162) = some r := by first | (rw [hy162]; with_reducible exact H) | (have H2_ := (Option.bind_some _ _).symm.trans H; rw [hy162]; with_reducible exact H2_) | (have H2_ := (Option.bind_some _ _).symm.trans H; with_reducible exact H2_) | with_reducible exact H | (rw [hy162]; exact H) | exact H
      have Ny162 := Aside0.mk hy162
      clear hy162
      obtain rfl := Option.some.inj H
      go_enter Tryz.func20, Tryz.ntmps20
      go_wp2_with (first | ((with_reducible refine gate_dst (N := 18) rfl ?_); refine Kd.R_lit Kd.string _ 9 ?hg (N := 18) ?hd (xs := ([(⟨#[116, 111, 120, 105, 99]⟩ : ByteArray), (⟨#[97, 100, 100]⟩ : ByteArray)] : List ByteArray)) (inner := [.string (⟨#[116, 111, 120, 105, 99]⟩ : ByteArray), .string (⟨#[97, 100, 100]⟩ : ByteArray)]) (ok := fun _ => True) (okp := fun _ => True) ?hr ?hp (fun _ hk => hk) trivial (Below.refl _ _) (Nat.le_refl _) (by simp) ?_; (case hd => rfl); (case hg => rfl); (case hr => first | (go_simp; done) | (go_simp; rfl)); (case hp => exact (Reps.one (show Kd.M Kd.string _ _ _ (⟨#[116, 111, 120, 105, 99]⟩ : ByteArray) [.string (⟨#[116, 111, 120, 105, 99]⟩ : ByteArray)] from rfl) (Reps.one (show Kd.M Kd.string _ _ _ (⟨#[97, 100, 100]⟩ : ByteArray) [.string (⟨#[97, 100, 100]⟩ : ByteArray)] from rfl) (Reps.none _ _)))); intro v163 w15 ho16 hb hg_ hnew_; clear hg_ hnew_; (first | rw [← Ny162.out] at ho16 | (simp only [Int.reduceToNat] at ho16; rw [← Ny162.out] at ho16)); have n0_ := Aside0.mk (Kd.R_lower ho16 (below_size (by repeat (first | (with_reducible first | exact HB.out | apply below_alloc | apply pw_below_drewN | apply below_drew1) | exact HB.out)))); have n1_ := Aside0.mk (below_step (by repeat (first | (with_reducible first | exact HB.out | apply below_alloc | apply pw_below_drewN | apply below_drew1) | exact HB.out)) hb); clear HB; have HO164 := n0_; have HB := n1_; clear n0_ n1_; clear hb ho16))
      go_ret
      exact ⟨_, by first | rfl | (simp [errW_none, errW_some] <;> rfl) | (simp [*, errW_none, errW_some] <;> rfl), by (with_reducible repeat (first | apply Kd.R_alloc | apply Kd.R_drewN | apply Kd.R_drew)); exact HO164.out, by repeat (first | (with_reducible first | exact HB.out | apply below_alloc | apply pw_below_drewN | apply below_drew1) | exact HB.out)⟩
     ·rw [if_neg c14] at H
      have c14b0 : (a0 == 5) = false := beq_eq_false_iff_ne.mpr c14
      have c14b1 : (a0 != 5) = true := bne_iff_ne.mpr c14
      by_cases c17 : a0 = 6
      ·rw [if_pos c17] at H
       have c17b0 : (a0 == 6) = true := beq_iff_eq.mpr c17
       have c17b1 : (a0 != 6) = false := bne_eq_false_iff_eq.mpr c17
       clear c17
       obtain ⟨y165, hy165⟩ : ∃ y_ : List ByteArray, y_ = (([(⟨#[116, 111, 120, 105, 99]⟩ : ByteArray), (⟨#[100, 114, 111, 112]⟩ : ByteArray)] : List ByteArray)) := ⟨_, rfl⟩
       replace H : (some y165) = some r := by first | (rw [hy165]; with_reducible exact H) | (have H2_ := (Option.bind_some _ _).symm.trans H; rw [hy165]; with_reducible exact H2_) | (have H2_ := (Option.bind_some _ _).symm.trans H; with_reducible exact H2_) | with_reducible exact H | (rw [hy165]; exact H) | exact H
       have Ny165 := Aside0.mk hy165
       clear hy165
       obtain rfl := Option.some.inj H
       go_enter Tryz.func20, Tryz.ntmps20
       go_wp2_with (first | ((with_reducible refine gate_dst (N := 21) rfl ?_); refine Kd.R_lit Kd.string _ 9 ?hg (N := 21) ?hd (xs := ([(⟨#[116, 111, 120, 105, 99]⟩ : ByteArray), (⟨#[100, 114, 111, 112]⟩ : ByteArray)] : List ByteArray)) (inner := [.string (⟨#[116, 111, 120, 105, 99]⟩ : ByteArray), .string (⟨#[100, 114, 111, 112]⟩ : ByteArray)]) (ok := fun _ => True) (okp := fun _ => True) ?hr ?hp (fun _ hk => hk) trivial (Below.refl _ _) (Nat.le_refl _) (by simp) ?_; (case hd => rfl); (case hg => rfl); (case hr => first | (go_simp; done) | (go_simp; rfl)); (case hp => exact (Reps.one (show Kd.M Kd.string _ _ _ (⟨#[116, 111, 120, 105, 99]⟩ : ByteArray) [.string (⟨#[116, 111, 120, 105, 99]⟩ : ByteArray)] from rfl) (Reps.one (show Kd.M Kd.string _ _ _ (⟨#[100, 114, 111, 112]⟩ : ByteArray) [.string (⟨#[100, 114, 111, 112]⟩ : ByteArray)] from rfl) (Reps.none _ _)))); intro v166 w18 ho19 hb hg_ hnew_; clear hg_ hnew_; (first | rw [← Ny165.out] at ho19 | (simp only [Int.reduceToNat] at ho19; rw [← Ny165.out] at ho19)); have n0_ := Aside0.mk (Kd.R_lower ho19 (below_size (by repeat (first | (with_reducible first | exact HB.out | apply below_alloc | apply pw_below_drewN | apply below_drew1) | exact HB.out)))); have n1_ := Aside0.mk (below_step (by repeat (first | (with_reducible first | exact HB.out | apply below_alloc | apply pw_below_drewN | apply below_drew1) | exact HB.out)) hb); clear HB; have HO167 := n0_; have HB := n1_; clear n0_ n1_; clear hb ho19))
       go_ret
       exact ⟨_, by first | rfl | (simp [errW_none, errW_some] <;> rfl) | (simp [*, errW_none, errW_some] <;> rfl), by (with_reducible repeat (first | apply Kd.R_alloc | apply Kd.R_drewN | apply Kd.R_drew)); exact HO167.out, by repeat (first | (with_reducible first | exact HB.out | apply below_alloc | apply pw_below_drewN | apply below_drew1) | exact HB.out)⟩
      ·rw [if_neg c17] at H
       have c17b0 : (a0 == 6) = false := beq_eq_false_iff_ne.mpr c17
       have c17b1 : (a0 != 6) = true := bne_iff_ne.mpr c17
       by_cases c20 : a0 = 7
       ·rw [if_pos c20] at H
        have c20b0 : (a0 == 7) = true := beq_iff_eq.mpr c20
        have c20b1 : (a0 != 7) = false := bne_eq_false_iff_eq.mpr c20
        clear c20
        obtain ⟨y168, hy168⟩ : ∃ y_ : List ByteArray, y_ = (([(⟨#[116, 111, 120, 105, 99]⟩ : ByteArray), (⟨#[115, 101, 116]⟩ : ByteArray)] : List ByteArray)) := ⟨_, rfl⟩
        replace H : (some y168) = some r := by first | (rw [hy168]; with_reducible exact H) | (have H2_ := (Option.bind_some _ _).symm.trans H; rw [hy168]; with_reducible exact H2_) | (have H2_ := (Option.bind_some _ _).symm.trans H; with_reducible exact H2_) | with_reducible exact H | (rw [hy168]; exact H) | exact H
        have Ny168 := Aside0.mk hy168
        clear hy168
        obtain rfl := Option.some.inj H
        go_enter Tryz.func20, Tryz.ntmps20
        go_wp2_with (first | ((with_reducible refine gate_dst (N := 24) rfl ?_); refine Kd.R_lit Kd.string _ 9 ?hg (N := 24) ?hd (xs := ([(⟨#[116, 111, 120, 105, 99]⟩ : ByteArray), (⟨#[115, 101, 116]⟩ : ByteArray)] : List ByteArray)) (inner := [.string (⟨#[116, 111, 120, 105, 99]⟩ : ByteArray), .string (⟨#[115, 101, 116]⟩ : ByteArray)]) (ok := fun _ => True) (okp := fun _ => True) ?hr ?hp (fun _ hk => hk) trivial (Below.refl _ _) (Nat.le_refl _) (by simp) ?_; (case hd => rfl); (case hg => rfl); (case hr => first | (go_simp; done) | (go_simp; rfl)); (case hp => exact (Reps.one (show Kd.M Kd.string _ _ _ (⟨#[116, 111, 120, 105, 99]⟩ : ByteArray) [.string (⟨#[116, 111, 120, 105, 99]⟩ : ByteArray)] from rfl) (Reps.one (show Kd.M Kd.string _ _ _ (⟨#[115, 101, 116]⟩ : ByteArray) [.string (⟨#[115, 101, 116]⟩ : ByteArray)] from rfl) (Reps.none _ _)))); intro v169 w21 ho22 hb hg_ hnew_; clear hg_ hnew_; (first | rw [← Ny168.out] at ho22 | (simp only [Int.reduceToNat] at ho22; rw [← Ny168.out] at ho22)); have n0_ := Aside0.mk (Kd.R_lower ho22 (below_size (by repeat (first | (with_reducible first | exact HB.out | apply below_alloc | apply pw_below_drewN | apply below_drew1) | exact HB.out)))); have n1_ := Aside0.mk (below_step (by repeat (first | (with_reducible first | exact HB.out | apply below_alloc | apply pw_below_drewN | apply below_drew1) | exact HB.out)) hb); clear HB; have HO170 := n0_; have HB := n1_; clear n0_ n1_; clear hb ho22))
        go_ret
        exact ⟨_, by first | rfl | (simp [errW_none, errW_some] <;> rfl) | (simp [*, errW_none, errW_some] <;> rfl), by (with_reducible repeat (first | apply Kd.R_alloc | apply Kd.R_drewN | apply Kd.R_drew)); exact HO170.out, by repeat (first | (with_reducible first | exact HB.out | apply below_alloc | apply pw_below_drewN | apply below_drew1) | exact HB.out)⟩
       ·rw [if_neg c20] at H
        have c20b0 : (a0 == 7) = false := beq_eq_false_iff_ne.mpr c20
        have c20b1 : (a0 != 7) = true := bne_iff_ne.mpr c20
        by_cases c23 : a0 = 8
        ·rw [if_pos c23] at H
         have c23b0 : (a0 == 8) = true := beq_iff_eq.mpr c23
         have c23b1 : (a0 != 8) = false := bne_eq_false_iff_eq.mpr c23
         clear c23
         obtain ⟨y171, hy171⟩ : ∃ y_ : List ByteArray, y_ = (([(⟨#[108, 105, 115, 116]⟩ : ByteArray)] : List ByteArray)) := ⟨_, rfl⟩
         replace H : (some y171) = some r := by first | (rw [hy171]; with_reducible exact H) | (have H2_ := (Option.bind_some _ _).symm.trans H; rw [hy171]; with_reducible exact H2_) | (have H2_ := (Option.bind_some _ _).symm.trans H; with_reducible exact H2_) | with_reducible exact H | (rw [hy171]; exact H) | exact H
         have Ny171 := Aside0.mk hy171
         clear hy171
         obtain rfl := Option.some.inj H
         go_enter Tryz.func20, Tryz.ntmps20
         go_wp2_with (first | ((with_reducible refine gate_dst (N := 27) rfl ?_); refine Kd.R_lit Kd.string _ 9 ?hg (N := 27) ?hd (xs := ([(⟨#[108, 105, 115, 116]⟩ : ByteArray)] : List ByteArray)) (inner := [.string (⟨#[108, 105, 115, 116]⟩ : ByteArray)]) (ok := fun _ => True) (okp := fun _ => True) ?hr ?hp (fun _ hk => hk) trivial (Below.refl _ _) (Nat.le_refl _) (by simp) ?_; (case hd => rfl); (case hg => rfl); (case hr => first | (go_simp; done) | (go_simp; rfl)); (case hp => exact (Reps.one (show Kd.M Kd.string _ _ _ (⟨#[108, 105, 115, 116]⟩ : ByteArray) [.string (⟨#[108, 105, 115, 116]⟩ : ByteArray)] from rfl) (Reps.none _ _))); intro v172 w24 ho25 hb hg_ hnew_; clear hg_ hnew_; (first | rw [← Ny171.out] at ho25 | (simp only [Int.reduceToNat] at ho25; rw [← Ny171.out] at ho25)); have n0_ := Aside0.mk (Kd.R_lower ho25 (below_size (by repeat (first | (with_reducible first | exact HB.out | apply below_alloc | apply pw_below_drewN | apply below_drew1) | exact HB.out)))); have n1_ := Aside0.mk (below_step (by repeat (first | (with_reducible first | exact HB.out | apply below_alloc | apply pw_below_drewN | apply below_drew1) | exact HB.out)) hb); clear HB; have HO173 := n0_; have HB := n1_; clear n0_ n1_; clear hb ho25))
         go_ret
         exact ⟨_, by first | rfl | (simp [errW_none, errW_some] <;> rfl) | (simp [*, errW_none, errW_some] <;> rfl), by (with_reducible repeat (first | apply Kd.R_alloc | apply Kd.R_drewN | apply Kd.R_drew)); exact HO173.out, by repeat (first | (with_reducible first | exact HB.out | apply below_alloc | apply pw_below_drewN | apply below_drew1) | exact HB.out)⟩
        ·rw [if_neg c23] at H
         have c23b0 : (a0 == 8) = false := beq_eq_false_iff_ne.mpr c23
         have c23b1 : (a0 != 8) = true := bne_iff_ne.mpr c23
         by_cases c26 : a0 = 9
         ·rw [if_pos c26] at H
          have c26b0 : (a0 == 9) = true := beq_iff_eq.mpr c26
          have c26b1 : (a0 != 9) = false := bne_eq_false_iff_eq.mpr c26
          clear c26
          obtain ⟨y174, hy174⟩ : ∃ y_ : List ByteArray, y_ = (([(⟨#[115, 104, 111, 119]⟩ : ByteArray)] : List ByteArray)) := ⟨_, rfl⟩
          replace H : (some y174) = some r := by first | (rw [hy174]; with_reducible exact H) | (have H2_ := (Option.bind_some _ _).symm.trans H; rw [hy174]; with_reducible exact H2_) | (have H2_ := (Option.bind_some _ _).symm.trans H; with_reducible exact H2_) | with_reducible exact H | (rw [hy174]; exact H) | exact H
          have Ny174 := Aside0.mk hy174
          clear hy174
          obtain rfl := Option.some.inj H
          go_enter Tryz.func20, Tryz.ntmps20
          go_wp2_with (first | ((with_reducible refine gate_dst (N := 30) rfl ?_); refine Kd.R_lit Kd.string _ 9 ?hg (N := 30) ?hd (xs := ([(⟨#[115, 104, 111, 119]⟩ : ByteArray)] : List ByteArray)) (inner := [.string (⟨#[115, 104, 111, 119]⟩ : ByteArray)]) (ok := fun _ => True) (okp := fun _ => True) ?hr ?hp (fun _ hk => hk) trivial (Below.refl _ _) (Nat.le_refl _) (by simp) ?_; (case hd => rfl); (case hg => rfl); (case hr => first | (go_simp; done) | (go_simp; rfl)); (case hp => exact (Reps.one (show Kd.M Kd.string _ _ _ (⟨#[115, 104, 111, 119]⟩ : ByteArray) [.string (⟨#[115, 104, 111, 119]⟩ : ByteArray)] from rfl) (Reps.none _ _))); intro v175 w27 ho28 hb hg_ hnew_; clear hg_ hnew_; (first | rw [← Ny174.out] at ho28 | (simp only [Int.reduceToNat] at ho28; rw [← Ny174.out] at ho28)); have n0_ := Aside0.mk (Kd.R_lower ho28 (below_size (by repeat (first | (with_reducible first | exact HB.out | apply below_alloc | apply pw_below_drewN | apply below_drew1) | exact HB.out)))); have n1_ := Aside0.mk (below_step (by repeat (first | (with_reducible first | exact HB.out | apply below_alloc | apply pw_below_drewN | apply below_drew1) | exact HB.out)) hb); clear HB; have HO176 := n0_; have HB := n1_; clear n0_ n1_; clear hb ho28))
          go_ret
          exact ⟨_, by first | rfl | (simp [errW_none, errW_some] <;> rfl) | (simp [*, errW_none, errW_some] <;> rfl), by (with_reducible repeat (first | apply Kd.R_alloc | apply Kd.R_drewN | apply Kd.R_drew)); exact HO176.out, by repeat (first | (with_reducible first | exact HB.out | apply below_alloc | apply pw_below_drewN | apply below_drew1) | exact HB.out)⟩
         ·rw [if_neg c26] at H
          have c26b0 : (a0 == 9) = false := beq_eq_false_iff_ne.mpr c26
          have c26b1 : (a0 != 9) = true := bne_iff_ne.mpr c26
          by_cases c29 : a0 = 10
          ·rw [if_pos c29] at H
           have c29b0 : (a0 == 10) = true := beq_iff_eq.mpr c29
           have c29b1 : (a0 != 10) = false := bne_eq_false_iff_eq.mpr c29
           clear c29
           obtain ⟨y177, hy177⟩ : ∃ y_ : List ByteArray, y_ = (([(⟨#[114, 101, 115, 101, 116]⟩ : ByteArray)] : List ByteArray)) := ⟨_, rfl⟩
           replace H : (some y177) = some r := by first | (rw [hy177]; with_reducible exact H) | (have H2_ := (Option.bind_some _ _).symm.trans H; rw [hy177]; with_reducible exact H2_) | (have H2_ := (Option.bind_some _ _).symm.trans H; with_reducible exact H2_) | with_reducible exact H | (rw [hy177]; exact H) | exact H
           have Ny177 := Aside0.mk hy177
           clear hy177
           obtain rfl := Option.some.inj H
           go_enter Tryz.func20, Tryz.ntmps20
           go_wp2_with (first | ((with_reducible refine gate_dst (N := 33) rfl ?_); refine Kd.R_lit Kd.string _ 9 ?hg (N := 33) ?hd (xs := ([(⟨#[114, 101, 115, 101, 116]⟩ : ByteArray)] : List ByteArray)) (inner := [.string (⟨#[114, 101, 115, 101, 116]⟩ : ByteArray)]) (ok := fun _ => True) (okp := fun _ => True) ?hr ?hp (fun _ hk => hk) trivial (Below.refl _ _) (Nat.le_refl _) (by simp) ?_; (case hd => rfl); (case hg => rfl); (case hr => first | (go_simp; done) | (go_simp; rfl)); (case hp => exact (Reps.one (show Kd.M Kd.string _ _ _ (⟨#[114, 101, 115, 101, 116]⟩ : ByteArray) [.string (⟨#[114, 101, 115, 101, 116]⟩ : ByteArray)] from rfl) (Reps.none _ _))); intro v178 w30 ho31 hb hg_ hnew_; clear hg_ hnew_; (first | rw [← Ny177.out] at ho31 | (simp only [Int.reduceToNat] at ho31; rw [← Ny177.out] at ho31)); have n0_ := Aside0.mk (Kd.R_lower ho31 (below_size (by repeat (first | (with_reducible first | exact HB.out | apply below_alloc | apply pw_below_drewN | apply below_drew1) | exact HB.out)))); have n1_ := Aside0.mk (below_step (by repeat (first | (with_reducible first | exact HB.out | apply below_alloc | apply pw_below_drewN | apply below_drew1) | exact HB.out)) hb); clear HB; have HO179 := n0_; have HB := n1_; clear n0_ n1_; clear hb ho31))
           go_ret
           exact ⟨_, by first | rfl | (simp [errW_none, errW_some] <;> rfl) | (simp [*, errW_none, errW_some] <;> rfl), by (with_reducible repeat (first | apply Kd.R_alloc | apply Kd.R_drewN | apply Kd.R_drew)); exact HO179.out, by repeat (first | (with_reducible first | exact HB.out | apply below_alloc | apply pw_below_drewN | apply below_drew1) | exact HB.out)⟩
          ·rw [if_neg c29] at H
           have c29b0 : (a0 == 10) = false := beq_eq_false_iff_ne.mpr c29
           have c29b1 : (a0 != 10) = true := bne_iff_ne.mpr c29
           obtain rfl := Option.some.inj H
           go_enter Tryz.func20, Tryz.ntmps20
           go_wp2
           go_ret
           exact ⟨_, by first | rfl | (simp [errW_none, errW_some] <;> rfl) | (simp [*, errW_none, errW_some] <;> rfl), by first | exact Kd.R_nil _ _ _ _ _ | exact Kd.N_nil _ _ _ _ _ | exact Kd.V_nil _ _ _ _ _ | exact Kd.Q_nil _ _ _ _ _ | exact Kd.S_nil _ _ _ _ _, by repeat (first | (with_reducible first | exact HB.out | apply below_alloc | apply pw_below_drewN | apply below_drew1) | exact HB.out)⟩
def chicaneref16_begins.f (k : Nat) (l0 : List ByteArray) (l1 : List ByteArray) : Option (Bool) := if (l0.length : Int) ≥ (l1.length : Int) then (if 0 ≤ (l1.length : Int) then (if (l1.length : Int) ≤ (l0.length : Int) then ((chicaneref15_Same.f k (l0.take ((l1.length : Int) : Int).toNat) l1).bind fun t181 => (some t181)) else (none)) else (none)) else (some false)
set_option maxHeartbeats 8000000 in
set_option maxRecDepth 100000 in
theorem chicaneref16_begins.calls (k : Nat) (A0 : Option Addr) (c0 : Nat) (l0 : List ByteArray) (A1 : Option Addr) (c1 : Nat) (l1 : List ByteArray) (r : Bool) (w : World) (hr0 : Kd.C Kd.string w A0 l0.length l0) (hc0 : l0.length ≤ c0) (hr1 : Kd.C Kd.string w A1 l1.length l1) (hc1 : l1.length ≤ c1) (h : chicaneref16_begins.f k l0 l1 = some r) :
  Calls Tryz.prog 30 #[.slice A0 l0.length c0, .slice A1 l1.length c1] w fun e w' => e = .returned (.bool r) ∧ Drawn0 w w' := by
 have HR0 := Aside0.mk hr0
 have HC0 := Aside0.mk hc0
 clear hr0 hc0
 have HR1 := Aside0.mk hr1
 have HC1 := Aside0.mk hc1
 clear hr1 hc1
 have H : (if (l0.length : Int) ≥ (l1.length : Int) then (if 0 ≤ (l1.length : Int) then (if (l1.length : Int) ≤ (l0.length : Int) then ((chicaneref15_Same.f k (l0.take ((l1.length : Int) : Int).toNat) l1).bind fun t181 => (some t181)) else (none)) else (none)) else (some false)) = some r := h
 clear h
 by_cases c3 : (l0.length : Int) ≥ (l1.length : Int)
 ·rw [if_pos c3] at H
  have c3b0 : decide ((l1.length : Int) ≤ (l0.length : Int)) = true := decide_eq_true c3
  have c3b1 : decide (l1.length ≤ l0.length) = true := decide_eq_true (Int.ofNat_le.mp c3)
  clear c3
  by_cases c4 : 0 ≤ (l1.length : Int)
  ·rw [if_pos c4] at H
   have c4b0 := eq_true c4
   have c4b1 : decide (0 ≤ (l1.length : Int)) = true := decide_eq_true c4
   clear c4
   by_cases c5 : (l1.length : Int) ≤ (l0.length : Int)
   ·rw [if_pos c5] at H
    have c5b0 := eq_true c5
    have c5b1 : decide ((l1.length : Int) ≤ (l0.length : Int)) = true := decide_eq_true c5
    clear c5
    replace H := Option.bind_eq_some_iff.mp H
    obtain ⟨t181, A60, H⟩ := H
    replace H : (some t181) = some r := H
    have A6 := Aside0.mk A60
    clear A60
    obtain rfl := Option.some.inj H
    obtain ⟨i07, hi07, _, hsz7, _⟩ := info_parts info9
    obtain ⟨hcut7, hA7, hC7⟩ := print_take_of (P := Tryz.prog) Value.string (⟨#[]⟩ : ByteArray) 22 9 .i64 Tryz.underlying22 hi07 hsz7 A0 c0 l0 (l1.length : Int) (of_decide_eq_true (by first | (with_reducible assumption) | assumption)) (of_decide_eq_true (by first | (with_reducible assumption) | assumption)) HC0.out
    have HR180 := Aside0.mk (Kd.C_of_reads (h1 := fun _ => rfl) (hA7 _ (Kd.reads_of_C HR0.out)))
    have HC180 := Aside0.mk hC7
    clear hA7 hC7 hi07 hsz7
    generalize (l0.take ((l1.length : Int)).toNat) = lt_ at hcut7 HR180 HC180 A6
    go_enter Tryz.func30, Tryz.ntmps30
    go_wp2_with (first | (go_at_call 11; (with_reducible refine (chicaneref15_Same.calls k _ _ lt_ _ _ l1 t181 _ ?side1 ?side2 ?side3 ?side4 A6.out).mono ?_); (case side1 => repeat (first | exact HR180.out | (with_reducible refine Kd.C_alloc ?_ _) | (with_reducible refine Kd.C_drewN ?_ _) | (with_reducible refine Kd.C_drew ?_))); (case side2 => exact HC180.out); (case side3 => repeat (first | exact HR1.out | (with_reducible refine Kd.C_alloc ?_ _) | (with_reducible refine Kd.C_drewN ?_ _) | (with_reducible refine Kd.C_drew ?_))); (case side4 => exact HC1.out); rintro e w' ⟨rfl, ⟨nd, rfl⟩⟩))
    go_ret
    exact ⟨by first | rfl | (simp; done) | (simp [*]; done), by repeat (first | exact Drawn0.refl _ | apply Drawn0.step)⟩
   ·rw [if_neg c5] at H
    exact absurd H (by simp)
  ·rw [if_neg c4] at H
   exact absurd H (by simp)
 ·rw [if_neg c3] at H
  have c3b0 : decide ((l1.length : Int) ≤ (l0.length : Int)) = false := decide_eq_false c3
  have c3b1 : decide (l1.length ≤ l0.length) = false := decide_eq_false (fun h => c3 (Int.ofNat_le.mpr h))
  clear c3
  obtain rfl := Option.some.inj H
  go_enter Tryz.func30, Tryz.ntmps30
  go_wp2
  go_ret
  exact ⟨by first | rfl | (simp; done) | (simp [*]; done), by repeat (first | exact Drawn0.refl _ | apply Drawn0.step)⟩
mutual
def chicaneref16_many.j0 : Nat → Int → Int → Bool → Option (Bool)
 | 0, _, _, _ => none
 | k + 1, x1, x5, x6 => if x6 = true then (some (x1 == 0)) else (if x5 = 1 then (chicaneref16_many.j1 k x1 x5 (x5 == 1)) else (chicaneref16_many.j1 k x1 x5 (x5 == 6)))
def chicaneref16_many.j1 : Nat → Int → Int → Bool → Option (Bool)
 | 0, _, _, _ => none
 | k + 1, x1, x5, x11 => if x11 = true then (some (x1 == 2)) else (if x5 = 5 then (if x1 = 6 then (some true) else (some (x1 == 7))) else (if x5 = 7 then (if x1 = 6 then (some true) else (some (x1 == 7))) else (some (x1 == 1))))
end
def chicaneref16_many.f (k : Nat) (a0 : Int) (a1 : Int) : Option (Bool) := if a0 = 8 then (chicaneref16_many.j0 k a1 a0 (a0 == 8)) else (chicaneref16_many.j0 k a1 a0 (a0 == 10))
set_option maxHeartbeats 8000000 in
set_option maxRecDepth 100000 in
theorem chicaneref16_many.calls (k : Nat) (a0 : Int) (a1 : Int) (r : Bool) (w : World) (h : chicaneref16_many.f k a0 a1 = some r) :
  Calls Tryz.prog 31 #[.int .i64 a0, .int .i64 a1] w fun e w' => e = .returned (.bool r) ∧ Drawn0 w w' := by
 have H : (if a0 = 8 then (chicaneref16_many.j0 k a1 a0 (a0 == 8)) else (chicaneref16_many.j0 k a1 a0 (a0 == 10))) = some r := h
 clear h
 have HC3 := Aside0.mk H
 clear H
 go_enter Tryz.func31, Tryz.ntmps31
 go_upto_if 6 with (fail)
 go_cut [6] (fun v6 wc => ∃ (kq : Nat) (x6_2 : Bool), v6 = .bool x6_2 ∧ Aside0 (chicaneref16_many.j0 kq a1 a0 x6_2 = some r) ∧ Aside0 (kq ≤ k) ∧ Drawn0 w wc)
 case first =>
  have H := HC3.out
  clear HC3
  by_cases c4 : a0 = 8
  ·rw [if_pos c4] at H
   have c4b0 : (a0 == 8) = true := beq_iff_eq.mpr c4
   have c4b1 : (a0 != 8) = false := bne_eq_false_iff_eq.mpr c4
   clear c4
   (first | rw [c4b0] | (simp only [i64_w, i32_w]; rw [c4b0]) | skip)
   have H' := Aside0.mk H
   clear H
   go_wp2
   go_meet
   case rel => exact ⟨_, ((a0 == 8)), (by first | rfl | (simp; done) | (simp [*]; done)), H', ⟨by first | omega | exact Nat.le_refl _⟩, by repeat (first | exact Drawn0.refl _ | apply Drawn0.step)⟩
  ·rw [if_neg c4] at H
   have c4b0 : (a0 == 8) = false := beq_eq_false_iff_ne.mpr c4
   have c4b1 : (a0 != 8) = true := bne_iff_ne.mpr c4
   (first | rw [c4b0] | (simp only [i64_w, i32_w]; rw [c4b0]) | skip)
   have H' := Aside0.mk H
   clear H
   go_wp2
   go_meet
   case rel => exact ⟨_, ((a0 == 10)), (by first | rfl | (simp; done) | (simp [*]; done)), H', ⟨by first | omega | exact Nat.le_refl _⟩, by repeat (first | exact Drawn0.refl _ | apply Drawn0.step)⟩
 case rest =>
  clear HC3
  try clear p2
  try clear c3
  try clear c4
  try clear c4b0
  try clear c4b1
  obtain ⟨kq, x6_2, rfl, HA, HJ2, ⟨mc2, rfl⟩⟩ := hcut
  cases kq with
  | zero => exact absurd HA.out (by simp [chicaneref16_many.j0])
  | succ kj2 =>
   have H := HA.out
   clear HA
   simp only [chicaneref16_many.j0] at H
   by_cases c5 : x6_2 = true
   ·subst c5
    have H1 : (some (a1 == 0)) = some r := by rw [if_pos rfl] at H; exact H
    clear H
    have H := H1
    clear H1
    obtain rfl := Option.some.inj H
    go_wp2
    go_ret
    exact ⟨by first | rfl | (simp; done) | (simp [*]; done), by repeat (first | exact Drawn0.refl _ | apply Drawn0.step)⟩
   ·replace c5 := Bool.eq_false_iff.mpr c5
    subst c5
    have H1 : (if a0 = 1 then (chicaneref16_many.j1 kj2 a1 a0 (a0 == 1)) else (chicaneref16_many.j1 kj2 a1 a0 (a0 == 6))) = some r := by rw [if_neg (show ¬ (false = true) by decide)] at H; exact H
    clear H
    have H := H1
    clear H1
    have HC6 := Aside0.mk H
    clear H
    go_upto_if 11 with (fail)
    go_cut [11] (fun v11 wc => ∃ (kq : Nat) (x11_5 : Bool), v11 = .bool x11_5 ∧ Aside0 (chicaneref16_many.j1 kq a1 a0 x11_5 = some r) ∧ Aside0 (kq ≤ kj2) ∧ Drawn0 w wc)
    case first =>
     have H := HC6.out
     clear HC6
     by_cases c7 : a0 = 1
     ·rw [if_pos c7] at H
      have c7b0 : (a0 == 1) = true := beq_iff_eq.mpr c7
      have c7b1 : (a0 != 1) = false := bne_eq_false_iff_eq.mpr c7
      clear c7
      (first | rw [c7b0] | (simp only [i64_w, i32_w]; rw [c7b0]) | skip)
      have H' := Aside0.mk H
      clear H
      go_wp2
      go_meet
      case rel => exact ⟨_, ((a0 == 1)), (by first | rfl | (simp; done) | (simp [*]; done)), H', ⟨by have := HJ2.out; first | omega | exact Nat.le_refl _⟩, by repeat (first | exact Drawn0.refl _ | apply Drawn0.step)⟩
     ·rw [if_neg c7] at H
      have c7b0 : (a0 == 1) = false := beq_eq_false_iff_ne.mpr c7
      have c7b1 : (a0 != 1) = true := bne_iff_ne.mpr c7
      (first | rw [c7b0] | (simp only [i64_w, i32_w]; rw [c7b0]) | skip)
      have H' := Aside0.mk H
      clear H
      go_wp2
      go_meet
      case rel => exact ⟨_, ((a0 == 6)), (by first | rfl | (simp; done) | (simp [*]; done)), H', ⟨by have := HJ2.out; first | omega | exact Nat.le_refl _⟩, by repeat (first | exact Drawn0.refl _ | apply Drawn0.step)⟩
    case rest =>
     clear HC6
     try clear c2
     try clear p2
     try clear c3
     try clear c4
     try clear c4b0
     try clear c4b1
     try clear c5
     try clear c7
     try clear c7b0
     try clear c7b1
     try clear p2
     obtain ⟨kq, x11_5, rfl, HA, HJ5, ⟨mc5, rfl⟩⟩ := hcut
     cases kq with
     | zero => exact absurd HA.out (by simp [chicaneref16_many.j1])
     | succ kj5 =>
      have H := HA.out
      clear HA
      simp only [chicaneref16_many.j1] at H
      by_cases c8 : x11_5 = true
      ·subst c8
       have H1 : (some (a1 == 2)) = some r := by rw [if_pos rfl] at H; exact H
       clear H
       have H := H1
       clear H1
       obtain rfl := Option.some.inj H
       go_wp2
       go_ret
       exact ⟨by first | rfl | (simp; done) | (simp [*]; done), by repeat (first | exact Drawn0.refl _ | apply Drawn0.step)⟩
      ·replace c8 := Bool.eq_false_iff.mpr c8
       subst c8
       have H1 : (if a0 = 5 then (if a1 = 6 then (some true) else (some (a1 == 7))) else (if a0 = 7 then (if a1 = 6 then (some true) else (some (a1 == 7))) else (some (a1 == 1)))) = some r := by rw [if_neg (show ¬ (false = true) by decide)] at H; exact H
       clear H
       have H := H1
       clear H1
       by_cases c9 : a0 = 5
       ·rw [if_pos c9] at H
        have c9b0 : (a0 == 5) = true := beq_iff_eq.mpr c9
        have c9b1 : (a0 != 5) = false := bne_eq_false_iff_eq.mpr c9
        clear c9
        by_cases c10 : a1 = 6
        ·rw [if_pos c10] at H
         have c10b0 : (a1 == 6) = true := beq_iff_eq.mpr c10
         have c10b1 : (a1 != 6) = false := bne_eq_false_iff_eq.mpr c10
         clear c10
         obtain rfl := Option.some.inj H
         go_wp2
         go_ret
         exact ⟨by first | rfl | (simp; done) | (simp [*]; done), by repeat (first | exact Drawn0.refl _ | apply Drawn0.step)⟩
        ·rw [if_neg c10] at H
         have c10b0 : (a1 == 6) = false := beq_eq_false_iff_ne.mpr c10
         have c10b1 : (a1 != 6) = true := bne_iff_ne.mpr c10
         obtain rfl := Option.some.inj H
         go_wp2
         go_ret
         exact ⟨by first | rfl | (simp; done) | (simp [*]; done), by repeat (first | exact Drawn0.refl _ | apply Drawn0.step)⟩
       ·rw [if_neg c9] at H
        have c9b0 : (a0 == 5) = false := beq_eq_false_iff_ne.mpr c9
        have c9b1 : (a0 != 5) = true := bne_iff_ne.mpr c9
        by_cases c11 : a0 = 7
        ·rw [if_pos c11] at H
         have c11b0 : (a0 == 7) = true := beq_iff_eq.mpr c11
         have c11b1 : (a0 != 7) = false := bne_eq_false_iff_eq.mpr c11
         clear c11
         by_cases c12 : a1 = 6
         ·rw [if_pos c12] at H
          have c12b0 : (a1 == 6) = true := beq_iff_eq.mpr c12
          have c12b1 : (a1 != 6) = false := bne_eq_false_iff_eq.mpr c12
          clear c12
          obtain rfl := Option.some.inj H
          go_wp2
          go_ret
          exact ⟨by first | rfl | (simp; done) | (simp [*]; done), by repeat (first | exact Drawn0.refl _ | apply Drawn0.step)⟩
         ·rw [if_neg c12] at H
          have c12b0 : (a1 == 6) = false := beq_eq_false_iff_ne.mpr c12
          have c12b1 : (a1 != 6) = true := bne_iff_ne.mpr c12
          obtain rfl := Option.some.inj H
          go_wp2
          go_ret
          exact ⟨by first | rfl | (simp; done) | (simp [*]; done), by repeat (first | exact Drawn0.refl _ | apply Drawn0.step)⟩
        ·rw [if_neg c11] at H
         have c11b0 : (a0 == 7) = false := beq_eq_false_iff_ne.mpr c11
         have c11b1 : (a0 != 7) = true := bne_iff_ne.mpr c11
         obtain rfl := Option.some.inj H
         go_wp2
         go_ret
         exact ⟨by first | rfl | (simp; done) | (simp [*]; done), by repeat (first | exact Drawn0.refl _ | apply Drawn0.step)⟩
end Go.Proofs.YtlglbpjccpdloaaGreatDoor.PWrdA
namespace Go.Proofs.YtlglbpjccpdloaaGreatDoor.POrdE
open Go.Proofs.YtlglbpjccpdloaaGreatDoor.Ext Go.RowKit Go.Proofs.YtlglbpjccpdloaaGreatDoorW.PrintWords Go.Proofs.YtlglbpjccpdloaaGreatDoorW.PrintLast Go.Proofs.YtlglbpjccpdloaaGreatDoorW.PrintMore
attribute [local go_sem] max2_int min2_int max_two min_two max_three min_three max_four min_four   -- for this text's walks alone
set_option linter.unusedVariables false
set_option linter.unusedSimpArgs false
def errW : Option Int → Value
 | none => .nilIface
 | some c => .iface 0 (.int .i64 c)
theorem errW_none : errW none = .nilIface := rfl
theorem errW_some (c : Int) : errW (some c) = .iface 0 (.int .i64 c) := rfl
end Go.Proofs.YtlglbpjccpdloaaGreatDoor.POrdE
namespace Go.Proofs.YtlglbpjccpdloaaGreatDoor.POrdE
open Go.Proofs.YtlglbpjccpdloaaGreatDoor.Ext Go.RowKit Go.Proofs.YtlglbpjccpdloaaGreatDoorW.PrintWords Go.Proofs.YtlglbpjccpdloaaGreatDoorW.PrintLast Go.Proofs.YtlglbpjccpdloaaGreatDoorW.PrintMore
attribute [local go_sem] max2_int min2_int max_two min_two max_three min_three max_four min_four   -- for this text's walks alone
set_option linter.unusedVariables false
set_option linter.unusedSimpArgs false
def slices_Equal_string_string.l0 : Nat → List ByteArray → List ByteArray → Int → Int → Option (Bool)
 | 0, _, _, _, _ => none
 | k + 1, x0, x1, x12, x13 => if x13 < x12 then (if 0 ≤ x13 then (if x13 < (x0.length : Int) then (if x13 < (x1.length : Int) then (if (rdOf ByteArray.empty x0 x13).toList = (rdOf ByteArray.empty x1 x13).toList then (slices_Equal_string_string.l0 k x0 x1 x12 (wrap64 (x13 + 1))) else (some false)) else (none)) else (none)) else (none)) else (some true)
def slices_Equal_string_string.f (k : Nat) (l0 : List ByteArray) (l1 : List ByteArray) : Option (Bool) := if (l0.length : Int) = (l1.length : Int) then (slices_Equal_string_string.l0 k l0 l1 (l0.length : Int) 0) else (some false)
set_option maxHeartbeats 8000000 in
set_option maxRecDepth 100000 in
theorem slices_Equal_string_string.calls (k : Nat) (A0 : Option Addr) (c0 : Nat) (l0 : List ByteArray) (A1 : Option Addr) (c1 : Nat) (l1 : List ByteArray) (r : Bool) (w : World) (hr0 : Kd.C Kd.string w A0 l0.length l0) (hc0 : l0.length ≤ c0) (hr1 : Kd.C Kd.string w A1 l1.length l1) (hc1 : l1.length ≤ c1) (h : slices_Equal_string_string.f k l0 l1 = some r) :
  Calls Tryz.prog 48 #[.slice A0 l0.length c0, .slice A1 l1.length c1] w fun e w' => e = .returned (.bool r) ∧ Drawn0 w w' := by
 have HR0 := Aside0.mk hr0
 have HC0 := Aside0.mk hc0
 clear hr0 hc0
 have HR1 := Aside0.mk hr1
 have HC1 := Aside0.mk hc1
 clear hr1 hc1
 have H : (if (l0.length : Int) = (l1.length : Int) then (slices_Equal_string_string.l0 k l0 l1 (l0.length : Int) 0) else (some false)) = some r := h
 clear h
 by_cases c3 : (l0.length : Int) = (l1.length : Int)
 ·rw [if_pos c3] at H
  have c3b0 : ((l0.length : Int) == (l1.length : Int)) = true := beq_iff_eq.mpr c3
  have c3b1 : ((l0.length : Int) != (l1.length : Int)) = false := bne_eq_false_iff_eq.mpr c3
  have c3b2 : (l0.length == l1.length) = true := by first | simpa using c3 | (simp at c3 ⊢; omega)
  clear c3
  have H' := Aside0.mk H
  clear H
  go_enter Tryz.func48, Tryz.ntmps48
  go_wp2
  repeat (go_quiet (fail); try go_wp2)
  go_loopg [13] k (fun kq v13 w' => ∃ (x13_1 : Int), v13 = .int .i64 x13_1 ∧ Aside0 (slices_Equal_string_string.l0 kq l0 l1 (l0.length : Int) x13_1 = some r) ∧ Aside0 (kq ≤ k) ∧ Drawn0 w w')
  case atStart => exact ⟨(0), (by first | rfl | (simp; done) | (simp [*]; done)), H', ⟨Nat.le_refl _⟩, by repeat (first | exact Drawn0.refl _ | apply Drawn0.step)⟩
  case round =>
   clear H'
   try clear c1
   try clear p2
   try clear c3
   try clear c3b0
   try clear c3b1
   try clear c3b2
   try clear c3b3
   obtain ⟨x13_1, rfl, HA, HK1, ⟨m1, rfl⟩⟩ := hrel
   cases gk with
   | zero => exact absurd HA.out (by simp [slices_Equal_string_string.l0])
   | succ k1 =>
    have H := HA.out
    clear HA
    simp only [slices_Equal_string_string.l0] at H
    by_cases c4 : x13_1 < (l0.length : Int)
    ·rw [if_pos c4] at H
     have c4b0 : decide (x13_1 < (l0.length : Int)) = true := decide_eq_true c4
     clear c4
     by_cases c5 : 0 ≤ x13_1
     ·rw [if_pos c5] at H
      have c5b0 : decide (0 ≤ x13_1) = true := decide_eq_true c5
      clear c5
      by_cases c6 : x13_1 < (l0.length : Int)
      ·rw [if_pos c6] at H
       have c6b0 : decide (x13_1 < (l0.length : Int)) = true := decide_eq_true c6
       clear c6
       by_cases c7 : x13_1 < (l1.length : Int)
       ·rw [if_pos c7] at H
        have c7b0 : decide (x13_1 < (l1.length : Int)) = true := decide_eq_true c7
        clear c7
        by_cases c8 : (rdOf ByteArray.empty l0 x13_1).toList = (rdOf ByteArray.empty l1 x13_1).toList
        ·rw [if_pos c8] at H
         have c8b0 : ((rdOf ByteArray.empty l0 x13_1).toList == (rdOf ByteArray.empty l1 x13_1).toList) = true := beq_iff_eq.mpr c8
         have c8b1 : ((rdOf ByteArray.empty l0 x13_1).toList != (rdOf ByteArray.empty l1 x13_1).toList) = false := bne_eq_false_iff_eq.mpr c8
         clear c8
         have H' := Aside0.mk H
         clear H
         have p101 : 0 ≤ (x13_1 : Int) := of_decide_eq_true (by first | (with_reducible assumption) | assumption)
         have q101 : x13_1 < (l0.length : Int) := of_decide_eq_true (by first | (with_reducible assumption) | assumption)
         obtain ⟨ad101, e101, hx101_0⟩ := Kd.at_string HR0.out x13_1 p101 q101
         cases e101
         replace p101 := eq_true p101
         replace q101 := eq_true q101
         have p102 : 0 ≤ (x13_1 : Int) := of_decide_eq_true (by first | (with_reducible assumption) | assumption)
         have q102 : x13_1 < (l1.length : Int) := of_decide_eq_true (by first | (with_reducible assumption) | assumption)
         obtain ⟨ad102, e102, hx102_0⟩ := Kd.at_string HR1.out x13_1 p102 q102
         cases e102
         replace p102 := eq_true p102
         replace q102 := eq_true q102
         go_wp2
         repeat (go_quiet (fail); try go_wp2)
         go_roundg k1
         case measure => have := HK1.out; omega
         case rel => exact ⟨(wrap64 (x13_1 + 1)), (by first | rfl | (simp; done) | (simp [*]; done)), H', ⟨by have := HK1.out; omega⟩, by repeat (first | exact Drawn0.refl _ | apply Drawn0.step)⟩
        ·rw [if_neg c8] at H
         have c8b0 : ((rdOf ByteArray.empty l0 x13_1).toList == (rdOf ByteArray.empty l1 x13_1).toList) = false := beq_eq_false_iff_ne.mpr c8
         have c8b1 : ((rdOf ByteArray.empty l0 x13_1).toList != (rdOf ByteArray.empty l1 x13_1).toList) = true := bne_iff_ne.mpr c8
         obtain rfl := Option.some.inj H
         have p101 : 0 ≤ (x13_1 : Int) := of_decide_eq_true (by first | (with_reducible assumption) | assumption)
         have q101 : x13_1 < (l0.length : Int) := of_decide_eq_true (by first | (with_reducible assumption) | assumption)
         obtain ⟨ad101, e101, hx101_0⟩ := Kd.at_string HR0.out x13_1 p101 q101
         cases e101
         replace p101 := eq_true p101
         replace q101 := eq_true q101
         have p102 : 0 ≤ (x13_1 : Int) := of_decide_eq_true (by first | (with_reducible assumption) | assumption)
         have q102 : x13_1 < (l1.length : Int) := of_decide_eq_true (by first | (with_reducible assumption) | assumption)
         obtain ⟨ad102, e102, hx102_0⟩ := Kd.at_string HR1.out x13_1 p102 q102
         cases e102
         replace p102 := eq_true p102
         replace q102 := eq_true q102
         go_wp2
         repeat (go_quiet (fail); try go_wp2)
         go_ret
         exact ⟨by first | rfl | (simp; done) | (simp [*]; done), by repeat (first | exact Drawn0.refl _ | apply Drawn0.step)⟩
       ·rw [if_neg c7] at H
        exact absurd H (by simp)
      ·rw [if_neg c6] at H
       exact absurd H (by simp)
     ·rw [if_neg c5] at H
      exact absurd H (by simp)
    ·rw [if_neg c4] at H
     have c4b0 : decide (x13_1 < (l0.length : Int)) = false := decide_eq_false c4
     clear c4
     obtain rfl := Option.some.inj H
     go_wp2
     repeat (go_quiet (fail); try go_wp2)
     go_ret
     exact ⟨by first | rfl | (simp; done) | (simp [*]; done), by repeat (first | exact Drawn0.refl _ | apply Drawn0.step)⟩
 ·rw [if_neg c3] at H
  have c3b0 : ((l0.length : Int) == (l1.length : Int)) = false := beq_eq_false_iff_ne.mpr c3
  have c3b1 : ((l0.length : Int) != (l1.length : Int)) = true := bne_iff_ne.mpr c3
  have c3b2 : (l0.length == l1.length) = false := by first | simpa using c3 | (simp at c3 ⊢; omega)
  obtain rfl := Option.some.inj H
  go_enter Tryz.func48, Tryz.ntmps48
  go_wp2
  repeat (go_quiet (fail); try go_wp2)
  go_ret
  exact ⟨by first | rfl | (simp; done) | (simp [*]; done), by repeat (first | exact Drawn0.refl _ | apply Drawn0.step)⟩
end Go.Proofs.YtlglbpjccpdloaaGreatDoor.POrdE
set_option linter.unusedVariables false
set_option linter.unusedSimpArgs false
namespace Go.Proofs.YtlglbpjccpdloaaGreatDoor.Ext
open Go.RowKit Go.Shelf Go.Proofs.YtlglbpjccpdloaaGreatDoorW.PrintWords Go.Proofs.YtlglbpjccpdloaaGreatDoorW.PrintLast Go.Proofs.YtlglbpjccpdloaaGreatDoor.PWrdA Go.Proofs.YtlglbpjccpdloaaGreatDoor.POrdE
theorem by_toList_iff (x y : ByteArray) : x.toList = y.toList ↔ x = y := by rw [← Lib.bytes_beq_iff x y, beq_iff_eq]
theorem rdS_at (l : List ByteArray) (i : Nat) (h : i < l.length) : rdOf ByteArray.empty l (i : Int) = l[i] := by
  simp [rdOf, h]
theorem eqs_l0 (l m : List ByteArray) (hlm : l.length = m.length) (hl : l.length ≤ 4611686018427387904) : ∀ (k i : Nat), l.length - i < k → i ≤ l.length →
    slices_Equal_string_string.l0 k l m (l.length : Int) (i : Int) = some (decide (l.drop i = m.drop i)) := by
  intro k
  induction k with
  | zero => intro i h; omega
  | succ k ih =>
    intro i h hi
    unfold slices_Equal_string_string.l0
    by_cases hil : i < l.length
    · have hd : l.drop i = l[i] :: l.drop (i + 1) := List.drop_eq_getElem_cons hil
      have hd2 : m.drop i = m[i]'(by omega) :: m.drop (i + 1) := List.drop_eq_getElem_cons (by omega)
      rw [if_pos (by omega), if_pos (by omega), if_pos (by omega), if_pos (by omega), rdS_at l i hil, rdS_at m i (by omega), hd, hd2]
      by_cases he : l[i] = m[i]'(by omega)
      · rw [if_pos ((by_toList_iff _ _).2 he), show wrap64 ((i : Int) + 1) = ((i + 1 : Nat) : Int) by unfold wrap64; omega, ih (i + 1) (by omega) (by omega)]
        exact congrArg some (decide_eq_decide.2 ⟨fun h => by rw [he, h], fun h => (List.cons.inj h).2⟩)
      · rw [if_neg (fun h2 => he ((by_toList_iff _ _).1 h2))]
        exact congrArg some (decide_eq_false (fun h => he (List.cons.inj h).1)).symm
    · rw [if_neg (by omega), List.drop_eq_nil_of_le (by omega), List.drop_eq_nil_of_le (by omega)]
      rfl
theorem eqs_is (l m : List ByteArray) (hl : l.length ≤ 4611686018427387904) (k : Nat) (hk : l.length < k) : slices_Equal_string_string.f k l m = some (decide (l = m)) := by
  unfold slices_Equal_string_string.f
  by_cases h : l.length = m.length
  · rw [if_pos (by omega)]
    exact eqs_l0 l m h hl k 0 (by omega) (by omega)
  · rw [if_neg (by omega)]
    congr 1
    symm
    exact decide_eq_false (fun he => h (by rw [he]))
def vrbs : List ByteArray := (order_Verbs.f).getD []
theorem vrbs_f : order_Verbs.f = some vrbs := rfl
theorem vrbs_len : vrbs.length = 10 := rfl
theorem vrbs_ok : vrbs.all (fun s => asciiB s && decide (s.size < 4294967281)) = true := by decide +kernel
def verbGo (l : List ByteArray) : Nat → List ByteArray → Int × List ByteArray
  | _, [] => (0, [])
  | i, s :: ss => if (fieldsB s).length ≤ l.length ∧ l.take (fieldsB s).length = fieldsB s then ((i : Int) + 1, l.drop (fieldsB s).length) else verbGo l (i + 1) ss
def verbOf (l : List ByteArray) : Int × List ByteArray := verbGo l 0 vrbs
theorem cut_from {A : Option Addr} {c n : Nat} {l : List ByteArray} (h : n ≤ l.length) (hc : l.length ≤ c) : ∃ A' : Option Addr,
    (∀ W : World, (Instr.slice 22 (.slice A l.length c) (some (.int .i64 (n : Int))) none none).run Tryz.prog W = .ok (.slice A' (l.drop n).length (c - n)) W) ∧
      (∀ w, Kd.C Kd.string w A l.length l → Kd.C Kd.string w A' (l.drop n).length (l.drop n)) ∧ (l.drop n).length ≤ c - n := by
  obtain ⟨i, hi, _, hsz, _⟩ := info_parts info9
  obtain ⟨A', h1, h2, h3⟩ := print_drop_of (P := Tryz.prog) Value.string (⟨#[]⟩ : ByteArray) 22 9 .i64 Tryz.underlying22 hi hsz A c l (n : Int) (by omega) (by omega) hc
  rw [Int.toNat_natCast] at h1 h2 h3
  exact ⟨A', h1, fun w h => Kd.C_of_reads (h1 := fun _ => rfl) (h2 w (Kd.reads_of_C h)), h3⟩
theorem cut_upto {A : Option Addr} {c n : Nat} {l : List ByteArray} (h : n ≤ l.length) (hc : l.length ≤ c) :
    (∀ W : World, (Instr.slice 22 (.slice A l.length c) none (some (.int .i64 (n : Int))) none).run Tryz.prog W = .ok (.slice A (l.take n).length c) W) ∧
      (∀ w, Kd.C Kd.string w A l.length l → Kd.C Kd.string w A (l.take n).length (l.take n)) ∧ (l.take n).length ≤ c := by
  obtain ⟨i, hi, _, hsz, _⟩ := info_parts info9
  obtain ⟨h1, h2, h3⟩ := print_take_of (P := Tryz.prog) Value.string (⟨#[]⟩ : ByteArray) 22 9 .i64 Tryz.underlying22 hi hsz A c l (n : Int) (by omega) (by omega) hc
  rw [Int.toNat_natCast] at h1 h2 h3
  exact ⟨h1, fun w h => Kd.C_of_reads (h1 := fun _ => rfl) (h2 w (Kd.reads_of_C h)), h3⟩
set_option maxRecDepth 100000 in
theorem verb_is (A0 : Option Addr) (c0 : Nat) (l0 : List ByteArray) (w : World) (hT : Aside0 (Tab w)) (hr0 : Kd.C Kd.string w A0 l0.length l0) (hc0 : l0.length ≤ c0) (hm0 : l0.length ≤ 4611686018427387904) :
    Calls Tryz.prog 22 #[.slice A0 l0.length c0] w fun e w' => (∃ A c, e = .returned (.tuple #[.int .i64 (verbOf l0).1, .slice A (verbOf l0).2.length c]) ∧ Kd.C Kd.string w' A (verbOf l0).2.length (verbOf l0).2 ∧ (verbOf l0).2.length ≤ c) ∧ Below w.heap.size w w' := by
  have HR0 := Lib.hid hr0
  have HC0 := Lib.hid hc0
  have HM0 := Lib.hid hm0
  have HB := Lib.hid (Below.refl w.heap.size w)
  clear hr0 hc0 hm0
  go_enter Tryz.func22, Tryz.ntmps22
  go_wp2_with (go_at_call 18; refine (order_Verbs.calls vrbs _ vrbs_f).mono ?_; rintro e w1 ⟨v, rfl, ho, hb⟩; have HV := Lib.hid (Kd.R_reads ho); have HB1 := Lib.hid hb; clear ho hb; obtain ⟨Av, cv, rfl, hcv, hrv⟩ := HV.out; clear HV; have HRV := Lib.hid hrv; clear hrv hcv)
  go_loopg [9] 10 (fun g v9 wr => ∃ i : Nat, i + g = 10 ∧ v9 = .int .i64 (i : Int) ∧ Below w.heap.size w wr ∧ Kd.C Kd.string wr Av vrbs.length vrbs ∧ Kd.C Kd.string wr A0 l0.length l0 ∧ verbGo l0 i (vrbs.drop i) = verbOf l0)
  case atStart => exact ⟨0, by omega, rfl, HB1.out, HRV.out, Kd.C_below HR0.out HB1.out, rfl⟩
  case round =>
    obtain ⟨i, hi, rfl, hb, hv, hl, hg⟩ := hrel
    cases gk with
    | zero =>
      obtain rfl : i = 10 := by omega
      have hv0 : verbOf l0 = (0, []) := by rw [← hg]; rfl
      have q1 : ¬ (10 : Int) < (vrbs.length : Int) := by rw [vrbs_len]; omega
      have HBw := Lib.hid hb
      have HV0 := Lib.hid hv0
      clear hb hv hl hg hv0 hi
      go_wp2
      go_ret2
      refine ⟨⟨none, 0, ?_, ?_, ?_⟩, HBw.out⟩
      · rw [HV0.out]; rfl
      · rw [HV0.out]; exact (Kd.R_reads' (Kd.R_nil Kd.string 0 wr 0 (fun _ => True))).2.2
      · rw [HV0.out]; exact Nat.le_refl _
    | succ g =>
      have hil : i < 10 := by omega
      have hd : vrbs.drop i = vrbs[i]'(by rw [vrbs_len]; exact hil) :: vrbs.drop (i + 1) := List.drop_eq_getElem_cons (by rw [vrbs_len]; exact hil)
      obtain ⟨s, hs⟩ : ∃ s, vrbs[i]'(by rw [vrbs_len]; exact hil) = s := ⟨_, rfl⟩
      have hok := List.all_eq_true.1 vrbs_ok s (by rw [← hs]; exact List.getElem_mem _)
      rw [Bool.and_eq_true, decide_eq_true_eq] at hok
      have hF : strings_Fields.f s = some (fieldsB s) := by unfold strings_Fields.f; rw [if_pos hok]
      have hFl : (fieldsB s).length ≤ 4611686018427387904 := by have := fieldsB_len s; have := hok.2; omega
      obtain ⟨F, hFF⟩ : ∃ F, fieldsB s = F := ⟨_, rfl⟩
      rw [hs] at hd
      rw [hd, verbGo, hFF] at hg
      rw [hFF] at hF hFl
      obtain ⟨ad, ha, hc⟩ := Kd.at_string hv (i : Int) (by omega) (by rw [vrbs_len]; omega)
      rw [rdS_at vrbs i (by rw [vrbs_len]; exact hil), hs, Int.toNat_natCast] at hc
      cases ha
      have q1 : (i : Int) < (vrbs.length : Int) := by rw [vrbs_len]; omega
      have HT1 : Aside0 (Tab wr) := ⟨tab_below hT.out hb⟩
      have HF := Lib.hid (fun W hW => strings_Fields.calls s F W hW hF)
      have HBw := Lib.hid hb
      have HVw := Lib.hid hv
      have HLw := Lib.hid hl
      clear hs hok hFF hF hd hb hv hl
      have HI := Lib.hid hi
      clear hi
      have hwr : wrap64 ((i : Int) + 1) = ((i + 1 : Nat) : Int) := by unfold wrap64; omega
      by_cases hn : F.length ≤ l0.length
      · obtain ⟨hcut, hCr, hCl⟩ := cut_upto (A := A0) (n := F.length) hn HC0.out
        obtain ⟨A', hcut2, hDr, hDl⟩ := cut_from (A := A0) (n := F.length) hn HC0.out
        have hE := eqs_is (l0.take F.length) F (by rw [List.length_take]; omega) (l0.length + 1) (by rw [List.length_take]; omega)
        obtain ⟨y, hy⟩ : ∃ y, l0.take F.length = y := ⟨_, rfl⟩
        obtain ⟨z, hz⟩ : ∃ z, l0.drop F.length = z := ⟨_, rfl⟩
        rw [hy] at hcut hCr hCl hE hg
        rw [hz] at hcut2 hDr hDl hg
        have q2 : (F.length : Int) ≤ (l0.length : Int) := by omega
        have HCr := Lib.hid hCr
        have HCl := Lib.hid hCl
        have HDr := Lib.hid hDr
        have HDl := Lib.hid hDl
        clear hCr hCl hDr hDl hy hz
        by_cases he : y = F
        · rw [decide_eq_true he] at hE
          rw [if_pos ⟨hn, he⟩] at hg
          have HG := Lib.hid hg
          have HE := Lib.hid hE
          clear hg hE he hn
          go_wp2_with (first | (go_at_call 35; refine (HF.out _ HT1).mono ?_; rintro e w2 ⟨v, rfl, ho, hb⟩; have HO := Lib.hid (Kd.R_reads ho); have HB2 := Lib.hid hb; clear ho hb; obtain ⟨Af, cf, rfl, hcf, hrf⟩ := HO.out; clear HO; have HCF := Lib.hid hcf; have HRF := Lib.hid hrf; clear hcf hrf) | (go_at_call 48; refine (slices_Equal_string_string.calls (l0.length + 1) _ _ y _ _ F true _ (HCr.out _ (Kd.C_below HLw.out HB2.out)) HCl.out HRF.out HCF.out HE.out).mono ?_; rintro e w3 ⟨rfl, ⟨nd, rfl⟩⟩))
          repeat (go_quiet (fail))
          go_wp2
          go_ret2
          refine ⟨⟨A', c0 - F.length, ?_, ?_, ?_⟩, ?_⟩
          · rw [← HG.out]
            first | rfl | (simp [hwr]; done)
          · rw [← HG.out]
            repeat (first | exact HDr.out _ (Kd.C_below HLw.out HB2.out) | (with_reducible refine Kd.C_drewN ?_ _) | (with_reducible refine Kd.C_drew ?_))
          · rw [← HG.out]; exact HDl.out
          · repeat (first | exact below_step HBw.out HB2.out | apply below_drew1 | apply pw_below_drewN)
        · rw [decide_eq_false he] at hE
          rw [if_neg (fun h => he h.2)] at hg
          have HG := Lib.hid hg
          have HE := Lib.hid hE
          clear hg hE he hn
          go_wp2_with (first | (go_at_call 35; refine (HF.out _ HT1).mono ?_; rintro e w2 ⟨v, rfl, ho, hb⟩; have HO := Lib.hid (Kd.R_reads ho); have HB2 := Lib.hid hb; clear ho hb; obtain ⟨Af, cf, rfl, hcf, hrf⟩ := HO.out; clear HO; have HCF := Lib.hid hcf; have HRF := Lib.hid hrf; clear hcf hrf) | (go_at_call 48; refine (slices_Equal_string_string.calls (l0.length + 1) _ _ y _ _ F false _ (HCr.out _ (Kd.C_below HLw.out HB2.out)) HCl.out HRF.out HCF.out HE.out).mono ?_; rintro e w3 ⟨rfl, ⟨nd, rfl⟩⟩))
          go_roundg g
          case measure => omega
          case rel => exact ⟨i + 1, by have := HI.out; omega, rfl, by repeat (first | exact below_step HBw.out HB2.out | apply below_drew1 | apply pw_below_drewN), by repeat (first | exact Kd.C_below HVw.out HB2.out | (with_reducible refine Kd.C_drewN ?_ _) | (with_reducible refine Kd.C_drew ?_)), by repeat (first | exact Kd.C_below HLw.out HB2.out | (with_reducible refine Kd.C_drewN ?_ _) | (with_reducible refine Kd.C_drew ?_)), HG.out⟩
      · rw [if_neg (fun h => hn h.1)] at hg
        have q2 : ¬ (F.length : Int) ≤ (l0.length : Int) := by omega
        have HG := Lib.hid hg
        clear hg hn
        go_wp2_with (first | (go_at_call 35; refine (HF.out _ HT1).mono ?_; rintro e w2 ⟨v, rfl, ho, hb⟩; have HO := Lib.hid (Kd.R_reads ho); have HB2 := Lib.hid hb; clear ho hb; obtain ⟨Af, cf, rfl, hcf, hrf⟩ := HO.out; clear HO; have HCF := Lib.hid hcf; have HRF := Lib.hid hrf; clear hcf hrf))
        go_roundg g
        case measure => omega
        case rel => exact ⟨i + 1, by have := HI.out; omega, rfl, below_step HBw.out HB2.out, Kd.C_below HVw.out HB2.out, Kd.C_below HLw.out HB2.out, HG.out⟩
end Go.Proofs.YtlglbpjccpdloaaGreatDoor.Ext
namespace Go.Proofs.YtlglbpjccpdloaaGreatDoor.PToxA
open Go.Proofs.YtlglbpjccpdloaaGreatDoor.Ext Go.RowKit Go.Proofs.YtlglbpjccpdloaaGreatDoorW.PrintWords Go.Proofs.YtlglbpjccpdloaaGreatDoorW.PrintLast Go.Proofs.YtlglbpjccpdloaaGreatDoorW.PrintMore
attribute [local go_sem] max2_int min2_int max_two min_two max_three min_three max_four min_four   -- for this text's walks alone
set_option linter.unusedVariables false
set_option linter.unusedSimpArgs false
def errW : Option Int → Value
 | none => .nilIface
 | some c => .iface 0 (.int .i64 c)
theorem errW_none : errW none = .nilIface := rfl
theorem errW_some (c : Int) : errW (some c) = .iface 0 (.int .i64 c) := rfl
end Go.Proofs.YtlglbpjccpdloaaGreatDoor.PToxA
namespace Go.Proofs.YtlglbpjccpdloaaGreatDoor.PToxA
open Go.Proofs.YtlglbpjccpdloaaGreatDoor.Ext Go.RowKit Go.Proofs.YtlglbpjccpdloaaGreatDoorW.PrintWords Go.Proofs.YtlglbpjccpdloaaGreatDoorW.PrintLast Go.Proofs.YtlglbpjccpdloaaGreatDoorW.PrintMore
attribute [local go_sem] max2_int min2_int max_two min_two max_three min_three max_four min_four   -- for this text's walks alone
set_option linter.unusedVariables false
set_option linter.unusedSimpArgs false
def toxic_words.f  : Option (List ByteArray) := some (([(⟨#[]⟩ : ByteArray), (⟨#[108, 97, 116, 101, 110, 99, 121]⟩ : ByteArray), (⟨#[98, 97, 110, 100, 119, 105, 100, 116, 104]⟩ : ByteArray), (⟨#[115, 108, 105, 99, 101, 114]⟩ : ByteArray), (⟨#[116, 105, 109, 101, 111, 117, 116]⟩ : ByteArray), (⟨#[114, 101, 115, 101, 116, 95, 112, 101, 101, 114]⟩ : ByteArray), (⟨#[108, 105, 109, 105, 116, 95, 100, 97, 116, 97]⟩ : ByteArray), (⟨#[115, 108, 111, 119, 95, 99, 108, 111, 115, 101]⟩ : ByteArray)] : List ByteArray))
set_option maxHeartbeats 8000000 in
set_option maxRecDepth 100000 in
theorem toxic_words.calls  (r : List ByteArray) (w : World) (h : toxic_words.f  = some r) :
  Calls Tryz.prog 86 #[] w fun e w' => ∃ v0_ : Value, e = .returned (v0_) ∧ Kd.R Kd.string 9 w' w.heap.size (fun _ => True) v0_ r ∧ Below w.heap.size w w' := by
 have HB := Aside0.mk (Below.refl w.heap.size w)
 have H : (some (([(⟨#[]⟩ : ByteArray), (⟨#[108, 97, 116, 101, 110, 99, 121]⟩ : ByteArray), (⟨#[98, 97, 110, 100, 119, 105, 100, 116, 104]⟩ : ByteArray), (⟨#[115, 108, 105, 99, 101, 114]⟩ : ByteArray), (⟨#[116, 105, 109, 101, 111, 117, 116]⟩ : ByteArray), (⟨#[114, 101, 115, 101, 116, 95, 112, 101, 101, 114]⟩ : ByteArray), (⟨#[108, 105, 109, 105, 116, 95, 100, 97, 116, 97]⟩ : ByteArray), (⟨#[115, 108, 111, 119, 95, 99, 108, 111, 115, 101]⟩ : ByteArray)] : List ByteArray))) = some r := h
 clear h
 obtain ⟨y101, hy101⟩ : ∃ y_ : List ByteArray, y_ = (([(⟨#[]⟩ : ByteArray), (⟨#[108, 97, 116, 101, 110, 99, 121]⟩ : ByteArray), (⟨#[98, 97, 110, 100, 119, 105, 100, 116, 104]⟩ : ByteArray), (⟨#[115, 108, 105, 99, 101, 114]⟩ : ByteArray), (⟨#[116, 105, 109, 101, 111, 117, 116]⟩ : ByteArray), (⟨#[114, 101, 115, 101, 116, 95, 112, 101, 101, 114]⟩ : ByteArray), (⟨#[108, 105, 109, 105, 116, 95, 100, 97, 116, 97]⟩ : ByteArray), (⟨#[115, 108, 111, 119, 95, 99, 108, 111, 115, 101]⟩ : ByteArray)] : List ByteArray)) := ⟨_, rfl⟩
 replace H : (some y101) = some r := by first | (rw [hy101]; with_reducible exact H) | (have H2_ := (Option.bind_some _ _).symm.trans H; rw [hy101]; with_reducible exact H2_) | (have H2_ := (Option.bind_some _ _).symm.trans H; with_reducible exact H2_) | with_reducible exact H | (rw [hy101]; exact H) | exact H
 have Ny101 := Aside0.mk hy101
 clear hy101
 obtain rfl := Option.some.inj H
 go_enter Tryz.func86, Tryz.ntmps86
 go_wp2_with (first | ((with_reducible refine gate_dst (N := 1) rfl ?_); refine Kd.R_lit Kd.string _ 9 ?hg (N := 1) ?hd (xs := ([(⟨#[]⟩ : ByteArray), (⟨#[108, 97, 116, 101, 110, 99, 121]⟩ : ByteArray), (⟨#[98, 97, 110, 100, 119, 105, 100, 116, 104]⟩ : ByteArray), (⟨#[115, 108, 105, 99, 101, 114]⟩ : ByteArray), (⟨#[116, 105, 109, 101, 111, 117, 116]⟩ : ByteArray), (⟨#[114, 101, 115, 101, 116, 95, 112, 101, 101, 114]⟩ : ByteArray), (⟨#[108, 105, 109, 105, 116, 95, 100, 97, 116, 97]⟩ : ByteArray), (⟨#[115, 108, 111, 119, 95, 99, 108, 111, 115, 101]⟩ : ByteArray)] : List ByteArray)) (inner := [.string (⟨#[]⟩ : ByteArray), .string (⟨#[108, 97, 116, 101, 110, 99, 121]⟩ : ByteArray), .string (⟨#[98, 97, 110, 100, 119, 105, 100, 116, 104]⟩ : ByteArray), .string (⟨#[115, 108, 105, 99, 101, 114]⟩ : ByteArray), .string (⟨#[116, 105, 109, 101, 111, 117, 116]⟩ : ByteArray), .string (⟨#[114, 101, 115, 101, 116, 95, 112, 101, 101, 114]⟩ : ByteArray), .string (⟨#[108, 105, 109, 105, 116, 95, 100, 97, 116, 97]⟩ : ByteArray), .string (⟨#[115, 108, 111, 119, 95, 99, 108, 111, 115, 101]⟩ : ByteArray)]) (ok := fun _ => True) (okp := fun _ => True) ?hr ?hp (fun _ hk => hk) trivial (Below.refl _ _) (Nat.le_refl _) (by simp) ?_; (case hd => rfl); (case hg => rfl); (case hr => first | (go_simp; done) | (go_simp; rfl)); (case hp => exact (Reps.one (show Kd.M Kd.string _ _ _ (⟨#[]⟩ : ByteArray) [.string (⟨#[]⟩ : ByteArray)] from rfl) (Reps.one (show Kd.M Kd.string _ _ _ (⟨#[108, 97, 116, 101, 110, 99, 121]⟩ : ByteArray) [.string (⟨#[108, 97, 116, 101, 110, 99, 121]⟩ : ByteArray)] from rfl) (Reps.one (show Kd.M Kd.string _ _ _ (⟨#[98, 97, 110, 100, 119, 105, 100, 116, 104]⟩ : ByteArray) [.string (⟨#[98, 97, 110, 100, 119, 105, 100, 116, 104]⟩ : ByteArray)] from rfl) (Reps.one (show Kd.M Kd.string _ _ _ (⟨#[115, 108, 105, 99, 101, 114]⟩ : ByteArray) [.string (⟨#[115, 108, 105, 99, 101, 114]⟩ : ByteArray)] from rfl) (Reps.one (show Kd.M Kd.string _ _ _ (⟨#[116, 105, 109, 101, 111, 117, 116]⟩ : ByteArray) [.string (⟨#[116, 105, 109, 101, 111, 117, 116]⟩ : ByteArray)] from rfl) (Reps.one (show Kd.M Kd.string _ _ _ (⟨#[114, 101, 115, 101, 116, 95, 112, 101, 101, 114]⟩ : ByteArray) [.string (⟨#[114, 101, 115, 101, 116, 95, 112, 101, 101, 114]⟩ : ByteArray)] from rfl) (Reps.one (show Kd.M Kd.string _ _ _ (⟨#[108, 105, 109, 105, 116, 95, 100, 97, 116, 97]⟩ : ByteArray) [.string (⟨#[108, 105, 109, 105, 116, 95, 100, 97, 116, 97]⟩ : ByteArray)] from rfl) (Reps.one (show Kd.M Kd.string _ _ _ (⟨#[115, 108, 111, 119, 95, 99, 108, 111, 115, 101]⟩ : ByteArray) [.string (⟨#[115, 108, 111, 119, 95, 99, 108, 111, 115, 101]⟩ : ByteArray)] from rfl) (Reps.none _ _)))))))))); intro v102 w1 ho2 hb hg_ hnew_; clear hg_ hnew_; (first | rw [← Ny101.out] at ho2 | (simp only [Int.reduceToNat] at ho2; rw [← Ny101.out] at ho2)); have n0_ := Aside0.mk (Kd.R_lower ho2 (below_size (by repeat (first | (with_reducible first | exact HB.out | apply below_alloc | apply pw_below_drewN | apply below_drew1) | exact HB.out)))); have n1_ := Aside0.mk (below_step (by repeat (first | (with_reducible first | exact HB.out | apply below_alloc | apply pw_below_drewN | apply below_drew1) | exact HB.out)) hb); clear HB; have HO103 := n0_; have HB := n1_; clear n0_ n1_; clear hb ho2))
 go_ret
 exact ⟨_, by first | rfl | (simp [errW_none, errW_some] <;> rfl) | (simp [*, errW_none, errW_some] <;> rfl), by (with_reducible repeat (first | apply Kd.R_alloc | apply Kd.R_drewN | apply Kd.R_drew)); exact HO103.out, by repeat (first | (with_reducible first | exact HB.out | apply below_alloc | apply pw_below_drewN | apply below_drew1) | exact HB.out)⟩
def toxic_Word.f (a0 : Int) : Option (ByteArray) := if a0 < 0 then (some (⟨#[]⟩ : ByteArray)) else (if a0 > 7 then (some (⟨#[]⟩ : ByteArray)) else ((toxic_words.f).bind fun t104 => (if 0 ≤ a0 then (if a0 < (t104.length : Int) then (some (rdOf ByteArray.empty t104 a0)) else (none)) else (none))))
set_option maxHeartbeats 8000000 in
set_option maxRecDepth 100000 in
theorem toxic_Word.calls (a0 : Int) (r : ByteArray) (w : World) (h : toxic_Word.f a0 = some r) :
  Calls Tryz.prog 59 #[.int .i64 a0] w fun e w' => e = .returned (.string r) ∧ Below w.heap.size w w' := by
 have HB := Aside0.mk (Below.refl w.heap.size w)
 have H : (if a0 < 0 then (some (⟨#[]⟩ : ByteArray)) else (if a0 > 7 then (some (⟨#[]⟩ : ByteArray)) else ((toxic_words.f).bind fun t104 => (if 0 ≤ a0 then (if a0 < (t104.length : Int) then (some (rdOf ByteArray.empty t104 a0)) else (none)) else (none))))) = some r := h
 clear h
 by_cases c2 : a0 < 0
 ·rw [if_pos c2] at H
  have c2b0 : decide (a0 < 0) = true := decide_eq_true c2
  clear c2
  obtain rfl := Option.some.inj H
  go_enter Tryz.func59, Tryz.ntmps59
  go_wp2
  go_ret
  exact ⟨by first | rfl | (simp [errW_none, errW_some] <;> rfl) | (simp [*, errW_none, errW_some] <;> rfl), by repeat (first | (with_reducible first | exact HB.out | apply below_alloc | apply pw_below_drewN | apply below_drew1) | exact HB.out)⟩
 ·rw [if_neg c2] at H
  have c2b0 : decide (a0 < 0) = false := decide_eq_false c2
  clear c2
  by_cases c3 : a0 > 7
  ·rw [if_pos c3] at H
   have c3b0 : decide (7 < a0) = true := decide_eq_true c3
   clear c3
   obtain rfl := Option.some.inj H
   go_enter Tryz.func59, Tryz.ntmps59
   go_wp2
   go_ret
   exact ⟨by first | rfl | (simp [errW_none, errW_some] <;> rfl) | (simp [*, errW_none, errW_some] <;> rfl), by repeat (first | (with_reducible first | exact HB.out | apply below_alloc | apply pw_below_drewN | apply below_drew1) | exact HB.out)⟩
  ·rw [if_neg c3] at H
   have c3b0 : decide (7 < a0) = false := decide_eq_false c3
   clear c3
   replace H := Option.bind_eq_some_iff.mp H
   obtain ⟨t104, A40, H⟩ := H
   replace H : (if 0 ≤ a0 then (if a0 < (t104.length : Int) then (some (rdOf ByteArray.empty t104 a0)) else (none)) else (none)) = some r := H
   have A4 := Aside0.mk A40
   clear A40
   by_cases c5 : 0 ≤ a0
   ·rw [if_pos c5] at H
    have c5b0 : decide (0 ≤ a0) = true := decide_eq_true c5
    clear c5
    by_cases c6 : a0 < (t104.length : Int)
    ·rw [if_pos c6] at H
     have c6b0 : decide (a0 < (t104.length : Int)) = true := decide_eq_true c6
     clear c6
     obtain rfl := Option.some.inj H
     go_enter Tryz.func59, Tryz.ntmps59
     go_wp2_with (first | ((with_reducible refine gate_callee (f := 86) rfl ?_); refine goesL_ (some 9) rfl rfl Tryz.func86 (by kernel_rfl) rfl #[] rfl (by (try simp only [List.map_toArray, List.map_cons, List.map_nil]); first | done | rfl | (simp only [List.length_drop, List.length_take]; rfl)) ?_; (with_reducible refine (toxic_words.calls  t104 _ A4.out).mono ?_); rintro e w7 ⟨v105, rfl, ho0, hb⟩; refine ⟨_, rfl, ?_⟩; have n0_ := Aside0.mk (Kd.R_lower ho0 (below_size (by repeat (first | (with_reducible first | exact HB.out | apply below_alloc | apply pw_below_drewN | apply below_drew1) | exact HB.out)))); have n1_ := Aside0.mk (below_step (by repeat (first | (with_reducible first | exact HB.out | apply below_alloc | apply pw_below_drewN | apply below_drew1) | exact HB.out)) hb); clear HB; have HO106 := n0_; have HB := n1_; clear n0_ n1_; (try clear hb); (try clear hb2); (try clear hk); (try clear hi); (try clear ho0); obtain ⟨Ao8, co8, eo8⟩ := Kd.R_slice HO106.out; subst eo8; have p107 : 0 ≤ (a0 : Int) := of_decide_eq_true (by first | (with_reducible assumption) | assumption); have q107 : a0 < (t104.length : Int) := of_decide_eq_true (by first | (with_reducible assumption) | assumption); obtain ⟨ad107, e107, hx107_0⟩ := Kd.at_string (Kd.R_reads' HO106.out).2.2 a0 p107 q107; cases e107; replace p107 := eq_true p107; replace q107 := eq_true q107))
     go_ret
     exact ⟨by first | rfl | (simp [errW_none, errW_some] <;> rfl) | (simp [*, errW_none, errW_some] <;> rfl), by repeat (first | (with_reducible first | exact HB.out | apply below_alloc | apply pw_below_drewN | apply below_drew1) | exact HB.out)⟩
    ·rw [if_neg c6] at H
     exact absurd H (by simp)
   ·rw [if_neg c5] at H
    exact absurd H (by simp)
def toxic_Numbers.f (a0 : Int) : Option (Int) := (toxic_Word.f a0).bind fun t108 => (if t108.toList = ([] : List UInt8) then (some 0) else (if a0 ≤ 3 then (some 2) else (some 1)))
set_option maxHeartbeats 8000000 in
set_option maxRecDepth 100000 in
theorem toxic_Numbers.calls (a0 : Int) (r : Int) (w : World) (h : toxic_Numbers.f a0 = some r) :
  Calls Tryz.prog 61 #[.int .i64 a0] w fun e w' => e = .returned (.int .i64 r) ∧ Below w.heap.size w w' := by
 have HB := Aside0.mk (Below.refl w.heap.size w)
 have H : ((toxic_Word.f a0).bind fun t108 => (if t108.toList = ([] : List UInt8) then (some 0) else (if a0 ≤ 3 then (some 2) else (some 1)))) = some r := h
 clear h
 replace H := Option.bind_eq_some_iff.mp H
 obtain ⟨t108, A20, H⟩ := H
 replace H : (if t108.toList = ([] : List UInt8) then (some 0) else (if a0 ≤ 3 then (some 2) else (some 1))) = some r := H
 have A2 := Aside0.mk A20
 clear A20
 by_cases c3 : t108.toList = ([] : List UInt8)
 ·rw [if_pos c3] at H
  have c3b0 : (t108.toList == ([] : List UInt8)) = true := beq_iff_eq.mpr c3
  have c3b1 : (t108.toList != ([] : List UInt8)) = false := bne_eq_false_iff_eq.mpr c3
  clear c3
  obtain rfl := Option.some.inj H
  go_enter Tryz.func61, Tryz.ntmps61
  go_wp2_with (first | ((with_reducible refine gate_callee (f := 59) rfl ?_); refine goesL_ (some 5) rfl rfl Tryz.func59 (by kernel_rfl) rfl #[.int .i64 a0] rfl (by (try simp only [List.map_toArray, List.map_cons, List.map_nil]); first | done | rfl | (simp only [List.length_drop, List.length_take]; rfl)) ?_; (with_reducible refine (toxic_Word.calls a0 t108 _ A2.out).mono ?_); rintro e w4 ⟨rfl, hb⟩; refine ⟨_, rfl, ?_⟩; have n0_ := Aside0.mk (below_step (by repeat (first | (with_reducible first | exact HB.out | apply below_alloc | apply pw_below_drewN | apply below_drew1) | exact HB.out)) hb); clear HB; have HB := n0_; clear n0_; (try clear hb); (try clear hb2); (try clear hk); (try clear hi)))
  go_ret
  exact ⟨by first | rfl | (simp [errW_none, errW_some] <;> rfl) | (simp [*, errW_none, errW_some] <;> rfl), by repeat (first | (with_reducible first | exact HB.out | apply below_alloc | apply pw_below_drewN | apply below_drew1) | exact HB.out)⟩
 ·rw [if_neg c3] at H
  have c3b0 : (t108.toList == ([] : List UInt8)) = false := beq_eq_false_iff_ne.mpr c3
  have c3b1 : (t108.toList != ([] : List UInt8)) = true := bne_iff_ne.mpr c3
  by_cases c5 : a0 ≤ 3
  ·rw [if_pos c5] at H
   have c5b0 : decide (a0 ≤ 3) = true := decide_eq_true c5
   clear c5
   obtain rfl := Option.some.inj H
   go_enter Tryz.func61, Tryz.ntmps61
   go_wp2_with (first | ((with_reducible refine gate_callee (f := 59) rfl ?_); refine goesL_ (some 5) rfl rfl Tryz.func59 (by kernel_rfl) rfl #[.int .i64 a0] rfl (by (try simp only [List.map_toArray, List.map_cons, List.map_nil]); first | done | rfl | (simp only [List.length_drop, List.length_take]; rfl)) ?_; (with_reducible refine (toxic_Word.calls a0 t108 _ A2.out).mono ?_); rintro e w6 ⟨rfl, hb⟩; refine ⟨_, rfl, ?_⟩; have n0_ := Aside0.mk (below_step (by repeat (first | (with_reducible first | exact HB.out | apply below_alloc | apply pw_below_drewN | apply below_drew1) | exact HB.out)) hb); clear HB; have HB := n0_; clear n0_; (try clear hb); (try clear hb2); (try clear hk); (try clear hi)))
   go_ret
   exact ⟨by first | rfl | (simp [errW_none, errW_some] <;> rfl) | (simp [*, errW_none, errW_some] <;> rfl), by repeat (first | (with_reducible first | exact HB.out | apply below_alloc | apply pw_below_drewN | apply below_drew1) | exact HB.out)⟩
  ·rw [if_neg c5] at H
   have c5b0 : decide (a0 ≤ 3) = false := decide_eq_false c5
   clear c5
   obtain rfl := Option.some.inj H
   go_enter Tryz.func61, Tryz.ntmps61
   go_wp2_with (first | ((with_reducible refine gate_callee (f := 59) rfl ?_); refine goesL_ (some 5) rfl rfl Tryz.func59 (by kernel_rfl) rfl #[.int .i64 a0] rfl (by (try simp only [List.map_toArray, List.map_cons, List.map_nil]); first | done | rfl | (simp only [List.length_drop, List.length_take]; rfl)) ?_; (with_reducible refine (toxic_Word.calls a0 t108 _ A2.out).mono ?_); rintro e w7 ⟨rfl, hb⟩; refine ⟨_, rfl, ?_⟩; have n0_ := Aside0.mk (below_step (by repeat (first | (with_reducible first | exact HB.out | apply below_alloc | apply pw_below_drewN | apply below_drew1) | exact HB.out)) hb); clear HB; have HB := n0_; clear n0_; (try clear hb); (try clear hb2); (try clear hk); (try clear hi)))
   go_ret
   exact ⟨by first | rfl | (simp [errW_none, errW_some] <;> rfl) | (simp [*, errW_none, errW_some] <;> rfl), by repeat (first | (with_reducible first | exact HB.out | apply below_alloc | apply pw_below_drewN | apply below_drew1) | exact HB.out)⟩
def slices_Index_string_string.l0 : Nat → List ByteArray → ByteArray → Int → Int → Option (Int)
 | 0, _, _, _, _ => none
 | k + 1, x0, x1, x7, x8 => if x8 < x7 then (if 0 ≤ x8 then (if x8 < (x0.length : Int) then (if x1.toList = (rdOf ByteArray.empty x0 x8).toList then (some x8) else (slices_Index_string_string.l0 k x0 x1 x7 (wrap64 (x8 + 1)))) else (none)) else (none)) else (some (-1))
def slices_Index_string_string.f (k : Nat) (l0 : List ByteArray) (a1 : ByteArray) : Option (Int) := slices_Index_string_string.l0 k l0 a1 (l0.length : Int) 0
def toxic_Kind.f (k : Nat) (a0 : ByteArray) : Option (Int) := (toxic_words.f).bind fun t110 => ((slices_Index_string_string.f k t110 a0).bind fun t113 => (some (mx t113 0)))
def toxic_way.f (a0 : Bool) : Option (ByteArray) := if a0 = true then (some (⟨#[117, 112]⟩ : ByteArray)) else (some (⟨#[100, 111, 119, 110]⟩ : ByteArray))
def slices_Contains_string_string.f (k : Nat) (l0 : List ByteArray) (a1 : ByteArray) : Option (Bool) := (slices_Index_string_string.f k l0 a1).bind fun t114 => (some (decide (t114 ≥ 0)))
def tick_Right.f (a0 : Int) : Option (Bool) := if a0 ≥ 0 then (some (decide (a0 ≤ 1099511627776))) else (some false)
end Go.Proofs.YtlglbpjccpdloaaGreatDoor.PToxA
set_option linter.unusedVariables false
set_option linter.unusedSimpArgs false
namespace Go.Proofs.YtlglbpjccpdloaaGreatDoor.Ext
open Go.RowKit Go.Proofs.YtlglbpjccpdloaaGreatDoor.PToxA Go.Proofs.YtlglbpjccpdloaaGreatDoorW.PrintWords Go.Proofs.YtlglbpjccpdloaaGreatDoorW.PrintLast
def ruleMap (b : Nat) : List (Int × Value) :=
  [(1, .func (.func 117) #[] #[]), (2, .func (.func 118) #[] #[.pointer (some ⟨b, 0, none⟩)]), (3, .func (.func 119) #[] #[.pointer (some ⟨b, 0, none⟩)]),
    (4, .func (.func 115) #[] #[]), (5, .func (.func 115) #[] #[])]
set_option maxRecDepth 100000 in
theorem rules_walk (w : World) :
    Calls Tryz.prog 99 #[] w fun e w' => e = .returned (.map (some (w.heap.size + 1))) ∧ Below w.heap.size w w' ∧ GMap Tryz.prog 3 ik iok id w' (w.heap.size + 1) (ruleMap w.heap.size) ∧ w'.cell? ⟨w.heap.size, 0, none⟩ = some (.func (.func 116) #[] #[]) := by
  have hmm := @run_makeMap Tryz.prog
  have K := int_like Tryz.underlying3
  have hu := Tryz.underlying127
  have h0 : GMap Tryz.prog 3 ik iok id ((w.alloc (Obj.cells #[Value.func (Fn.func 116) #[] #[]] 47)).alloc (Obj.map #[] 0)) (w.heap.size + 1) ([] : List (Int × Value)) := by
    have := GMap.made (P := Tryz.prog) (kt := 3) (kf := ik) (ok := iok) (vf := (id : Value → Value)) (w.alloc (Obj.cells #[Value.func (Fn.func 116) #[] #[]] 47))
    rw [show (w.alloc (Obj.cells #[Value.func (Fn.func 116) #[] #[]] 47)).heap.size = w.heap.size + 1 from by simp] at this
    exact this
  obtain ⟨w1, r1, g1, o1⟩ := h0.update K hu 1 (by unfold iok; rfl) (Value.func (Fn.func 117) #[] #[])
  obtain ⟨w2, r2, g2, o2⟩ := g1.update K hu 2 (by unfold iok; rfl) (Value.func (Fn.func 118) #[] #[Value.pointer (some ⟨w.heap.size, 0, none⟩)])
  obtain ⟨w3, r3, g3, o3⟩ := g2.update K hu 3 (by unfold iok; rfl) (Value.func (Fn.func 119) #[] #[Value.pointer (some ⟨w.heap.size, 0, none⟩)])
  obtain ⟨w4, r4, g4, o4⟩ := g3.update K hu 4 (by unfold iok; rfl) (Value.func (Fn.func 115) #[] #[])
  obtain ⟨w5, r5, g5, o5⟩ := g4.update K hu 5 (by unfold iok; rfl) (Value.func (Fn.func 115) #[] #[])
  have R1 : (Instr.mapUpdate 127 (Value.map (some (w.heap.size + 1))) (Value.int IntKind.i64 1) (Value.func (Fn.func 117) #[] #[])).run Tryz.prog ((w.alloc (Obj.cells #[Value.func (Fn.func 116) #[] #[]] 47)).alloc (Obj.map #[] 0)) = .ok () w1 := r1
  have R2 : (Instr.mapUpdate 127 (Value.map (some (w.heap.size + 1))) (Value.int IntKind.i64 2) (Value.func (Fn.func 118) #[] #[Value.pointer (some ⟨w.heap.size, 0, none⟩)])).run Tryz.prog w1 = .ok () w2 := r2
  have R3 : (Instr.mapUpdate 127 (Value.map (some (w.heap.size + 1))) (Value.int IntKind.i64 3) (Value.func (Fn.func 119) #[] #[Value.pointer (some ⟨w.heap.size, 0, none⟩)])).run Tryz.prog w2 = .ok () w3 := r3
  have R4 : (Instr.mapUpdate 127 (Value.map (some (w.heap.size + 1))) (Value.int IntKind.i64 4) (Value.func (Fn.func 115) #[] #[])).run Tryz.prog w3 = .ok () w4 := r4
  have R5 : (Instr.mapUpdate 127 (Value.map (some (w.heap.size + 1))) (Value.int IntKind.i64 5) (Value.func (Fn.func 115) #[] #[])).run Tryz.prog w4 = .ok () w5 := r5
  have hm : GMap Tryz.prog 3 ik iok id w5 (w.heap.size + 1) (ruleMap w.heap.size) := g5
  have ho : Only (· = w.heap.size + 1) ((w.alloc (Obj.cells #[Value.func (Fn.func 116) #[] #[]] 47)).alloc (Obj.map #[] 0)) w5 := (((o1.then_ o2).then_ o3).then_ o4).then_ o5
  have hc : w5.cell? ⟨w.heap.size, 0, none⟩ = some (.func (.func 116) #[] #[]) := by
    refine ho.cell ?_ (by simp)
    simp [World.cell?, (heap_two w (Obj.cells #[Value.func (Fn.func 116) #[] #[]] 47) (Obj.map #[] 0)).1]
  have hb : Below w.heap.size w w5 := Below.only (((Below.refl _ w).alloc (Nat.le_refl _) _).alloc (by simp) _) ho (by simp; omega) (fun k hk => by omega)
  clear r1 r2 r3 r4 r5 g1 g2 g3 g4 g5 o1 o2 o3 o4 o5 h0 K hu
  have HM := Lib.hid hm
  have HC := Lib.hid hc
  have HB := Lib.hid hb
  clear hm hc hb ho
  go_enter Tryz.func99, Tryz.ntmps99
  go_wp2_with fail
  go_ret
  exact ⟨rfl, HB.out, HM.out, HC.out⟩
set_option maxRecDepth 100000 in
theorem rule1 (a b : Int) (w : World) :
    Calls Tryz.prog 115 #[.int .i64 a, .int .i64 b] w fun e w' => e = .returned (.bool (decide (0 < a))) ∧ w = w' := by
  go_enter Tryz.func115, Tryz.ntmps115
  go_wp2
  go_ret
  exact ⟨rfl, rfl⟩
set_option maxRecDepth 100000 in
theorem rule3 (a b : Int) (w : World) :
    Calls Tryz.prog 117 #[.int .i64 a, .int .i64 b] w fun e w' => e = .returned (.bool (decide (b ≤ a))) ∧ w = w' := by
  go_enter Tryz.func117, Tryz.ntmps117
  go_wp2
  go_ret
  exact ⟨rfl, rfl⟩
set_option maxRecDepth 100000 in
theorem room (a : Int) (w : World) :
    Calls Tryz.prog 116 #[.int .i64 a] w fun e w' => e = .returned (.bool (decide (1 ≤ a) && decide (a ≤ 4096))) ∧ w = w' := by
  go_enter Tryz.func116, Tryz.ntmps116
  by_cases h : 1 ≤ a
  all_goals
    go_wp2
    go_ret
    exact ⟨by first | (simp [h]; done) | (simp; omega), rfl⟩
set_option maxRecDepth 100000 in
theorem rule4 (a b : Int) (p : Nat) (w : World) (hc : w.cell? ⟨p, 0, none⟩ = some (.func (.func 116) #[] #[])) :
    Calls Tryz.prog 118 #[.int .i64 a, .int .i64 b, .pointer (some ⟨p, 0, none⟩)] w fun e w' => e = .returned (.bool (decide (1 ≤ b) && decide (b ≤ 4096))) ∧ w = w' := by
  go_enter Tryz.func118, Tryz.ntmps118
  go_wp2_with (first | (refine (room b _).mono ?_; rintro e w1 ⟨rfl, rfl⟩) | fail)
  go_ret
  exact ⟨rfl, rfl⟩
set_option maxRecDepth 100000 in
theorem rule5 (a b : Int) (p : Nat) (w : World) (hc : w.cell? ⟨p, 0, none⟩ = some (.func (.func 116) #[] #[])) :
    Calls Tryz.prog 119 #[.int .i64 a, .int .i64 b, .pointer (some ⟨p, 0, none⟩)] w fun e w' => e = .returned (.bool (decide (1 ≤ a) && decide (a ≤ 4096))) ∧ w = w' := by
  go_enter Tryz.func119, Tryz.ntmps119
  go_wp2_with (first | (refine (room a _).mono ?_; rintro e w1 ⟨rfl, rfl⟩) | fail)
  go_ret
  exact ⟨rfl, rfl⟩
def tickOk (a : Int) : Bool := decide (0 ≤ a) && decide (a ≤ 1099511627776)
def ruleOk (kind a b : Int) : Bool :=
  if kind = 1 then decide (b ≤ a) else if kind = 2 then decide (1 ≤ b) && decide (b ≤ 4096) else if kind = 3 then decide (1 ≤ a) && decide (a ≤ 4096)
  else if kind = 4 ∨ kind = 5 then decide (0 < a) else true
def numbersOk (kind a b : Int) : Bool := tickOk a && tickOk b && (b == 0 || decide (kind ≤ 3)) && ruleOk kind a b
def toxic_numbers.f (a0 : ByteArray) (a1 : Int) (a2 : Bool) (a3 a4 a5 : Int) : Option Bool := if 1 ≤ a1 ∧ a1 ≤ 7 then some (numbersOk a1 a4 a5) else none
set_option maxRecDepth 100000 in
theorem lookup_rule (W : World) (b : Nat) (h : GMap Tryz.prog 3 ik iok id W (b + 1) (ruleMap b)) (kind : Int) (hk : iok kind) :
    (Instr.lookup 127 (.map (some (b + 1))) (.int .i64 kind) false).run Tryz.prog W = .ok (match mget (ruleMap b) kind with | some v => v | none => .nilFunc) W := by
  have := h.lookup (int_like Tryz.underlying3) Tryz.underlying127 (z := .nilFunc) (by rfl) kind hk false
  rw [show ik kind = Value.int .i64 kind from rfl] at this
  rw [this]
  cases mget (ruleMap b) kind <;> rfl
set_option maxRecDepth 100000 in
theorem numbers_1 (s : ByteArray) (up : Bool) (o a b : Int) (w : World) :
    Calls Tryz.prog 84 #[.agg #[.string s, .int .i64 1, .bool up, .int .i64 o, .int .i64 a, .int .i64 b]] w fun e w' => e = .returned (.bool (numbersOk 1 a b)) ∧ Below w.heap.size w w' := by
  have HRA := right_any a
  have HRB := right_any b
  rw [show (decide (0 ≤ a) && decide (a ≤ 1099511627776)) = tickOk a from rfl] at HRA
  rw [show (decide (0 ≤ b) && decide (b ≤ 1099511627776)) = tickOk b from rfl] at HRB
  have hres : numbersOk 1 a b = (tickOk a && tickOk b && (b == 0 || true) && decide (b ≤ a)) := rfl
  rw [hres]
  clear hres
  go_enter Tryz.func84, Tryz.ntmps84
  go_wp2_with fail
  go_region_held3 (fun W => W.cell? ⟨w.heap.size, 1, none⟩ = some (.int .i64 1))
    (first | go_keep | exact cell_later hb1 (by assumption))
    (first | (go_at_call 99; refine (rules_walk _).mono ?_; rintro e W1 ⟨rfl, hb1, hm1, hc1⟩; have hlk : (Instr.lookup 127 (.map (some (w.heap.size + 1 + 1))) (.int .i64 1) false).run Tryz.prog W1 = .ok (.func (.func 117) #[] #[]) W1 := lookup_rule W1 (w.heap.size + 1) (by simpa using hm1) 1 (by unfold iok; rfl); have hc2 : W1.cell? ⟨w.heap.size + 1, 0, none⟩ = some (.func (.func 116) #[] #[]) := (by simpa using hc1); clear hc1 hm1))
  have hA : W1.cell? ⟨w.heap.size, 4, none⟩ = some (.int .i64 a) := cell_later hb1 (by simp)
  have hB : W1.cell? ⟨w.heap.size, 5, none⟩ = some (.int .i64 b) := cell_later hb1 (by simp)
  have hK : W1.cell? ⟨w.heap.size, 1, none⟩ = some (.int .i64 1) := cell_later hb1 (by simp)
  have hB1 : Below w.heap.size w W1 := ((Below.refl _ w).alloc (Nat.le_refl _) _).drew.trans (hb1.mono (by simp))
  have HB1 := Lib.hid hB1
  clear hB1 hb1 hlk
  cases hta : tickOk a
  · rw [hta] at HRA
    go_wp2_with (first | (go_at_call 73; refine (HRA _).mono ?_; rintro e w2 ⟨rfl, rfl⟩) | fail)
    go_ret
    exact ⟨by rw [hta]; rfl, HB1.out⟩
  rw [hta] at HRA
  cases htb : tickOk b
  · rw [htb] at HRB
    go_wp2_with (first | (go_at_call 73; first | (with_reducible refine (HRA _).mono ?_; rintro e w2 ⟨rfl, rfl⟩) | (with_reducible refine (HRB _).mono ?_; rintro e w3 ⟨rfl, rfl⟩)) | fail)
    go_ret
    exact ⟨by rw [hta, htb]; rfl, HB1.out⟩
  rw [htb] at HRB
  have HN := toxic_Numbers.calls 1 2 W1 (by kernel_rfl)
  have hq : ∀ W, (binOp BinOp.eql 54 (.func (.func 117) #[] #[]) Value.nilFunc).run Tryz.prog W = .ok (.bool false) W := fun _ => rfl
  cases hb0 : (b == 0)
  · go_wp2_with (first | (go_at_call 73; first | (with_reducible refine (HRA _).mono ?_; rintro e w2 ⟨rfl, rfl⟩) | (with_reducible refine (HRB _).mono ?_; rintro e w3 ⟨rfl, rfl⟩)) | (go_at_call 61; refine HN.mono ?_; rintro e w4 ⟨rfl, hb4⟩; have hA' := cell_later hb4 hA; have hB' := cell_later hb4 hB; have hc2' := cell_later hb4 hc2) | (go_at_call 117; refine (rule3 a b _).mono ?_; rintro e w2 ⟨rfl, rfl⟩) | fail)
    go_ret
    exact ⟨by rw [hta, htb, hb0]; rfl, HB1.out.trans (hb4.mono HB1.out.size)⟩
  · go_wp2_with (first | (go_at_call 73; first | (with_reducible refine (HRA _).mono ?_; rintro e w2 ⟨rfl, rfl⟩) | (with_reducible refine (HRB _).mono ?_; rintro e w3 ⟨rfl, rfl⟩)) | (go_at_call 117; refine (rule3 a b _).mono ?_; rintro e w2 ⟨rfl, rfl⟩) | fail)
    go_ret
    exact ⟨by rw [hta, htb, hb0]; rfl, HB1.out⟩
set_option maxRecDepth 100000 in
theorem numbers_2 (s : ByteArray) (up : Bool) (o a b : Int) (w : World) :
    Calls Tryz.prog 84 #[.agg #[.string s, .int .i64 2, .bool up, .int .i64 o, .int .i64 a, .int .i64 b]] w fun e w' => e = .returned (.bool (numbersOk 2 a b)) ∧ Below w.heap.size w w' := by
  have HRA := right_any a
  have HRB := right_any b
  rw [show (decide (0 ≤ a) && decide (a ≤ 1099511627776)) = tickOk a from rfl] at HRA
  rw [show (decide (0 ≤ b) && decide (b ≤ 1099511627776)) = tickOk b from rfl] at HRB
  have hres : numbersOk 2 a b = (tickOk a && tickOk b && (b == 0 || true) && (decide (1 ≤ b) && decide (b ≤ 4096))) := rfl
  rw [hres]
  clear hres
  go_enter Tryz.func84, Tryz.ntmps84
  go_wp2_with fail
  go_region_held3 (fun W => W.cell? ⟨w.heap.size, 1, none⟩ = some (.int .i64 2))
    (first | go_keep | exact cell_later hb1 (by assumption))
    (first | (go_at_call 99; refine (rules_walk _).mono ?_; rintro e W1 ⟨rfl, hb1, hm1, hc1⟩; have hlk : (Instr.lookup 127 (.map (some (w.heap.size + 1 + 1))) (.int .i64 2) false).run Tryz.prog W1 = .ok (.func (.func 118) #[] #[.pointer (some ⟨w.heap.size + 1, 0, none⟩)]) W1 := lookup_rule W1 (w.heap.size + 1) (by simpa using hm1) 2 (by unfold iok; rfl); have hc2 : W1.cell? ⟨w.heap.size + 1, 0, none⟩ = some (.func (.func 116) #[] #[]) := (by simpa using hc1); clear hc1 hm1))
  have hA : W1.cell? ⟨w.heap.size, 4, none⟩ = some (.int .i64 a) := cell_later hb1 (by simp)
  have hB : W1.cell? ⟨w.heap.size, 5, none⟩ = some (.int .i64 b) := cell_later hb1 (by simp)
  have hK : W1.cell? ⟨w.heap.size, 1, none⟩ = some (.int .i64 2) := cell_later hb1 (by simp)
  have hB1 : Below w.heap.size w W1 := ((Below.refl _ w).alloc (Nat.le_refl _) _).drew.trans (hb1.mono (by simp))
  have HB1 := Lib.hid hB1
  clear hB1 hb1 hlk
  cases hta : tickOk a
  · rw [hta] at HRA
    go_wp2_with (first | (go_at_call 73; refine (HRA _).mono ?_; rintro e w2 ⟨rfl, rfl⟩) | fail)
    go_ret
    exact ⟨by rw [hta]; rfl, HB1.out⟩
  rw [hta] at HRA
  cases htb : tickOk b
  · rw [htb] at HRB
    go_wp2_with (first | (go_at_call 73; first | (with_reducible refine (HRA _).mono ?_; rintro e w2 ⟨rfl, rfl⟩) | (with_reducible refine (HRB _).mono ?_; rintro e w3 ⟨rfl, rfl⟩)) | fail)
    go_ret
    exact ⟨by rw [hta, htb]; rfl, HB1.out⟩
  rw [htb] at HRB
  have HN := toxic_Numbers.calls 2 2 W1 (by kernel_rfl)
  have hq : ∀ W, (binOp BinOp.eql 54 (.func (.func 118) #[] #[.pointer (some ⟨w.heap.size + 1, 0, none⟩)]) Value.nilFunc).run Tryz.prog W = .ok (.bool false) W := fun _ => rfl
  cases hb0 : (b == 0)
  · go_wp2_with (first | (go_at_call 73; first | (with_reducible refine (HRA _).mono ?_; rintro e w2 ⟨rfl, rfl⟩) | (with_reducible refine (HRB _).mono ?_; rintro e w3 ⟨rfl, rfl⟩)) | (go_at_call 61; refine HN.mono ?_; rintro e w4 ⟨rfl, hb4⟩; have hA' := cell_later hb4 hA; have hB' := cell_later hb4 hB; have hc2' := cell_later hb4 hc2) | (go_at_call 118; refine (rule4 a b _ _ hc2').mono ?_; rintro e w2 ⟨rfl, rfl⟩) | fail)
    go_ret
    exact ⟨by rw [hta, htb, hb0]; rfl, HB1.out.trans (hb4.mono HB1.out.size)⟩
  · go_wp2_with (first | (go_at_call 73; first | (with_reducible refine (HRA _).mono ?_; rintro e w2 ⟨rfl, rfl⟩) | (with_reducible refine (HRB _).mono ?_; rintro e w3 ⟨rfl, rfl⟩)) | (go_at_call 118; refine (rule4 a b _ _ hc2).mono ?_; rintro e w2 ⟨rfl, rfl⟩) | fail)
    go_ret
    exact ⟨by rw [hta, htb, hb0]; rfl, HB1.out⟩
set_option maxRecDepth 100000 in
theorem numbers_3 (s : ByteArray) (up : Bool) (o a b : Int) (w : World) :
    Calls Tryz.prog 84 #[.agg #[.string s, .int .i64 3, .bool up, .int .i64 o, .int .i64 a, .int .i64 b]] w fun e w' => e = .returned (.bool (numbersOk 3 a b)) ∧ Below w.heap.size w w' := by
  have HRA := right_any a
  have HRB := right_any b
  rw [show (decide (0 ≤ a) && decide (a ≤ 1099511627776)) = tickOk a from rfl] at HRA
  rw [show (decide (0 ≤ b) && decide (b ≤ 1099511627776)) = tickOk b from rfl] at HRB
  have hres : numbersOk 3 a b = (tickOk a && tickOk b && (b == 0 || true) && (decide (1 ≤ a) && decide (a ≤ 4096))) := rfl
  rw [hres]
  clear hres
  go_enter Tryz.func84, Tryz.ntmps84
  go_wp2_with fail
  go_region_held3 (fun W => W.cell? ⟨w.heap.size, 1, none⟩ = some (.int .i64 3))
    (first | go_keep | exact cell_later hb1 (by assumption))
    (first | (go_at_call 99; refine (rules_walk _).mono ?_; rintro e W1 ⟨rfl, hb1, hm1, hc1⟩; have hlk : (Instr.lookup 127 (.map (some (w.heap.size + 1 + 1))) (.int .i64 3) false).run Tryz.prog W1 = .ok (.func (.func 119) #[] #[.pointer (some ⟨w.heap.size + 1, 0, none⟩)]) W1 := lookup_rule W1 (w.heap.size + 1) (by simpa using hm1) 3 (by unfold iok; rfl); have hc2 : W1.cell? ⟨w.heap.size + 1, 0, none⟩ = some (.func (.func 116) #[] #[]) := (by simpa using hc1); clear hc1 hm1))
  have hA : W1.cell? ⟨w.heap.size, 4, none⟩ = some (.int .i64 a) := cell_later hb1 (by simp)
  have hB : W1.cell? ⟨w.heap.size, 5, none⟩ = some (.int .i64 b) := cell_later hb1 (by simp)
  have hK : W1.cell? ⟨w.heap.size, 1, none⟩ = some (.int .i64 3) := cell_later hb1 (by simp)
  have hB1 : Below w.heap.size w W1 := ((Below.refl _ w).alloc (Nat.le_refl _) _).drew.trans (hb1.mono (by simp))
  have HB1 := Lib.hid hB1
  clear hB1 hb1 hlk
  cases hta : tickOk a
  · rw [hta] at HRA
    go_wp2_with (first | (go_at_call 73; refine (HRA _).mono ?_; rintro e w2 ⟨rfl, rfl⟩) | fail)
    go_ret
    exact ⟨by rw [hta]; rfl, HB1.out⟩
  rw [hta] at HRA
  cases htb : tickOk b
  · rw [htb] at HRB
    go_wp2_with (first | (go_at_call 73; first | (with_reducible refine (HRA _).mono ?_; rintro e w2 ⟨rfl, rfl⟩) | (with_reducible refine (HRB _).mono ?_; rintro e w3 ⟨rfl, rfl⟩)) | fail)
    go_ret
    exact ⟨by rw [hta, htb]; rfl, HB1.out⟩
  rw [htb] at HRB
  have HN := toxic_Numbers.calls 3 2 W1 (by kernel_rfl)
  have hq : ∀ W, (binOp BinOp.eql 54 (.func (.func 119) #[] #[.pointer (some ⟨w.heap.size + 1, 0, none⟩)]) Value.nilFunc).run Tryz.prog W = .ok (.bool false) W := fun _ => rfl
  cases hb0 : (b == 0)
  · go_wp2_with (first | (go_at_call 73; first | (with_reducible refine (HRA _).mono ?_; rintro e w2 ⟨rfl, rfl⟩) | (with_reducible refine (HRB _).mono ?_; rintro e w3 ⟨rfl, rfl⟩)) | (go_at_call 61; refine HN.mono ?_; rintro e w4 ⟨rfl, hb4⟩; have hA' := cell_later hb4 hA; have hB' := cell_later hb4 hB; have hc2' := cell_later hb4 hc2) | (go_at_call 119; refine (rule5 a b _ _ hc2').mono ?_; rintro e w2 ⟨rfl, rfl⟩) | fail)
    go_ret
    exact ⟨by rw [hta, htb, hb0]; rfl, HB1.out.trans (hb4.mono HB1.out.size)⟩
  · go_wp2_with (first | (go_at_call 73; first | (with_reducible refine (HRA _).mono ?_; rintro e w2 ⟨rfl, rfl⟩) | (with_reducible refine (HRB _).mono ?_; rintro e w3 ⟨rfl, rfl⟩)) | (go_at_call 119; refine (rule5 a b _ _ hc2).mono ?_; rintro e w2 ⟨rfl, rfl⟩) | fail)
    go_ret
    exact ⟨by rw [hta, htb, hb0]; rfl, HB1.out⟩
set_option maxRecDepth 100000 in
theorem numbers_4 (s : ByteArray) (up : Bool) (o a b : Int) (w : World) :
    Calls Tryz.prog 84 #[.agg #[.string s, .int .i64 4, .bool up, .int .i64 o, .int .i64 a, .int .i64 b]] w fun e w' => e = .returned (.bool (numbersOk 4 a b)) ∧ Below w.heap.size w w' := by
  have HRA := right_any a
  have HRB := right_any b
  rw [show (decide (0 ≤ a) && decide (a ≤ 1099511627776)) = tickOk a from rfl] at HRA
  rw [show (decide (0 ≤ b) && decide (b ≤ 1099511627776)) = tickOk b from rfl] at HRB
  have hres : numbersOk 4 a b = (tickOk a && tickOk b && (b == 0 || false) && decide (0 < a)) := rfl
  rw [hres]
  clear hres
  go_enter Tryz.func84, Tryz.ntmps84
  go_wp2_with fail
  go_region_held3 (fun W => W.cell? ⟨w.heap.size, 1, none⟩ = some (.int .i64 4))
    (first | go_keep | exact cell_later hb1 (by assumption))
    (first | (go_at_call 99; refine (rules_walk _).mono ?_; rintro e W1 ⟨rfl, hb1, hm1, hc1⟩; have hlk : (Instr.lookup 127 (.map (some (w.heap.size + 1 + 1))) (.int .i64 4) false).run Tryz.prog W1 = .ok (.func (.func 115) #[] #[]) W1 := lookup_rule W1 (w.heap.size + 1) (by simpa using hm1) 4 (by unfold iok; rfl); have hc2 : W1.cell? ⟨w.heap.size + 1, 0, none⟩ = some (.func (.func 116) #[] #[]) := (by simpa using hc1); clear hc1 hm1))
  have hA : W1.cell? ⟨w.heap.size, 4, none⟩ = some (.int .i64 a) := cell_later hb1 (by simp)
  have hB : W1.cell? ⟨w.heap.size, 5, none⟩ = some (.int .i64 b) := cell_later hb1 (by simp)
  have hK : W1.cell? ⟨w.heap.size, 1, none⟩ = some (.int .i64 4) := cell_later hb1 (by simp)
  have hB1 : Below w.heap.size w W1 := ((Below.refl _ w).alloc (Nat.le_refl _) _).drew.trans (hb1.mono (by simp))
  have HB1 := Lib.hid hB1
  clear hB1 hb1 hlk
  cases hta : tickOk a
  · rw [hta] at HRA
    go_wp2_with (first | (go_at_call 73; refine (HRA _).mono ?_; rintro e w2 ⟨rfl, rfl⟩) | fail)
    go_ret
    exact ⟨by rw [hta]; rfl, HB1.out⟩
  rw [hta] at HRA
  cases htb : tickOk b
  · rw [htb] at HRB
    go_wp2_with (first | (go_at_call 73; first | (with_reducible refine (HRA _).mono ?_; rintro e w2 ⟨rfl, rfl⟩) | (with_reducible refine (HRB _).mono ?_; rintro e w3 ⟨rfl, rfl⟩)) | fail)
    go_ret
    exact ⟨by rw [hta, htb]; rfl, HB1.out⟩
  rw [htb] at HRB
  have HN := toxic_Numbers.calls 4 1 W1 (by kernel_rfl)
  have hq : ∀ W, (binOp BinOp.eql 54 (.func (.func 115) #[] #[]) Value.nilFunc).run Tryz.prog W = .ok (.bool false) W := fun _ => rfl
  cases hb0 : (b == 0)
  · go_wp2_with (first | (go_at_call 73; first | (with_reducible refine (HRA _).mono ?_; rintro e w2 ⟨rfl, rfl⟩) | (with_reducible refine (HRB _).mono ?_; rintro e w3 ⟨rfl, rfl⟩)) | (go_at_call 61; refine HN.mono ?_; rintro e w4 ⟨rfl, hb4⟩; have hA' := cell_later hb4 hA; have hB' := cell_later hb4 hB; have hc2' := cell_later hb4 hc2) | (go_at_call 115; refine (rule1 a b _).mono ?_; rintro e w2 ⟨rfl, rfl⟩) | fail)
    go_ret
    exact ⟨by rw [hta, htb, hb0]; rfl, HB1.out.trans (hb4.mono HB1.out.size)⟩
  · go_wp2_with (first | (go_at_call 73; first | (with_reducible refine (HRA _).mono ?_; rintro e w2 ⟨rfl, rfl⟩) | (with_reducible refine (HRB _).mono ?_; rintro e w3 ⟨rfl, rfl⟩)) | (go_at_call 115; refine (rule1 a b _).mono ?_; rintro e w2 ⟨rfl, rfl⟩) | fail)
    go_ret
    exact ⟨by rw [hta, htb, hb0]; rfl, HB1.out⟩
set_option maxRecDepth 100000 in
theorem numbers_5 (s : ByteArray) (up : Bool) (o a b : Int) (w : World) :
    Calls Tryz.prog 84 #[.agg #[.string s, .int .i64 5, .bool up, .int .i64 o, .int .i64 a, .int .i64 b]] w fun e w' => e = .returned (.bool (numbersOk 5 a b)) ∧ Below w.heap.size w w' := by
  have HRA := right_any a
  have HRB := right_any b
  rw [show (decide (0 ≤ a) && decide (a ≤ 1099511627776)) = tickOk a from rfl] at HRA
  rw [show (decide (0 ≤ b) && decide (b ≤ 1099511627776)) = tickOk b from rfl] at HRB
  have hres : numbersOk 5 a b = (tickOk a && tickOk b && (b == 0 || false) && decide (0 < a)) := rfl
  rw [hres]
  clear hres
  go_enter Tryz.func84, Tryz.ntmps84
  go_wp2_with fail
  go_region_held3 (fun W => W.cell? ⟨w.heap.size, 1, none⟩ = some (.int .i64 5))
    (first | go_keep | exact cell_later hb1 (by assumption))
    (first | (go_at_call 99; refine (rules_walk _).mono ?_; rintro e W1 ⟨rfl, hb1, hm1, hc1⟩; have hlk : (Instr.lookup 127 (.map (some (w.heap.size + 1 + 1))) (.int .i64 5) false).run Tryz.prog W1 = .ok (.func (.func 115) #[] #[]) W1 := lookup_rule W1 (w.heap.size + 1) (by simpa using hm1) 5 (by unfold iok; rfl); have hc2 : W1.cell? ⟨w.heap.size + 1, 0, none⟩ = some (.func (.func 116) #[] #[]) := (by simpa using hc1); clear hc1 hm1))
  have hA : W1.cell? ⟨w.heap.size, 4, none⟩ = some (.int .i64 a) := cell_later hb1 (by simp)
  have hB : W1.cell? ⟨w.heap.size, 5, none⟩ = some (.int .i64 b) := cell_later hb1 (by simp)
  have hK : W1.cell? ⟨w.heap.size, 1, none⟩ = some (.int .i64 5) := cell_later hb1 (by simp)
  have hB1 : Below w.heap.size w W1 := ((Below.refl _ w).alloc (Nat.le_refl _) _).drew.trans (hb1.mono (by simp))
  have HB1 := Lib.hid hB1
  clear hB1 hb1 hlk
  cases hta : tickOk a
  · rw [hta] at HRA
    go_wp2_with (first | (go_at_call 73; refine (HRA _).mono ?_; rintro e w2 ⟨rfl, rfl⟩) | fail)
    go_ret
    exact ⟨by rw [hta]; rfl, HB1.out⟩
  rw [hta] at HRA
  cases htb : tickOk b
  · rw [htb] at HRB
    go_wp2_with (first | (go_at_call 73; first | (with_reducible refine (HRA _).mono ?_; rintro e w2 ⟨rfl, rfl⟩) | (with_reducible refine (HRB _).mono ?_; rintro e w3 ⟨rfl, rfl⟩)) | fail)
    go_ret
    exact ⟨by rw [hta, htb]; rfl, HB1.out⟩
  rw [htb] at HRB
  have HN := toxic_Numbers.calls 5 1 W1 (by kernel_rfl)
  have hq : ∀ W, (binOp BinOp.eql 54 (.func (.func 115) #[] #[]) Value.nilFunc).run Tryz.prog W = .ok (.bool false) W := fun _ => rfl
  cases hb0 : (b == 0)
  · go_wp2_with (first | (go_at_call 73; first | (with_reducible refine (HRA _).mono ?_; rintro e w2 ⟨rfl, rfl⟩) | (with_reducible refine (HRB _).mono ?_; rintro e w3 ⟨rfl, rfl⟩)) | (go_at_call 61; refine HN.mono ?_; rintro e w4 ⟨rfl, hb4⟩; have hA' := cell_later hb4 hA; have hB' := cell_later hb4 hB; have hc2' := cell_later hb4 hc2) | (go_at_call 115; refine (rule1 a b _).mono ?_; rintro e w2 ⟨rfl, rfl⟩) | fail)
    go_ret
    exact ⟨by rw [hta, htb, hb0]; rfl, HB1.out.trans (hb4.mono HB1.out.size)⟩
  · go_wp2_with (first | (go_at_call 73; first | (with_reducible refine (HRA _).mono ?_; rintro e w2 ⟨rfl, rfl⟩) | (with_reducible refine (HRB _).mono ?_; rintro e w3 ⟨rfl, rfl⟩)) | (go_at_call 115; refine (rule1 a b _).mono ?_; rintro e w2 ⟨rfl, rfl⟩) | fail)
    go_ret
    exact ⟨by rw [hta, htb, hb0]; rfl, HB1.out⟩
set_option maxRecDepth 100000 in
theorem numbers_6 (s : ByteArray) (up : Bool) (o a b : Int) (w : World) :
    Calls Tryz.prog 84 #[.agg #[.string s, .int .i64 6, .bool up, .int .i64 o, .int .i64 a, .int .i64 b]] w fun e w' => e = .returned (.bool (numbersOk 6 a b)) ∧ Below w.heap.size w w' := by
  have HRA := right_any a
  have HRB := right_any b
  rw [show (decide (0 ≤ a) && decide (a ≤ 1099511627776)) = tickOk a from rfl] at HRA
  rw [show (decide (0 ≤ b) && decide (b ≤ 1099511627776)) = tickOk b from rfl] at HRB
  have hres : numbersOk 6 a b = (tickOk a && tickOk b && (b == 0 || false) && true) := rfl
  rw [hres]
  clear hres
  go_enter Tryz.func84, Tryz.ntmps84
  go_wp2_with fail
  go_region_held3 (fun W => W.cell? ⟨w.heap.size, 1, none⟩ = some (.int .i64 6))
    (first | go_keep | exact cell_later hb1 (by assumption))
    (first | (go_at_call 99; refine (rules_walk _).mono ?_; rintro e W1 ⟨rfl, hb1, hm1, hc1⟩; have hlk : (Instr.lookup 127 (.map (some (w.heap.size + 1 + 1))) (.int .i64 6) false).run Tryz.prog W1 = .ok (.nilFunc) W1 := lookup_rule W1 (w.heap.size + 1) (by simpa using hm1) 6 (by unfold iok; rfl); have hc2 : W1.cell? ⟨w.heap.size + 1, 0, none⟩ = some (.func (.func 116) #[] #[]) := (by simpa using hc1); clear hc1 hm1))
  have hA : W1.cell? ⟨w.heap.size, 4, none⟩ = some (.int .i64 a) := cell_later hb1 (by simp)
  have hB : W1.cell? ⟨w.heap.size, 5, none⟩ = some (.int .i64 b) := cell_later hb1 (by simp)
  have hK : W1.cell? ⟨w.heap.size, 1, none⟩ = some (.int .i64 6) := cell_later hb1 (by simp)
  have hB1 : Below w.heap.size w W1 := ((Below.refl _ w).alloc (Nat.le_refl _) _).drew.trans (hb1.mono (by simp))
  have HB1 := Lib.hid hB1
  clear hB1 hb1 hlk
  cases hta : tickOk a
  · rw [hta] at HRA
    go_wp2_with (first | (go_at_call 73; refine (HRA _).mono ?_; rintro e w2 ⟨rfl, rfl⟩) | fail)
    go_ret
    exact ⟨by rw [hta]; rfl, HB1.out⟩
  rw [hta] at HRA
  cases htb : tickOk b
  · rw [htb] at HRB
    go_wp2_with (first | (go_at_call 73; first | (with_reducible refine (HRA _).mono ?_; rintro e w2 ⟨rfl, rfl⟩) | (with_reducible refine (HRB _).mono ?_; rintro e w3 ⟨rfl, rfl⟩)) | fail)
    go_ret
    exact ⟨by rw [hta, htb]; rfl, HB1.out⟩
  rw [htb] at HRB
  have HN := toxic_Numbers.calls 6 1 W1 (by kernel_rfl)
  have hq : ∀ W, (binOp BinOp.eql 54 (.nilFunc) Value.nilFunc).run Tryz.prog W = .ok (.bool true) W := fun _ => rfl
  cases hb0 : (b == 0)
  · go_wp2_with (first | (go_at_call 73; first | (with_reducible refine (HRA _).mono ?_; rintro e w2 ⟨rfl, rfl⟩) | (with_reducible refine (HRB _).mono ?_; rintro e w3 ⟨rfl, rfl⟩)) | (go_at_call 61; refine HN.mono ?_; rintro e w4 ⟨rfl, hb4⟩; have hA' := cell_later hb4 hA; have hB' := cell_later hb4 hB; have hc2' := cell_later hb4 hc2) | fail)
    go_ret
    exact ⟨by rw [hta, htb, hb0]; rfl, HB1.out.trans (hb4.mono HB1.out.size)⟩
  · go_wp2_with (first | (go_at_call 73; first | (with_reducible refine (HRA _).mono ?_; rintro e w2 ⟨rfl, rfl⟩) | (with_reducible refine (HRB _).mono ?_; rintro e w3 ⟨rfl, rfl⟩)) | fail)
    go_ret
    exact ⟨by rw [hta, htb, hb0]; rfl, HB1.out⟩
set_option maxRecDepth 100000 in
theorem numbers_7 (s : ByteArray) (up : Bool) (o a b : Int) (w : World) :
    Calls Tryz.prog 84 #[.agg #[.string s, .int .i64 7, .bool up, .int .i64 o, .int .i64 a, .int .i64 b]] w fun e w' => e = .returned (.bool (numbersOk 7 a b)) ∧ Below w.heap.size w w' := by
  have HRA := right_any a
  have HRB := right_any b
  rw [show (decide (0 ≤ a) && decide (a ≤ 1099511627776)) = tickOk a from rfl] at HRA
  rw [show (decide (0 ≤ b) && decide (b ≤ 1099511627776)) = tickOk b from rfl] at HRB
  have hres : numbersOk 7 a b = (tickOk a && tickOk b && (b == 0 || false) && true) := rfl
  rw [hres]
  clear hres
  go_enter Tryz.func84, Tryz.ntmps84
  go_wp2_with fail
  go_region_held3 (fun W => W.cell? ⟨w.heap.size, 1, none⟩ = some (.int .i64 7))
    (first | go_keep | exact cell_later hb1 (by assumption))
    (first | (go_at_call 99; refine (rules_walk _).mono ?_; rintro e W1 ⟨rfl, hb1, hm1, hc1⟩; have hlk : (Instr.lookup 127 (.map (some (w.heap.size + 1 + 1))) (.int .i64 7) false).run Tryz.prog W1 = .ok (.nilFunc) W1 := lookup_rule W1 (w.heap.size + 1) (by simpa using hm1) 7 (by unfold iok; rfl); have hc2 : W1.cell? ⟨w.heap.size + 1, 0, none⟩ = some (.func (.func 116) #[] #[]) := (by simpa using hc1); clear hc1 hm1))
  have hA : W1.cell? ⟨w.heap.size, 4, none⟩ = some (.int .i64 a) := cell_later hb1 (by simp)
  have hB : W1.cell? ⟨w.heap.size, 5, none⟩ = some (.int .i64 b) := cell_later hb1 (by simp)
  have hK : W1.cell? ⟨w.heap.size, 1, none⟩ = some (.int .i64 7) := cell_later hb1 (by simp)
  have hB1 : Below w.heap.size w W1 := ((Below.refl _ w).alloc (Nat.le_refl _) _).drew.trans (hb1.mono (by simp))
  have HB1 := Lib.hid hB1
  clear hB1 hb1 hlk
  cases hta : tickOk a
  · rw [hta] at HRA
    go_wp2_with (first | (go_at_call 73; refine (HRA _).mono ?_; rintro e w2 ⟨rfl, rfl⟩) | fail)
    go_ret
    exact ⟨by rw [hta]; rfl, HB1.out⟩
  rw [hta] at HRA
  cases htb : tickOk b
  · rw [htb] at HRB
    go_wp2_with (first | (go_at_call 73; first | (with_reducible refine (HRA _).mono ?_; rintro e w2 ⟨rfl, rfl⟩) | (with_reducible refine (HRB _).mono ?_; rintro e w3 ⟨rfl, rfl⟩)) | fail)
    go_ret
    exact ⟨by rw [hta, htb]; rfl, HB1.out⟩
  rw [htb] at HRB
  have HN := toxic_Numbers.calls 7 1 W1 (by kernel_rfl)
  have hq : ∀ W, (binOp BinOp.eql 54 (.nilFunc) Value.nilFunc).run Tryz.prog W = .ok (.bool true) W := fun _ => rfl
  cases hb0 : (b == 0)
  · go_wp2_with (first | (go_at_call 73; first | (with_reducible refine (HRA _).mono ?_; rintro e w2 ⟨rfl, rfl⟩) | (with_reducible refine (HRB _).mono ?_; rintro e w3 ⟨rfl, rfl⟩)) | (go_at_call 61; refine HN.mono ?_; rintro e w4 ⟨rfl, hb4⟩; have hA' := cell_later hb4 hA; have hB' := cell_later hb4 hB; have hc2' := cell_later hb4 hc2) | fail)
    go_ret
    exact ⟨by rw [hta, htb, hb0]; rfl, HB1.out.trans (hb4.mono HB1.out.size)⟩
  · go_wp2_with (first | (go_at_call 73; first | (with_reducible refine (HRA _).mono ?_; rintro e w2 ⟨rfl, rfl⟩) | (with_reducible refine (HRB _).mono ?_; rintro e w3 ⟨rfl, rfl⟩)) | fail)
    go_ret
    exact ⟨by rw [hta, htb, hb0]; rfl, HB1.out⟩
set_option maxRecDepth 100000 in
theorem toxic_numbers.calls (a0_0 : ByteArray) (a0_1 : Int) (a0_2 : Bool) (a0_3 : Int) (a0_4 : Int) (a0_5 : Int) (r : Bool) (w : World) (h : toxic_numbers.f a0_0 a0_1 a0_2 a0_3 a0_4 a0_5 = some r) :
    Calls Tryz.prog 84 #[.agg #[.string a0_0, .int .i64 a0_1, .bool a0_2, .int .i64 a0_3, .int .i64 a0_4, .int .i64 a0_5]] w fun e w' => e = .returned (.bool r) ∧ Below w.heap.size w w' := by
  unfold toxic_numbers.f at h
  split at h
  · rename_i hk
    cases Option.some.inj h
    have : a0_1 = 1 ∨ a0_1 = 2 ∨ a0_1 = 3 ∨ a0_1 = 4 ∨ a0_1 = 5 ∨ a0_1 = 6 ∨ a0_1 = 7 := by omega
    rcases this with rfl | rfl | rfl | rfl | rfl | rfl | rfl
    · exact numbers_1 _ _ _ _ _ _
    · exact numbers_2 _ _ _ _ _ _
    · exact numbers_3 _ _ _ _ _ _
    · exact numbers_4 _ _ _ _ _ _
    · exact numbers_5 _ _ _ _ _ _
    · exact numbers_6 _ _ _ _ _ _
    · exact numbers_7 _ _ _ _ _ _
  · cases h
end Go.Proofs.YtlglbpjccpdloaaGreatDoor.Ext
namespace Go.Proofs.YtlglbpjccpdloaaGreatDoor.PToxB
open Go.Proofs.YtlglbpjccpdloaaGreatDoor.Ext Go.RowKit Go.Proofs.YtlglbpjccpdloaaGreatDoorW.PrintWords Go.Proofs.YtlglbpjccpdloaaGreatDoorW.PrintLast Go.Proofs.YtlglbpjccpdloaaGreatDoorW.PrintMore
attribute [local go_sem] max2_int min2_int max_two min_two max_three min_three max_four min_four   -- for this text's walks alone
set_option linter.unusedVariables false
set_option linter.unusedSimpArgs false
def errW : Option Int → Value
 | none => .nilIface
 | some c => .iface 0 (.int .i64 c)
theorem errW_none : errW none = .nilIface := rfl
theorem errW_some (c : Int) : errW (some c) = .iface 0 (.int .i64 c) := rfl
theorem info9 : (Tryz.prog.info? 9).map (fun i => (i.zero, i.size, i.bytes)) = some (some (.string ⟨#[]⟩), 1, 16) := by kernel_rfl
end Go.Proofs.YtlglbpjccpdloaaGreatDoor.PToxB
