/- Gathered by a program of this session (shake.py): what the claim's theorem needs. -/
import Derived.Test.YtbfeokfninedcaaDoorXj0
import Derived.Test.YtbfeokfninedcaaDoorXj1
import Derived.Defers
import Derived.Laws.Pointers
import Derived.Laws.LoneSync
import Derived.RegionTactic
import Derived.RegionCalls
import Derived.ChangeAlike
import Derived.Laws.NewBlocks
import Derived.LoopN
import Derived.Deep.WholeRow
import Derived.Below
import Derived.Deep.Draws
import Derived.Deep.AppendLies
import Derived.Maps.AppendAt
import Derived.OwnWalk
import Derived.Laws.BytesArg
import Derived.Laws.MakeOwn
import Derived.Laws.OwnMore
import Derived.Deep.OwnRows
import Derived.Tactics
import Derived.Lib.ConvBytes
import Derived.Laws.Slices
import Derived.WalkKit
import Derived.KernelRfl
import Derived.RowKit3
import Derived.Deep.LoopGhost
import Derived.Deep.QuietTactic
import Derived.BigQuiet
import Derived.WideLaws
import Derived.Deep.DeepCutAuto
import Derived.Deep.CutBlock
import Derived.Deep.RegionHeld3
import Derived.Laws.Rows
import Derived.Lib.AppendStr
import Derived.ArgAppend
import Derived.Laws.IdiomCopy
import Derived.OrdersHeld
import Derived.Laws.BitsLemmas
import Derived.RowKit
import Derived.Test.YtbfeokfninedcaaDoorProg
import Derived.Laws.StructEq
set_option linter.unusedVariables false
set_option linter.unusedSimpArgs false
namespace Go.Proofs.YtbfeokfninedcaaDoor.Ext
end Go.Proofs.YtbfeokfninedcaaDoor.Ext
namespace Go.Proofs.YtbfeokfninedcaaDoorW.PrintLast
end Go.Proofs.YtbfeokfninedcaaDoorW.PrintLast
namespace Go.Proofs.YtbfeokfninedcaaDoorW.PrintMore
end Go.Proofs.YtbfeokfninedcaaDoorW.PrintMore
namespace Go.Proofs.YtbfeokfninedcaaDoorW.PrintWords
end Go.Proofs.YtbfeokfninedcaaDoorW.PrintWords
namespace Go.Proofs.YtbfeokfninedcaaDoor.PWrdA
open Go.Proofs.YtbfeokfninedcaaDoor.Ext Go.RowKit Go.Proofs.YtbfeokfninedcaaDoorW.PrintWords Go.Proofs.YtbfeokfninedcaaDoorW.PrintLast Go.Proofs.YtbfeokfninedcaaDoorW.PrintMore
attribute [local go_sem] max2_int min2_int max_two min_two max_three min_three max_four min_four   -- for this text's walks alone
set_option linter.unusedVariables false
set_option linter.unusedSimpArgs false
def errW : Option Int → Value
 | none => .nilIface
 | some c => .iface 0 (.int .i64 c)
theorem errW_none : errW none = .nilIface := rfl
theorem errW_some (c : Int) : errW (some c) = .iface 0 (.int .i64 c) := rfl
end Go.Proofs.YtbfeokfninedcaaDoor.PWrdA
namespace Go.Proofs.YtbfeokfninedcaaDoor.PWrdA
open Go.Proofs.YtbfeokfninedcaaDoor.Ext Go.RowKit Go.Proofs.YtbfeokfninedcaaDoorW.PrintWords Go.Proofs.YtbfeokfninedcaaDoorW.PrintLast Go.Proofs.YtbfeokfninedcaaDoorW.PrintMore
attribute [local go_sem] max2_int min2_int max_two min_two max_three min_three max_four min_four   -- for this text's walks alone
set_option linter.unusedVariables false
set_option linter.unusedSimpArgs false
private theorem pw_size_mk (l : Array UInt8) : (⟨l⟩ : ByteArray).size = l.size := rfl
def chicaneref15_Same.l0 : Nat → List ByteArray → List ByteArray → Int → Option (Bool)
 | 0, _, _, _ => none
 | k + 1, x0, x1, x5 => if x5 < (x0.length : Int) then (if 0 ≤ x5 then (if x5 < (x1.length : Int) then (if (rdOf ByteArray.empty x0 x5).toList = (rdOf ByteArray.empty x1 x5).toList then (chicaneref15_Same.l0 k x0 x1 (wrap64 (x5 + 1))) else (some false)) else (none)) else (none)) else (some true)
def chicaneref15_Same.f (k : Nat) (l0 : List ByteArray) (l1 : List ByteArray) : Option (Bool) := if (l0.length : Int) = (l1.length : Int) then (chicaneref15_Same.l0 k l0 l1 0) else (some false)
theorem chicaneref15_Same.mono_l : ∀ k, (∀ y0 y1 y2, LeO (chicaneref15_Same.l0 k y0 y1 y2) (chicaneref15_Same.l0 (k + 1) y0 y1 y2))
 | 0 => fun _ _ _ r h => by simp [chicaneref15_Same.l0] at h
 | k + 1 => by
  have ih0 := chicaneref15_Same.mono_l k
  ·intro y0 y1 y2
   unfold chicaneref15_Same.l0
   repeat' first
   | (with_reducible exact ih0 _ _ _)
   | (with_reducible exact LeO.refl _)
   | (with_reducible exact LeO.none _)
   | (with_reducible refine LeO.ite ?_ ?_)
   | (with_reducible refine LeO.bind ?_ (fun _ => ?_))
   | exact ih0 _ _ _
   | exact LeO.none _
   | refine LeO.ite ?_ ?_
   | refine LeO.bind ?_ (fun _ => ?_)
theorem chicaneref15_Same.mono : ∀ a0 a1 k, LeO (chicaneref15_Same.f k a0 a1) (chicaneref15_Same.f (k + 1) a0 a1) := by
 intro a0 a1 k
 have ih0 := chicaneref15_Same.mono_l k
 unfold chicaneref15_Same.f
 repeat' first
   | (with_reducible exact ih0 _ _ _)
   | (with_reducible exact LeO.refl _)
   | (with_reducible exact LeO.none _)
   | (with_reducible refine LeO.ite ?_ ?_)
   | (with_reducible refine LeO.bind ?_ (fun _ => ?_))
   | exact ih0 _ _ _
   | exact LeO.none _
   | refine LeO.ite ?_ ?_
   | refine LeO.bind ?_ (fun _ => ?_)
set_option maxHeartbeats 8000000 in
set_option maxRecDepth 100000 in
theorem chicaneref15_Same.calls (k : Nat) (A0 : Option Addr) (c0 : Nat) (l0 : List ByteArray) (A1 : Option Addr) (c1 : Nat) (l1 : List ByteArray) (r : Bool) (w : World) (hr0 : Kd.C Kd.string w A0 l0.length l0) (hc0 : l0.length ≤ c0) (hr1 : Kd.C Kd.string w A1 l1.length l1) (hc1 : l1.length ≤ c1) (h : chicaneref15_Same.f k l0 l1 = some r) :
  Calls Tryd.prog 14 #[.slice A0 l0.length c0, .slice A1 l1.length c1] w fun e w' => e = .returned (.bool r) ∧ Drawn0 w w' := by
 have HR0 := Aside0.mk hr0
 have HC0 := Aside0.mk hc0
 clear hr0 hc0
 have HR1 := Aside0.mk hr1
 have HC1 := Aside0.mk hc1
 clear hr1 hc1
 have H : (if (l0.length : Int) = (l1.length : Int) then (chicaneref15_Same.l0 k l0 l1 0) else (some false)) = some r := h
 clear h
 by_cases c3 : (l0.length : Int) = (l1.length : Int)
 ·rw [if_pos c3] at H
  have c3b0 : ((l0.length : Int) == (l1.length : Int)) = true := beq_iff_eq.mpr c3
  have c3b1 : ((l0.length : Int) != (l1.length : Int)) = false := bne_eq_false_iff_eq.mpr c3
  have c3b2 : (l0.length == l1.length) = true := by first | simpa using c3 | (simp at c3 ⊢; omega)
  clear c3
  have H' := Aside0.mk H
  clear H
  go_enter Tryd.func14, Tryd.ntmps14
  go_wp2
  repeat (go_quiet (fail); try go_wp2)
  go_loopg [5] k (fun kq v5 w' => ∃ (x5_1 : Int), v5 = .int .i64 x5_1 ∧ Aside0 (chicaneref15_Same.l0 kq l0 l1 x5_1 = some r) ∧ Aside0 (kq ≤ k) ∧ Drawn0 w w')
  case atStart => exact ⟨(0), (by first | rfl | (simp; done) | (simp [*]; done)), H', ⟨Nat.le_refl _⟩, by repeat (first | exact Drawn0.refl _ | apply Drawn0.step)⟩
  case round =>
   clear H'
   try clear c1
   try clear p2
   try clear c3
   try clear c3b0
   try clear c3b1
   try clear c3b2
   try clear c3b3
   obtain ⟨x5_1, rfl, HA, HK1, ⟨m1, rfl⟩⟩ := hrel
   cases gk with
   | zero => exact absurd HA.out (by simp [chicaneref15_Same.l0])
   | succ k1 =>
    have H := HA.out
    clear HA
    simp only [chicaneref15_Same.l0] at H
    by_cases c4 : x5_1 < (l0.length : Int)
    ·rw [if_pos c4] at H
     have c4b0 : decide (x5_1 < (l0.length : Int)) = true := decide_eq_true c4
     clear c4
     by_cases c5 : 0 ≤ x5_1
     ·rw [if_pos c5] at H
      have c5b0 : decide (0 ≤ x5_1) = true := decide_eq_true c5
      clear c5
      by_cases c6 : x5_1 < (l1.length : Int)
      ·rw [if_pos c6] at H
       have c6b0 : decide (x5_1 < (l1.length : Int)) = true := decide_eq_true c6
       clear c6
       by_cases c7 : (rdOf ByteArray.empty l0 x5_1).toList = (rdOf ByteArray.empty l1 x5_1).toList
       ·rw [if_pos c7] at H
        have c7b0 : ((rdOf ByteArray.empty l0 x5_1).toList == (rdOf ByteArray.empty l1 x5_1).toList) = true := beq_iff_eq.mpr c7
        have c7b1 : ((rdOf ByteArray.empty l0 x5_1).toList != (rdOf ByteArray.empty l1 x5_1).toList) = false := bne_eq_false_iff_eq.mpr c7
        clear c7
        have H' := Aside0.mk H
        clear H
        have p101 : 0 ≤ (x5_1 : Int) := of_decide_eq_true (by first | (with_reducible assumption) | assumption)
        have q101 : x5_1 < (l0.length : Int) := of_decide_eq_true (by first | (with_reducible assumption) | assumption)
        obtain ⟨ad101, e101, hx101_0⟩ := Kd.at_string HR0.out x5_1 p101 q101
        cases e101
        replace p101 := eq_true p101
        replace q101 := eq_true q101
        have p102 : 0 ≤ (x5_1 : Int) := of_decide_eq_true (by first | (with_reducible assumption) | assumption)
        have q102 : x5_1 < (l1.length : Int) := of_decide_eq_true (by first | (with_reducible assumption) | assumption)
        obtain ⟨ad102, e102, hx102_0⟩ := Kd.at_string HR1.out x5_1 p102 q102
        cases e102
        replace p102 := eq_true p102
        replace q102 := eq_true q102
        go_wp2
        repeat (go_quiet (fail); try go_wp2)
        go_roundg k1
        case measure => have := HK1.out; omega
        case rel => exact ⟨(wrap64 (x5_1 + 1)), (by first | rfl | (simp; done) | (simp [*]; done)), H', ⟨by have := HK1.out; omega⟩, by repeat (first | exact Drawn0.refl _ | apply Drawn0.step)⟩
       ·rw [if_neg c7] at H
        have c7b0 : ((rdOf ByteArray.empty l0 x5_1).toList == (rdOf ByteArray.empty l1 x5_1).toList) = false := beq_eq_false_iff_ne.mpr c7
        have c7b1 : ((rdOf ByteArray.empty l0 x5_1).toList != (rdOf ByteArray.empty l1 x5_1).toList) = true := bne_iff_ne.mpr c7
        obtain rfl := Option.some.inj H
        have p101 : 0 ≤ (x5_1 : Int) := of_decide_eq_true (by first | (with_reducible assumption) | assumption)
        have q101 : x5_1 < (l0.length : Int) := of_decide_eq_true (by first | (with_reducible assumption) | assumption)
        obtain ⟨ad101, e101, hx101_0⟩ := Kd.at_string HR0.out x5_1 p101 q101
        cases e101
        replace p101 := eq_true p101
        replace q101 := eq_true q101
        have p102 : 0 ≤ (x5_1 : Int) := of_decide_eq_true (by first | (with_reducible assumption) | assumption)
        have q102 : x5_1 < (l1.length : Int) := of_decide_eq_true (by first | (with_reducible assumption) | assumption)
        obtain ⟨ad102, e102, hx102_0⟩ := Kd.at_string HR1.out x5_1 p102 q102
        cases e102
        replace p102 := eq_true p102
        replace q102 := eq_true q102
        go_wp2
        repeat (go_quiet (fail); try go_wp2)
        go_ret
        exact ⟨by first | rfl | (simp; done) | (simp [*]; done), by repeat (first | exact Drawn0.refl _ | apply Drawn0.step)⟩
      ·rw [if_neg c6] at H
       exact absurd H (by simp)
     ·rw [if_neg c5] at H
      exact absurd H (by simp)
    ·rw [if_neg c4] at H
     have c4b0 : decide (x5_1 < (l0.length : Int)) = false := decide_eq_false c4
     clear c4
     obtain rfl := Option.some.inj H
     go_wp2
     repeat (go_quiet (fail); try go_wp2)
     go_ret
     exact ⟨by first | rfl | (simp; done) | (simp [*]; done), by repeat (first | exact Drawn0.refl _ | apply Drawn0.step)⟩
 ·rw [if_neg c3] at H
  have c3b0 : ((l0.length : Int) == (l1.length : Int)) = false := beq_eq_false_iff_ne.mpr c3
  have c3b1 : ((l0.length : Int) != (l1.length : Int)) = true := bne_iff_ne.mpr c3
  have c3b2 : (l0.length == l1.length) = false := by first | simpa using c3 | (simp at c3 ⊢; omega)
  obtain rfl := Option.some.inj H
  go_enter Tryd.func14, Tryd.ntmps14
  go_wp2
  repeat (go_quiet (fail); try go_wp2)
  go_ret
  exact ⟨by first | rfl | (simp; done) | (simp [*]; done), by repeat (first | exact Drawn0.refl _ | apply Drawn0.step)⟩
mutual
def chicaneref15_Plain.j0 : Nat → ByteArray → Bool → Option (Bool)
 | 0, _, _ => none
 | k + 1, x0, x10 => if x10 = true then (some false) else (chicaneref15_Plain.l0 k x0 0)
def chicaneref15_Plain.l0 : Nat → ByteArray → Int → Option (Bool)
 | 0, _, _ => none
 | k + 1, x0, x3 => if x3 < (x0.size : Int) then (if 0 ≤ x3 then (if (bt x0 x3) < 33 then (some false) else (if (bt x0 x3) > 126 then (some false) else (if (bt x0 x3) = 34 then (some false) else (if (bt x0 x3) = 92 then (some false) else (chicaneref15_Plain.l0 k x0 (wrap64 (x3 + 1))))))) else (none)) else (some true)
end
def chicaneref15_Plain.f (k : Nat) (a0 : ByteArray) : Option (Bool) := if a0.toList = ([] : List UInt8) then (chicaneref15_Plain.j0 k a0 true) else (if 0 < (a0.size : Int) then (chicaneref15_Plain.j0 k a0 ((bt a0 0) == 35)) else (none))
theorem chicaneref15_Plain.mono_l : ∀ k, (∀ y0 y1, LeO (chicaneref15_Plain.j0 k y0 y1) (chicaneref15_Plain.j0 (k + 1) y0 y1)) ∧ (∀ y0 y1, LeO (chicaneref15_Plain.l0 k y0 y1) (chicaneref15_Plain.l0 (k + 1) y0 y1))
 | 0 => ⟨fun _ _ r h => by simp [chicaneref15_Plain.j0] at h, fun _ _ r h => by simp [chicaneref15_Plain.l0] at h⟩
 | k + 1 => by
  obtain ⟨ih0, ih1⟩ := chicaneref15_Plain.mono_l k
  refine ⟨?_, ?_⟩
  ·intro y0 y1
   unfold chicaneref15_Plain.j0
   repeat' first
   | (with_reducible exact ih0 _ _)
   | (with_reducible exact ih1 _ _)
   | (with_reducible exact LeO.refl _)
   | (with_reducible exact LeO.none _)
   | (with_reducible refine LeO.ite ?_ ?_)
   | (with_reducible refine LeO.bind ?_ (fun _ => ?_))
   | exact ih0 _ _
   | exact ih1 _ _
   | exact LeO.none _
   | refine LeO.ite ?_ ?_
   | refine LeO.bind ?_ (fun _ => ?_)
  ·intro y0 y1
   unfold chicaneref15_Plain.l0
   repeat' first
   | (with_reducible exact ih0 _ _)
   | (with_reducible exact ih1 _ _)
   | (with_reducible exact LeO.refl _)
   | (with_reducible exact LeO.none _)
   | (with_reducible refine LeO.ite ?_ ?_)
   | (with_reducible refine LeO.bind ?_ (fun _ => ?_))
   | exact ih0 _ _
   | exact ih1 _ _
   | exact LeO.none _
   | refine LeO.ite ?_ ?_
   | refine LeO.bind ?_ (fun _ => ?_)
theorem chicaneref15_Plain.mono : ∀ a0 k, LeO (chicaneref15_Plain.f k a0) (chicaneref15_Plain.f (k + 1) a0) := by
 intro a0 k
 obtain ⟨ih0, ih1⟩ := chicaneref15_Plain.mono_l k
 unfold chicaneref15_Plain.f
 repeat' first
   | (with_reducible exact ih0 _ _)
   | (with_reducible exact ih1 _ _)
   | (with_reducible exact LeO.refl _)
   | (with_reducible exact LeO.none _)
   | (with_reducible refine LeO.ite ?_ ?_)
   | (with_reducible refine LeO.bind ?_ (fun _ => ?_))
   | exact ih0 _ _
   | exact ih1 _ _
   | exact LeO.none _
   | refine LeO.ite ?_ ?_
   | refine LeO.bind ?_ (fun _ => ?_)
set_option maxHeartbeats 8000000 in
set_option maxRecDepth 100000 in
theorem chicaneref15_Plain.calls (k : Nat) (a0 : ByteArray) (r : Bool) (w : World) (h : chicaneref15_Plain.f k a0 = some r) :
  Calls Tryd.prog 9 #[.string a0] w fun e w' => e = .returned (.bool r) ∧ Drawn0 w w' := by
 have H : (if a0.toList = ([] : List UInt8) then (chicaneref15_Plain.j0 k a0 true) else (if 0 < (a0.size : Int) then (chicaneref15_Plain.j0 k a0 ((bt a0 0) == 35)) else (none))) = some r := h
 clear h
 have HC2 := Aside0.mk H
 clear H
 go_enter Tryd.func9, Tryd.ntmps9
 go_upto_region 1 with (fail)
 go_cut [10] (fun v10 wc => ∃ (kq : Nat) (x10_1 : Bool), v10 = .bool x10_1 ∧ Aside0 (chicaneref15_Plain.j0 kq a0 x10_1 = some r) ∧ Aside0 (kq ≤ k) ∧ Drawn0 w wc)
 case first =>
  have H := HC2.out
  clear HC2
  by_cases c3 : a0.toList = ([] : List UInt8)
  ·rw [if_pos c3] at H
   have c3b0 : (a0.toList == ([] : List UInt8)) = true := beq_iff_eq.mpr c3
   have c3b1 : (a0.toList != ([] : List UInt8)) = false := bne_eq_false_iff_eq.mpr c3
   clear c3
   (first | rw [c3b0] | (simp only [i64_w, i32_w]; rw [c3b0]) | skip)
   have H' := Aside0.mk H
   clear H
   go_wp2
   go_meet
   case rel => exact ⟨_, (true), (by first | rfl | (simp; done) | (simp [*]; done)), H', ⟨by first | omega | exact Nat.le_refl _⟩, by repeat (first | exact Drawn0.refl _ | apply Drawn0.step)⟩
  ·rw [if_neg c3] at H
   have c3b0 : (a0.toList == ([] : List UInt8)) = false := beq_eq_false_iff_ne.mpr c3
   have c3b1 : (a0.toList != ([] : List UInt8)) = true := bne_iff_ne.mpr c3
   (first | rw [c3b0] | (simp only [i64_w, i32_w]; rw [c3b0]) | skip)
   by_cases c4 : 0 < (a0.size : Int)
   ·rw [if_pos c4] at H
    have c4b0 : decide (0 < (a0.size : Int)) = true := decide_eq_true c4
    have c4b1 : decide (0 < a0.size) = true := decide_eq_true (by omega)
    clear c4
    have H' := Aside0.mk H
    clear H
    have p5 : 0 ≤ (0 : Int) := (by omega)
    have q5 : 0 < a0.size := (by have : (0 : Int) < (a0.size : Int) := of_decide_eq_true (by first | (with_reducible assumption) | assumption); omega)
    have hx5 : ∀ h : 0 < a0.size, ((a0[0]'h).toNat : Int) = bt a0 0 := bt_at a0 0
    clear p5
    have qi5 : (0 < (a0.size : Int)) = True := eq_true (of_decide_eq_true (by first | (with_reducible assumption) | assumption))
    replace q5 := eq_true q5
    go_wp2
    go_meet
    case rel => exact ⟨_, (((bt a0 0) == 35)), (by first | rfl | (simp; done) | (simp [*]; done)), H', ⟨by first | omega | exact Nat.le_refl _⟩, by repeat (first | exact Drawn0.refl _ | apply Drawn0.step)⟩
   ·rw [if_neg c4] at H
    exact absurd H (by simp)
 case rest =>
  clear HC2
  try clear p2
  try clear c3
  try clear c3b0
  try clear c3b1
  try clear c4
  try clear c4b0
  try clear c4b1
  try clear p5
  try clear q5
  try clear hx5
  try clear qi5
  try clear p5
  try clear q5
  obtain ⟨kq, x10_1, rfl, HA, HJ1, ⟨mc1, rfl⟩⟩ := hcut
  cases kq with
  | zero => exact absurd HA.out (by simp [chicaneref15_Plain.j0])
  | succ kj1 =>
   have H := HA.out
   clear HA
   simp only [chicaneref15_Plain.j0] at H
   by_cases c6 : x10_1 = true
   ·subst c6
    have H1 : (some false) = some r := by rw [if_pos rfl] at H; exact H
    clear H
    have H := H1
    clear H1
    obtain rfl := Option.some.inj H
    go_wp2
    go_ret
    exact ⟨by first | rfl | (simp; done) | (simp [*]; done), by repeat (first | exact Drawn0.refl _ | apply Drawn0.step)⟩
   ·replace c6 := Bool.eq_false_iff.mpr c6
    subst c6
    have H1 : (chicaneref15_Plain.l0 kj1 a0 0) = some r := by rw [if_neg (show ¬ (false = true) by decide)] at H; exact H
    clear H
    have H := H1
    clear H1
    have H' := Aside0.mk H
    clear H
    go_wp2
    go_loopg [3] kj1 (fun kq v3 w' => ∃ (x3_2 : Int), v3 = .int .i64 x3_2 ∧ Aside0 (chicaneref15_Plain.l0 kq a0 x3_2 = some r) ∧ Aside0 (kq ≤ kj1) ∧ Drawn0 w w')
    case atStart => exact ⟨(0), (by first | rfl | (simp; done) | (simp [*]; done)), H', ⟨Nat.le_refl _⟩, by repeat (first | exact Drawn0.refl _ | apply Drawn0.step)⟩
    case round =>
     clear H'
     try clear c1
     try clear p2
     try clear c3
     try clear c3b0
     try clear c3b1
     try clear c4
     try clear c4b0
     try clear c4b1
     try clear p5
     try clear q5
     try clear hx5
     try clear qi5
     try clear c6
     try clear p2
     try clear p5
     try clear q5
     obtain ⟨x3_2, rfl, HA, HK2, ⟨m2, rfl⟩⟩ := hrel
     cases gk with
     | zero => exact absurd HA.out (by simp [chicaneref15_Plain.l0])
     | succ k2 =>
      have H := HA.out
      clear HA
      simp only [chicaneref15_Plain.l0] at H
      by_cases c7 : x3_2 < (a0.size : Int)
      ·rw [if_pos c7] at H
       have c7b0 : decide (x3_2 < (a0.size : Int)) = true := decide_eq_true c7
       clear c7
       by_cases c8 : 0 ≤ x3_2
       ·rw [if_pos c8] at H
        have c8b0 : decide (0 ≤ x3_2) = true := decide_eq_true c8
        clear c8
        by_cases c10 : (bt a0 x3_2) < 33
        ·rw [if_pos c10] at H
         have c10b0 : decide ((bt a0 x3_2) < 33) = true := decide_eq_true c10
         clear c10
         obtain rfl := Option.some.inj H
         have p9 : 0 ≤ (x3_2 : Int) := of_decide_eq_true (by first | (with_reducible assumption) | assumption)
         have q9 : x3_2 < (a0.size : Int) := of_decide_eq_true (by first | (with_reducible assumption) | assumption)
         have hx9 := bt_at a0 x3_2
         replace p9 := eq_true p9
         replace q9 := eq_true q9
         go_wp2
         go_ret
         exact ⟨by first | rfl | (simp; done) | (simp [*]; done), by repeat (first | exact Drawn0.refl _ | apply Drawn0.step)⟩
        ·rw [if_neg c10] at H
         have c10b0 : decide ((bt a0 x3_2) < 33) = false := decide_eq_false c10
         clear c10
         by_cases c12 : (bt a0 x3_2) > 126
         ·rw [if_pos c12] at H
          have c12b0 : decide (126 < (bt a0 x3_2)) = true := decide_eq_true c12
          clear c12
          obtain rfl := Option.some.inj H
          have p9 : 0 ≤ (x3_2 : Int) := of_decide_eq_true (by first | (with_reducible assumption) | assumption)
          have q9 : x3_2 < (a0.size : Int) := of_decide_eq_true (by first | (with_reducible assumption) | assumption)
          have hx9 := bt_at a0 x3_2
          replace p9 := eq_true p9
          replace q9 := eq_true q9
          have p11 : 0 ≤ (x3_2 : Int) := of_decide_eq_true (by first | (with_reducible assumption) | assumption)
          have q11 : x3_2 < (a0.size : Int) := of_decide_eq_true (by first | (with_reducible assumption) | assumption)
          have hx11 := bt_at a0 x3_2
          replace p11 := eq_true p11
          replace q11 := eq_true q11
          go_wp2
          go_ret
          exact ⟨by first | rfl | (simp; done) | (simp [*]; done), by repeat (first | exact Drawn0.refl _ | apply Drawn0.step)⟩
         ·rw [if_neg c12] at H
          have c12b0 : decide (126 < (bt a0 x3_2)) = false := decide_eq_false c12
          clear c12
          by_cases c14 : (bt a0 x3_2) = 34
          ·rw [if_pos c14] at H
           have c14b0 : ((bt a0 x3_2) == 34) = true := beq_iff_eq.mpr c14
           have c14b1 : ((bt a0 x3_2) != 34) = false := bne_eq_false_iff_eq.mpr c14
           clear c14
           obtain rfl := Option.some.inj H
           have p9 : 0 ≤ (x3_2 : Int) := of_decide_eq_true (by first | (with_reducible assumption) | assumption)
           have q9 : x3_2 < (a0.size : Int) := of_decide_eq_true (by first | (with_reducible assumption) | assumption)
           have hx9 := bt_at a0 x3_2
           replace p9 := eq_true p9
           replace q9 := eq_true q9
           have p11 : 0 ≤ (x3_2 : Int) := of_decide_eq_true (by first | (with_reducible assumption) | assumption)
           have q11 : x3_2 < (a0.size : Int) := of_decide_eq_true (by first | (with_reducible assumption) | assumption)
           have hx11 := bt_at a0 x3_2
           replace p11 := eq_true p11
           replace q11 := eq_true q11
           have p13 : 0 ≤ (x3_2 : Int) := of_decide_eq_true (by first | (with_reducible assumption) | assumption)
           have q13 : x3_2 < (a0.size : Int) := of_decide_eq_true (by first | (with_reducible assumption) | assumption)
           have hx13 := bt_at a0 x3_2
           replace p13 := eq_true p13
           replace q13 := eq_true q13
           go_wp2
           go_ret
           exact ⟨by first | rfl | (simp; done) | (simp [*]; done), by repeat (first | exact Drawn0.refl _ | apply Drawn0.step)⟩
          ·rw [if_neg c14] at H
           have c14b0 : ((bt a0 x3_2) == 34) = false := beq_eq_false_iff_ne.mpr c14
           have c14b1 : ((bt a0 x3_2) != 34) = true := bne_iff_ne.mpr c14
           by_cases c16 : (bt a0 x3_2) = 92
           ·rw [if_pos c16] at H
            have c16b0 : ((bt a0 x3_2) == 92) = true := beq_iff_eq.mpr c16
            have c16b1 : ((bt a0 x3_2) != 92) = false := bne_eq_false_iff_eq.mpr c16
            clear c16
            obtain rfl := Option.some.inj H
            have p9 : 0 ≤ (x3_2 : Int) := of_decide_eq_true (by first | (with_reducible assumption) | assumption)
            have q9 : x3_2 < (a0.size : Int) := of_decide_eq_true (by first | (with_reducible assumption) | assumption)
            have hx9 := bt_at a0 x3_2
            replace p9 := eq_true p9
            replace q9 := eq_true q9
            have p11 : 0 ≤ (x3_2 : Int) := of_decide_eq_true (by first | (with_reducible assumption) | assumption)
            have q11 : x3_2 < (a0.size : Int) := of_decide_eq_true (by first | (with_reducible assumption) | assumption)
            have hx11 := bt_at a0 x3_2
            replace p11 := eq_true p11
            replace q11 := eq_true q11
            have p13 : 0 ≤ (x3_2 : Int) := of_decide_eq_true (by first | (with_reducible assumption) | assumption)
            have q13 : x3_2 < (a0.size : Int) := of_decide_eq_true (by first | (with_reducible assumption) | assumption)
            have hx13 := bt_at a0 x3_2
            replace p13 := eq_true p13
            replace q13 := eq_true q13
            have p15 : 0 ≤ (x3_2 : Int) := of_decide_eq_true (by first | (with_reducible assumption) | assumption)
            have q15 : x3_2 < (a0.size : Int) := of_decide_eq_true (by first | (with_reducible assumption) | assumption)
            have hx15 := bt_at a0 x3_2
            replace p15 := eq_true p15
            replace q15 := eq_true q15
            go_wp2
            go_ret
            exact ⟨by first | rfl | (simp; done) | (simp [*]; done), by repeat (first | exact Drawn0.refl _ | apply Drawn0.step)⟩
           ·rw [if_neg c16] at H
            have c16b0 : ((bt a0 x3_2) == 92) = false := beq_eq_false_iff_ne.mpr c16
            have c16b1 : ((bt a0 x3_2) != 92) = true := bne_iff_ne.mpr c16
            have H' := Aside0.mk H
            clear H
            have p9 : 0 ≤ (x3_2 : Int) := of_decide_eq_true (by first | (with_reducible assumption) | assumption)
            have q9 : x3_2 < (a0.size : Int) := of_decide_eq_true (by first | (with_reducible assumption) | assumption)
            have hx9 := bt_at a0 x3_2
            replace p9 := eq_true p9
            replace q9 := eq_true q9
            have p11 : 0 ≤ (x3_2 : Int) := of_decide_eq_true (by first | (with_reducible assumption) | assumption)
            have q11 : x3_2 < (a0.size : Int) := of_decide_eq_true (by first | (with_reducible assumption) | assumption)
            have hx11 := bt_at a0 x3_2
            replace p11 := eq_true p11
            replace q11 := eq_true q11
            have p13 : 0 ≤ (x3_2 : Int) := of_decide_eq_true (by first | (with_reducible assumption) | assumption)
            have q13 : x3_2 < (a0.size : Int) := of_decide_eq_true (by first | (with_reducible assumption) | assumption)
            have hx13 := bt_at a0 x3_2
            replace p13 := eq_true p13
            replace q13 := eq_true q13
            have p15 : 0 ≤ (x3_2 : Int) := of_decide_eq_true (by first | (with_reducible assumption) | assumption)
            have q15 : x3_2 < (a0.size : Int) := of_decide_eq_true (by first | (with_reducible assumption) | assumption)
            have hx15 := bt_at a0 x3_2
            replace p15 := eq_true p15
            replace q15 := eq_true q15
            go_wp2
            go_roundg k2
            case measure => have := HJ1.out; have := HK2.out; omega
            case rel => exact ⟨(wrap64 (x3_2 + 1)), (by first | rfl | (simp; done) | (simp [*]; done)), H', ⟨by have := HJ1.out; have := HK2.out; omega⟩, by repeat (first | exact Drawn0.refl _ | apply Drawn0.step)⟩
       ·rw [if_neg c8] at H
        exact absurd H (by simp)
      ·rw [if_neg c7] at H
       have c7b0 : decide (x3_2 < (a0.size : Int)) = false := decide_eq_false c7
       clear c7
       obtain rfl := Option.some.inj H
       go_wp2
       go_ret
       exact ⟨by first | rfl | (simp; done) | (simp [*]; done), by repeat (first | exact Drawn0.refl _ | apply Drawn0.step)⟩
def chicaneref15_may.f (a0 : Int) : Option (Bool) := if a0 ≥ 32 then (if a0 ≤ 126 then (some true) else (some (a0 == 9))) else (some (a0 == 9))
set_option maxHeartbeats 8000000 in
set_option maxRecDepth 100000 in
theorem chicaneref15_may.calls (a0 : Int) (r : Bool) (w : World) (h : chicaneref15_may.f a0 = some r) :
  Calls Tryd.prog 22 #[.int .u8 a0] w fun e w' => e = .returned (.bool r) ∧ Drawn0 w w' := by
 have H : (if a0 ≥ 32 then (if a0 ≤ 126 then (some true) else (some (a0 == 9))) else (some (a0 == 9))) = some r := h
 clear h
 by_cases c2 : a0 ≥ 32
 ·rw [if_pos c2] at H
  have c2b0 : decide (32 ≤ a0) = true := decide_eq_true c2
  clear c2
  by_cases c3 : a0 ≤ 126
  ·rw [if_pos c3] at H
   have c3b0 : decide (a0 ≤ 126) = true := decide_eq_true c3
   clear c3
   obtain rfl := Option.some.inj H
   go_enter Tryd.func22, Tryd.ntmps22
   go_wp2
   go_ret
   exact ⟨by first | rfl | (simp; done) | (simp [*]; done), by repeat (first | exact Drawn0.refl _ | apply Drawn0.step)⟩
  ·rw [if_neg c3] at H
   have c3b0 : decide (a0 ≤ 126) = false := decide_eq_false c3
   clear c3
   obtain rfl := Option.some.inj H
   go_enter Tryd.func22, Tryd.ntmps22
   go_wp2
   go_ret
   exact ⟨by first | rfl | (simp; done) | (simp [*]; done), by repeat (first | exact Drawn0.refl _ | apply Drawn0.step)⟩
 ·rw [if_neg c2] at H
  have c2b0 : decide (32 ≤ a0) = false := decide_eq_false c2
  clear c2
  obtain rfl := Option.some.inj H
  go_enter Tryd.func22, Tryd.ntmps22
  go_wp2
  go_ret
  exact ⟨by first | rfl | (simp; done) | (simp [*]; done), by repeat (first | exact Drawn0.refl _ | apply Drawn0.step)⟩
end Go.Proofs.YtbfeokfninedcaaDoor.PWrdA
namespace Go.Proofs.YtbfeokfninedcaaDoor.PWrdA
open Go.Proofs.YtbfeokfninedcaaDoor.Ext Go.RowKit Go.Proofs.YtbfeokfninedcaaDoorW.PrintWords Go.Proofs.YtbfeokfninedcaaDoorW.PrintLast Go.Proofs.YtbfeokfninedcaaDoorW.PrintMore
attribute [local go_sem] max2_int min2_int max_two min_two max_three min_three max_four min_four   -- for this text's walks alone
set_option linter.unusedVariables false
set_option linter.unusedSimpArgs false
mutual
def chicaneref15_Join.l0 : Nat → List ByteArray → ByteArray → Int → Option (ByteArray)
 | 0, _, _, _ => none
 | k + 1, x0, x3, x4 => if x4 < (x0.length : Int) then (if x4 > 0 then (if x3.size + 1 ≤ 9223372036854775807 then (chicaneref15_Join.j1 k x0 (x3 ++ (⟨#[32]⟩ : ByteArray)) x4) else (none)) else (chicaneref15_Join.j1 k x0 x3 x4)) else (if (x3.size : Int) > 256 then (some (⟨#[]⟩ : ByteArray)) else (some x3))
def chicaneref15_Join.j1 : Nat → List ByteArray → ByteArray → Int → Option (ByteArray)
 | 0, _, _, _ => none
 | k + 1, x0, x3, x4 => if 0 ≤ x4 then (if x4 < (x0.length : Int) then ((chicaneref15_Plain.f k (rdOf ByteArray.empty x0 x4)).bind fun t104 => (if t104 = true then (chicaneref15_Join.j2 k x0 x3 x4 (⟨#[]⟩ : ByteArray)) else (chicaneref15_Join.j2 k x0 x3 x4 (strOfNums (([34] : List Int)))))) else (none)) else (none)
def chicaneref15_Join.j2 : Nat → List ByteArray → ByteArray → Int → ByteArray → Option (ByteArray)
 | 0, _, _, _, _ => none
 | k + 1, x0, x3, x4, x5 => if x3.size + x5.size ≤ 9223372036854775807 then (chicaneref15_Join.l1 k x0 (x3 ++ x5) x4 x5 0) else (none)
def chicaneref15_Join.l1 : Nat → List ByteArray → ByteArray → Int → ByteArray → Int → Option (ByteArray)
 | 0, _, _, _, _, _ => none
 | k + 1, x0, x3, x4, x5, x6 => if 0 ≤ x4 then (if x4 < (x0.length : Int) then (if x6 < ((rdOf ByteArray.empty x0 x4).size : Int) then (if 0 ≤ x6 then ((chicaneref15_may.f (bt (rdOf ByteArray.empty x0 x4) x6)).bind fun t110 => (if t110 = true then (if (bt (rdOf ByteArray.empty x0 x4) x6) = 34 then ((some (([92] : List Int) : List Int)).bind fun y111 => (if x3.size + (strOfNums y111).size ≤ 9223372036854775807 then ((some (([bt (rdOf ByteArray.empty x0 x4) x6] : List Int) : List Int)).bind fun y114 => (if (x3 ++ (strOfNums y111)).size + (strOfNums y114).size ≤ 9223372036854775807 then (chicaneref15_Join.l1 k x0 ((x3 ++ (strOfNums y111)) ++ (strOfNums y114)) x4 x5 (wrap64 (x6 + 1))) else (none))) else (none))) else (if (bt (rdOf ByteArray.empty x0 x4) x6) = 92 then ((some (([92] : List Int) : List Int)).bind fun y117 => (if x3.size + (strOfNums y117).size ≤ 9223372036854775807 then ((some (([bt (rdOf ByteArray.empty x0 x4) x6] : List Int) : List Int)).bind fun y120 => (if (x3 ++ (strOfNums y117)).size + (strOfNums y120).size ≤ 9223372036854775807 then (chicaneref15_Join.l1 k x0 ((x3 ++ (strOfNums y117)) ++ (strOfNums y120)) x4 x5 (wrap64 (x6 + 1))) else (none))) else (none))) else ((some (([bt (rdOf ByteArray.empty x0 x4) x6] : List Int) : List Int)).bind fun y123 => (if x3.size + (strOfNums y123).size ≤ 9223372036854775807 then (chicaneref15_Join.l1 k x0 (x3 ++ (strOfNums y123)) x4 x5 (wrap64 (x6 + 1))) else (none))))) else (some (⟨#[]⟩ : ByteArray)))) else (none)) else (if x3.size + x5.size ≤ 9223372036854775807 then (chicaneref15_Join.l0 k x0 (x3 ++ x5) (wrap64 (x4 + 1))) else (none))) else (none)) else (none)
end
def chicaneref15_Join.f (k : Nat) (l0 : List ByteArray) : Option (ByteArray) := if (l0.length : Int) > 16 then (some (⟨#[]⟩ : ByteArray)) else (chicaneref15_Join.l0 k l0 (⟨#[]⟩ : ByteArray) 0)
theorem chicaneref15_Join.mono_l : ∀ k, (∀ y0 y1 y2, LeO (chicaneref15_Join.l0 k y0 y1 y2) (chicaneref15_Join.l0 (k + 1) y0 y1 y2)) ∧ (∀ y0 y1 y2, LeO (chicaneref15_Join.j1 k y0 y1 y2) (chicaneref15_Join.j1 (k + 1) y0 y1 y2)) ∧ (∀ y0 y1 y2 y3, LeO (chicaneref15_Join.j2 k y0 y1 y2 y3) (chicaneref15_Join.j2 (k + 1) y0 y1 y2 y3)) ∧ (∀ y0 y1 y2 y3 y4, LeO (chicaneref15_Join.l1 k y0 y1 y2 y3 y4) (chicaneref15_Join.l1 (k + 1) y0 y1 y2 y3 y4))
 | 0 => ⟨fun _ _ _ r h => by simp [chicaneref15_Join.l0] at h, fun _ _ _ r h => by simp [chicaneref15_Join.j1] at h, fun _ _ _ _ r h => by simp [chicaneref15_Join.j2] at h, fun _ _ _ _ _ r h => by simp [chicaneref15_Join.l1] at h⟩
 | k + 1 => by
  obtain ⟨ih0, ih1, ih2, ih3⟩ := chicaneref15_Join.mono_l k
  refine ⟨?_, ?_, ?_, ?_⟩
  ·intro y0 y1 y2
   unfold chicaneref15_Join.l0
   repeat' first
   | (with_reducible exact ih0 _ _ _)
   | (with_reducible exact ih1 _ _ _)
   | (with_reducible exact ih2 _ _ _ _)
   | (with_reducible exact ih3 _ _ _ _ _)
   | (with_reducible exact chicaneref15_Plain.mono _ _)
   | (with_reducible exact LeO.refl _)
   | (with_reducible exact LeO.none _)
   | (with_reducible refine LeO.ite ?_ ?_)
   | (with_reducible refine LeO.bind ?_ (fun _ => ?_))
   | exact ih0 _ _ _
   | exact ih1 _ _ _
   | exact ih2 _ _ _ _
   | exact ih3 _ _ _ _ _
   | exact chicaneref15_Plain.mono _ _
   | exact LeO.none _
   | refine LeO.ite ?_ ?_
   | refine LeO.bind ?_ (fun _ => ?_)
  ·intro y0 y1 y2
   unfold chicaneref15_Join.j1
   repeat' first
   | (with_reducible exact ih0 _ _ _)
   | (with_reducible exact ih1 _ _ _)
   | (with_reducible exact ih2 _ _ _ _)
   | (with_reducible exact ih3 _ _ _ _ _)
   | (with_reducible exact chicaneref15_Plain.mono _ _)
   | (with_reducible exact LeO.refl _)
   | (with_reducible exact LeO.none _)
   | (with_reducible refine LeO.ite ?_ ?_)
   | (with_reducible refine LeO.bind ?_ (fun _ => ?_))
   | exact ih0 _ _ _
   | exact ih1 _ _ _
   | exact ih2 _ _ _ _
   | exact ih3 _ _ _ _ _
   | exact chicaneref15_Plain.mono _ _
   | exact LeO.none _
   | refine LeO.ite ?_ ?_
   | refine LeO.bind ?_ (fun _ => ?_)
  ·intro y0 y1 y2 y3
   unfold chicaneref15_Join.j2
   repeat' first
   | (with_reducible exact ih0 _ _ _)
   | (with_reducible exact ih1 _ _ _)
   | (with_reducible exact ih2 _ _ _ _)
   | (with_reducible exact ih3 _ _ _ _ _)
   | (with_reducible exact chicaneref15_Plain.mono _ _)
   | (with_reducible exact LeO.refl _)
   | (with_reducible exact LeO.none _)
   | (with_reducible refine LeO.ite ?_ ?_)
   | (with_reducible refine LeO.bind ?_ (fun _ => ?_))
   | exact ih0 _ _ _
   | exact ih1 _ _ _
   | exact ih2 _ _ _ _
   | exact ih3 _ _ _ _ _
   | exact chicaneref15_Plain.mono _ _
   | exact LeO.none _
   | refine LeO.ite ?_ ?_
   | refine LeO.bind ?_ (fun _ => ?_)
  ·intro y0 y1 y2 y3 y4
   unfold chicaneref15_Join.l1
   repeat' first
   | (with_reducible exact ih0 _ _ _)
   | (with_reducible exact ih1 _ _ _)
   | (with_reducible exact ih2 _ _ _ _)
   | (with_reducible exact ih3 _ _ _ _ _)
   | (with_reducible exact chicaneref15_Plain.mono _ _)
   | (with_reducible exact LeO.refl _)
   | (with_reducible exact LeO.none _)
   | (with_reducible refine LeO.ite ?_ ?_)
   | (with_reducible refine LeO.bind ?_ (fun _ => ?_))
   | exact ih0 _ _ _
   | exact ih1 _ _ _
   | exact ih2 _ _ _ _
   | exact ih3 _ _ _ _ _
   | exact chicaneref15_Plain.mono _ _
   | exact LeO.none _
   | refine LeO.ite ?_ ?_
   | refine LeO.bind ?_ (fun _ => ?_)
theorem chicaneref15_Join.mono : ∀ a0 k, LeO (chicaneref15_Join.f k a0) (chicaneref15_Join.f (k + 1) a0) := by
 intro a0 k
 obtain ⟨ih0, ih1, ih2, ih3⟩ := chicaneref15_Join.mono_l k
 unfold chicaneref15_Join.f
 repeat' first
   | (with_reducible exact ih0 _ _ _)
   | (with_reducible exact ih1 _ _ _)
   | (with_reducible exact ih2 _ _ _ _)
   | (with_reducible exact ih3 _ _ _ _ _)
   | (with_reducible exact chicaneref15_Plain.mono _ _)
   | (with_reducible exact LeO.refl _)
   | (with_reducible exact LeO.none _)
   | (with_reducible refine LeO.ite ?_ ?_)
   | (with_reducible refine LeO.bind ?_ (fun _ => ?_))
   | exact ih0 _ _ _
   | exact ih1 _ _ _
   | exact ih2 _ _ _ _
   | exact ih3 _ _ _ _ _
   | exact chicaneref15_Plain.mono _ _
   | exact LeO.none _
   | refine LeO.ite ?_ ?_
   | refine LeO.bind ?_ (fun _ => ?_)
set_option maxHeartbeats 8000000 in
set_option maxRecDepth 100000 in
theorem chicaneref15_Join.calls (k : Nat) (A0 : Option Addr) (c0 : Nat) (l0 : List ByteArray) (r : ByteArray) (w : World) (hr0 : Kd.C Kd.string w A0 l0.length l0) (hc0 : l0.length ≤ c0) (h : chicaneref15_Join.f k l0 = some r) :
  Calls Tryd.prog 12 #[.slice A0 l0.length c0] w fun e w' => e = .returned (.string r) ∧ Below w.heap.size w w' := by
 have HR0 := Aside0.mk hr0
 have HC0 := Aside0.mk hc0
 clear hr0 hc0
 have HB := Aside0.mk (Below.refl w.heap.size w)
 have H : (if (l0.length : Int) > 16 then (some (⟨#[]⟩ : ByteArray)) else (chicaneref15_Join.l0 k l0 (⟨#[]⟩ : ByteArray) 0)) = some r := h
 clear h
 by_cases c2 : (l0.length : Int) > 16
 ·rw [if_pos c2] at H
  have c2b0 : decide (16 < (l0.length : Int)) = true := decide_eq_true c2
  have c2b1 : decide (16 < l0.length) = true := decide_eq_true (by omega)
  clear c2
  obtain rfl := Option.some.inj H
  go_enter Tryd.func12, Tryd.ntmps12
  go_wp2
  go_ret
  exact ⟨by first | rfl | (simp [errW_none, errW_some] <;> rfl) | (simp [*, errW_none, errW_some] <;> rfl), by repeat (first | (with_reducible first | exact HB.out | apply below_alloc | apply pw_below_drewN | apply below_drew1) | exact HB.out)⟩
 ·rw [if_neg c2] at H
  have c2b0 : decide (16 < (l0.length : Int)) = false := decide_eq_false c2
  have c2b1 : decide (16 < l0.length) = false := decide_eq_false (by omega)
  clear c2
  have H' := Aside0.mk H
  clear H
  go_enter Tryd.func12, Tryd.ntmps12
  go_wp2
  go_loopg [3, 4] k (fun kq v3 v4 w' => ∃ (x3_1 : ByteArray) (x4_1 : Int), v3 = .string x3_1 ∧ v4 = .int .i64 x4_1 ∧ Aside0 (chicaneref15_Join.l0 kq l0 x3_1 x4_1 = some r) ∧ Aside0 (kq ≤ k) ∧ Aside0 (Below w.heap.size w w'))
  case atStart => exact ⟨((⟨#[]⟩ : ByteArray)), (0), (by first | rfl | (simp; done) | (simp [*]; done)), (by first | rfl | (simp; done) | (simp [*]; done)), H', ⟨Nat.le_refl _⟩, ⟨by repeat (first | (with_reducible first | exact HB.out | apply below_alloc | apply pw_below_drewN | apply below_drew1) | exact HB.out)⟩⟩
  case round =>
   clear H'
   try clear c1
   try clear c2
   try clear c2b0
   try clear c2b1
   try clear p2
   obtain ⟨x3_1, x4_1, rfl, rfl, HA, HK1, HB⟩ := hrel
   cases gk with
   | zero => exact absurd HA.out (by simp [chicaneref15_Join.l0])
   | succ k1 =>
    have H := HA.out
    clear HA
    simp only [chicaneref15_Join.l0] at H
    by_cases c3 : x4_1 < (l0.length : Int)
    ·rw [if_pos c3] at H
     have c3b0 : decide (x4_1 < (l0.length : Int)) = true := decide_eq_true c3
     clear c3
     have HC4 := Aside0.mk H
     clear H
     go_upto_if 18 with (fail)
     go_cut [3] (fun v3 wc => ∃ (kq : Nat) (x3_3 : ByteArray), v3 = .string x3_3 ∧ Aside0 (chicaneref15_Join.j1 kq l0 x3_3 x4_1 = some r) ∧ Aside0 (kq ≤ k1) ∧ Aside0 (Below w.heap.size w wc))
     case first =>
      have H := HC4.out
      clear HC4
      by_cases c5 : x4_1 > 0
      ·rw [if_pos c5] at H
       have c5b0 : decide (0 < x4_1) = true := decide_eq_true c5
       clear c5
       (first | rw [c5b0] | (simp only [i64_w, i32_w]; rw [c5b0]) | skip)
       by_cases c6 : x3_1.size + 1 ≤ 9223372036854775807
       ·rw [if_pos c6] at H
        have c6b0 := eq_true c6
        have c6b1 : decide (x3_1.size + 1 ≤ 9223372036854775807) = true := decide_eq_true c6
        try have c6b2 : (9223372036854775807 < x3_1.size + 1) = False := eq_false (Nat.not_lt.2 c6)
        have H' := Aside0.mk H
        clear H
        go_wp2
        go_meet
        case rel => exact ⟨_, (x3_1 ++ (⟨#[32]⟩ : ByteArray)), (by first | rfl | (simp; done) | (simp [*]; done)), H', ⟨by have := HK1.out; first | omega | exact Nat.le_refl _⟩, ⟨by repeat (first | (with_reducible first | exact HB.out | apply below_alloc | apply pw_below_drewN | apply below_drew1) | exact HB.out)⟩⟩
       ·rw [if_neg c6] at H
        exact absurd H (by simp)
      ·rw [if_neg c5] at H
       have c5b0 : decide (0 < x4_1) = false := decide_eq_false c5
       clear c5
       (first | rw [c5b0] | (simp only [i64_w, i32_w]; rw [c5b0]) | skip)
       have H' := Aside0.mk H
       clear H
       go_wp2
       go_meet
       case rel => exact ⟨_, (x3_1), (by first | rfl | (simp; done) | (simp [*]; done)), H', ⟨by have := HK1.out; first | omega | exact Nat.le_refl _⟩, ⟨by repeat (first | (with_reducible first | exact HB.out | apply below_alloc | apply pw_below_drewN | apply below_drew1) | exact HB.out)⟩⟩
     case rest =>
      clear HC4
      try clear c1
      try clear c2
      try clear c2b0
      try clear c2b1
      try clear p2
      try clear c3
      try clear c3b0
      try clear c5
      try clear c5b0
      try clear c6
      try clear c6b0
      try clear c6b1
      try clear c6b2
      try clear c6b3
      try clear p2
      obtain ⟨kq, x3_3, rfl, HA, HJ3, HB⟩ := hcut
      cases kq with
      | zero => exact absurd HA.out (by simp [chicaneref15_Join.j1])
      | succ kj3 =>
       have H := HA.out
       clear HA
       simp only [chicaneref15_Join.j1] at H
       by_cases c7 : 0 ≤ x4_1
       ·rw [if_pos c7] at H
        have c7b0 : decide (0 ≤ x4_1) = true := decide_eq_true c7
        clear c7
        by_cases c8 : x4_1 < (l0.length : Int)
        ·rw [if_pos c8] at H
         have c8b0 : decide (x4_1 < (l0.length : Int)) = true := decide_eq_true c8
         clear c8
         replace H := Option.bind_eq_some_iff.mp H
         obtain ⟨t104, A90, H⟩ := H
         replace H : (if t104 = true then (chicaneref15_Join.j2 kj3 l0 x3_3 x4_1 (⟨#[]⟩ : ByteArray)) else (chicaneref15_Join.j2 kj3 l0 x3_3 x4_1 (strOfNums (([34] : List Int))))) = some r := H
         have A9 := Aside0.mk A90
         clear A90
         have HC10 := Aside0.mk H
         clear H
         have p103 : 0 ≤ (x4_1 : Int) := of_decide_eq_true (by first | (with_reducible assumption) | assumption)
         have q103 : x4_1 < (l0.length : Int) := of_decide_eq_true (by first | (with_reducible assumption) | assumption)
         obtain ⟨ad103, e103, hx103_0⟩ := Kd.at_string HR0.out x4_1 p103 q103
         cases e103
         replace hx103_0 := (HB.out.cell (World.block_lt_of_cell? w _ hx103_0)).trans hx103_0
         replace p103 := eq_true p103
         replace q103 := eq_true q103
         go_upto_if 26 with (first | ((with_reducible refine gate_callee (f := 9) rfl ?_); refine goesL_ (some 25) rfl rfl Tryd.func9 (by kernel_rfl) rfl #[.string (rdOf ByteArray.empty l0 x4_1)] rfl (by (try simp only [List.map_toArray, List.map_cons, List.map_nil]); first | done | rfl | (simp only [List.length_drop, List.length_take]; rfl)) ?_; (with_reducible refine (chicaneref15_Plain.calls kj3 (rdOf ByteArray.empty l0 x4_1) t104 _ A9.out).mono ?_); rintro e w' ⟨rfl, ⟨nd, rfl⟩⟩; refine ⟨_, rfl, ?_⟩))
         (try simp only [Act.put, List.setIfInBounds_toArray, List.set_cons_zero, List.set_cons_succ])
         go_cut [5] (fun v5 wc => ∃ (kq : Nat) (x5_9 : ByteArray), v5 = .string x5_9 ∧ Aside0 (chicaneref15_Join.j2 kq l0 x3_3 x4_1 x5_9 = some r) ∧ Aside0 (kq ≤ kj3) ∧ Aside0 (Below w.heap.size w wc))
         case first =>
          have H := HC10.out
          clear HC10
          by_cases c11 : t104 = true
          ·subst c11
           have H1 : (chicaneref15_Join.j2 kj3 l0 x3_3 x4_1 (⟨#[]⟩ : ByteArray)) = some r := by rw [if_pos rfl] at H; exact H
           clear H
           have H := H1
           clear H1
           have H' := Aside0.mk H
           clear H
           go_wp2
           go_meet
           case rel => exact ⟨_, ((⟨#[]⟩ : ByteArray)), (by first | rfl | (simp; done) | (simp [*]; done)), H', ⟨by have := HK1.out; have := HJ3.out; first | omega | exact Nat.le_refl _⟩, ⟨by repeat (first | (with_reducible first | exact HB.out | apply below_alloc | apply pw_below_drewN | apply below_drew1) | exact HB.out)⟩⟩
          ·replace c11 := Bool.eq_false_iff.mpr c11
           subst c11
           have H1 : (chicaneref15_Join.j2 kj3 l0 x3_3 x4_1 (strOfNums (([34] : List Int)))) = some r := by rw [if_neg (show ¬ (false = true) by decide)] at H; exact H
           clear H
           have H := H1
           clear H1
           obtain ⟨y105, hy105⟩ : ∃ y_ : List Int, y_ = (([34] : List Int)) := ⟨_, rfl⟩
           replace H : (chicaneref15_Join.j2 kj3 l0 x3_3 x4_1 (strOfNums y105)) = some r := by first | (rw [hy105]; with_reducible exact H) | (have H2_ := (Option.bind_some _ _).symm.trans H; rw [hy105]; with_reducible exact H2_) | (have H2_ := (Option.bind_some _ _).symm.trans H; with_reducible exact H2_) | with_reducible exact H | (rw [hy105]; exact H) | exact H
           have Ny105 := Aside0.mk hy105
           clear hy105
           have H' := Aside0.mk H
           clear H
           go_wp2_with (first | ((with_reducible refine gate_dst (N := 27) rfl ?_); refine Kd.R_lit (Kd.int .u8) _ 5 ?hg (N := 27) ?hd (xs := ([34] : List Int)) (inner := [.int .u8 34]) (ok := fun _ => True) (okp := fun _ => True) ?hr ?hp (fun _ hk => hk) trivial (Below.refl _ _) (Nat.le_refl _) (by simp) ?_; (case hd => rfl); (case hg => rfl); (case hr => first | (go_simp; done) | (go_simp; rfl)); (case hp => exact (Reps.one (show Kd.M (Kd.int .u8) _ _ _ 34 [.int .u8 34] from rfl) (Reps.none _ _))); intro v106 w12 ho13 hb hg_ hnew_; clear hg_ hnew_; (first | rw [← Ny105.out] at ho13 | (simp only [Int.reduceToNat] at ho13; rw [← Ny105.out] at ho13)); have n0_ := Aside0.mk (Kd.R_lower ho13 (below_size (by repeat (first | (with_reducible first | exact HB.out | apply below_alloc | apply pw_below_drewN | apply below_drew1) | exact HB.out)))); have n1_ := Aside0.mk (below_step (by repeat (first | (with_reducible first | exact HB.out | apply below_alloc | apply pw_below_drewN | apply below_drew1) | exact HB.out)) hb); clear HB; have HO107 := n0_; have HB := n1_; clear n0_ n1_; clear hb ho13; have hcv14 := own_string (P := Tryd.prog) Tryd.underlying39 Tryd.underlying5 Tryd.underlying9 (Kd.own_of_R HO107.out)))
           go_meet
           case rel => exact ⟨_, (strOfNums y105), (by first | rfl | (simp; done) | (simp [*]; done)), H', ⟨by have := HK1.out; have := HJ3.out; first | omega | exact Nat.le_refl _⟩, ⟨by repeat (first | (with_reducible first | exact HB.out | apply below_alloc | apply pw_below_drewN | apply below_drew1) | exact HB.out)⟩⟩
         case rest =>
          clear HC10
          try clear c1
          try clear p1
          try clear q1
          try clear hx1
          try clear hcv1
          try clear c2
          try clear c2b0
          try clear c2b1
          try clear p2
          try clear c3
          try clear c3b0
          try clear c5
          try clear c5b0
          try clear c6
          try clear c6b0
          try clear c6b1
          try clear c6b2
          try clear c6b3
          try clear c7
          try clear c7b0
          try clear c8
          try clear c8b0
          try clear c9
          try clear p10
          try clear q10
          try clear hx10
          try clear c11
          try clear c12
          try clear hcv14
          try clear hx103_0
          try clear p103
          try clear p2
          try clear q103
          obtain ⟨kq, x5_9, rfl, HA, HJ9, HB⟩ := hcut
          cases kq with
          | zero => exact absurd HA.out (by simp [chicaneref15_Join.j2])
          | succ kj9 =>
           have H := HA.out
           clear HA
           simp only [chicaneref15_Join.j2] at H
           by_cases c15 : x3_3.size + x5_9.size ≤ 9223372036854775807
           ·rw [if_pos c15] at H
            have c15b0 := eq_true c15
            have c15b1 : decide (x3_3.size + x5_9.size ≤ 9223372036854775807) = true := decide_eq_true c15
            try have c15b2 : (9223372036854775807 < x3_3.size + x5_9.size) = False := eq_false (Nat.not_lt.2 c15)
            have H' := Aside0.mk H
            clear H
            go_wp2
            go_loopg [3, 6] kj9 (fun kq v3 v6 w' => ∃ (x3_4 : ByteArray) (x6_4 : Int), v3 = .string x3_4 ∧ v6 = .int .i64 x6_4 ∧ Aside0 (chicaneref15_Join.l1 kq l0 x3_4 x4_1 x5_9 x6_4 = some r) ∧ Aside0 (kq ≤ kj9) ∧ Aside0 (Below w.heap.size w w'))
            case atStart => exact ⟨(x3_3 ++ x5_9), (0), (by first | rfl | (simp; done) | (simp [*]; done)), (by first | rfl | (simp; done) | (simp [*]; done)), H', ⟨Nat.le_refl _⟩, ⟨by repeat (first | (with_reducible first | exact HB.out | apply below_alloc | apply pw_below_drewN | apply below_drew1) | exact HB.out)⟩⟩
            case round =>
             clear H'
             try clear c1
             try clear p1
             try clear q1
             try clear hx1
             try clear hcv1
             try clear c2
             try clear c2b0
             try clear c2b1
             try clear p2
             try clear c3
             try clear c3b0
             try clear c5
             try clear c5b0
             try clear c6
             try clear c6b0
             try clear c6b1
             try clear c6b2
             try clear c6b3
             try clear c7
             try clear c7b0
             try clear c8
             try clear c8b0
             try clear c9
             try clear p10
             try clear q10
             try clear hx10
             try clear c11
             try clear c12
             try clear hcv14
             try clear c15
             try clear c15b0
             try clear c15b1
             try clear c15b2
             try clear c15b3
             try clear hx103_0
             try clear p1
             try clear p10
             try clear p103
             try clear p2
             try clear q1
             try clear q10
             try clear q103
             obtain ⟨x3_4, x6_4, rfl, rfl, HA, HK4, HB⟩ := hrel
             cases gk with
             | zero => exact absurd HA.out (by simp [chicaneref15_Join.l1])
             | succ k4 =>
              have H := HA.out
              clear HA
              simp only [chicaneref15_Join.l1] at H
              by_cases c16 : 0 ≤ x4_1
              ·rw [if_pos c16] at H
               have c16b0 : decide (0 ≤ x4_1) = true := decide_eq_true c16
               clear c16
               by_cases c17 : x4_1 < (l0.length : Int)
               ·rw [if_pos c17] at H
                have c17b0 : decide (x4_1 < (l0.length : Int)) = true := decide_eq_true c17
                clear c17
                by_cases c18 : x6_4 < ((rdOf ByteArray.empty l0 x4_1).size : Int)
                ·rw [if_pos c18] at H
                 have c18b0 : decide (x6_4 < ((rdOf ByteArray.empty l0 x4_1).size : Int)) = true := decide_eq_true c18
                 clear c18
                 by_cases c19 : 0 ≤ x6_4
                 ·rw [if_pos c19] at H
                  have c19b0 : decide (0 ≤ x6_4) = true := decide_eq_true c19
                  clear c19
                  replace H := Option.bind_eq_some_iff.mp H
                  obtain ⟨t110, A210, H⟩ := H
                  replace H : (if t110 = true then (if (bt (rdOf ByteArray.empty l0 x4_1) x6_4) = 34 then ((some (([92] : List Int) : List Int)).bind fun y111 => (if x3_4.size + (strOfNums y111).size ≤ 9223372036854775807 then ((some (([bt (rdOf ByteArray.empty l0 x4_1) x6_4] : List Int) : List Int)).bind fun y114 => (if (x3_4 ++ (strOfNums y111)).size + (strOfNums y114).size ≤ 9223372036854775807 then (chicaneref15_Join.l1 k4 l0 ((x3_4 ++ (strOfNums y111)) ++ (strOfNums y114)) x4_1 x5_9 (wrap64 (x6_4 + 1))) else (none))) else (none))) else (if (bt (rdOf ByteArray.empty l0 x4_1) x6_4) = 92 then ((some (([92] : List Int) : List Int)).bind fun y117 => (if x3_4.size + (strOfNums y117).size ≤ 9223372036854775807 then ((some (([bt (rdOf ByteArray.empty l0 x4_1) x6_4] : List Int) : List Int)).bind fun y120 => (if (x3_4 ++ (strOfNums y117)).size + (strOfNums y120).size ≤ 9223372036854775807 then (chicaneref15_Join.l1 k4 l0 ((x3_4 ++ (strOfNums y117)) ++ (strOfNums y120)) x4_1 x5_9 (wrap64 (x6_4 + 1))) else (none))) else (none))) else ((some (([bt (rdOf ByteArray.empty l0 x4_1) x6_4] : List Int) : List Int)).bind fun y123 => (if x3_4.size + (strOfNums y123).size ≤ 9223372036854775807 then (chicaneref15_Join.l1 k4 l0 (x3_4 ++ (strOfNums y123)) x4_1 x5_9 (wrap64 (x6_4 + 1))) else (none))))) else (some (⟨#[]⟩ : ByteArray))) = some r := H
                  have A21 := Aside0.mk A210
                  clear A210
                  by_cases c22 : t110 = true
                  ·subst c22
                   have H1 : (if (bt (rdOf ByteArray.empty l0 x4_1) x6_4) = 34 then ((some (([92] : List Int) : List Int)).bind fun y111 => (if x3_4.size + (strOfNums y111).size ≤ 9223372036854775807 then ((some (([bt (rdOf ByteArray.empty l0 x4_1) x6_4] : List Int) : List Int)).bind fun y114 => (if (x3_4 ++ (strOfNums y111)).size + (strOfNums y114).size ≤ 9223372036854775807 then (chicaneref15_Join.l1 k4 l0 ((x3_4 ++ (strOfNums y111)) ++ (strOfNums y114)) x4_1 x5_9 (wrap64 (x6_4 + 1))) else (none))) else (none))) else (if (bt (rdOf ByteArray.empty l0 x4_1) x6_4) = 92 then ((some (([92] : List Int) : List Int)).bind fun y117 => (if x3_4.size + (strOfNums y117).size ≤ 9223372036854775807 then ((some (([bt (rdOf ByteArray.empty l0 x4_1) x6_4] : List Int) : List Int)).bind fun y120 => (if (x3_4 ++ (strOfNums y117)).size + (strOfNums y120).size ≤ 9223372036854775807 then (chicaneref15_Join.l1 k4 l0 ((x3_4 ++ (strOfNums y117)) ++ (strOfNums y120)) x4_1 x5_9 (wrap64 (x6_4 + 1))) else (none))) else (none))) else ((some (([bt (rdOf ByteArray.empty l0 x4_1) x6_4] : List Int) : List Int)).bind fun y123 => (if x3_4.size + (strOfNums y123).size ≤ 9223372036854775807 then (chicaneref15_Join.l1 k4 l0 (x3_4 ++ (strOfNums y123)) x4_1 x5_9 (wrap64 (x6_4 + 1))) else (none))))) = some r := by rw [if_pos rfl] at H; exact H
                   clear H
                   have H := H1
                   clear H1
                   by_cases c23 : (bt (rdOf ByteArray.empty l0 x4_1) x6_4) = 34
                   ·rw [if_pos c23] at H
                    have c23b0 : ((bt (rdOf ByteArray.empty l0 x4_1) x6_4) == 34) = true := beq_iff_eq.mpr c23
                    have c23b1 : ((bt (rdOf ByteArray.empty l0 x4_1) x6_4) != 34) = false := bne_eq_false_iff_eq.mpr c23
                    clear c23
                    obtain ⟨y111, hy111⟩ : ∃ y_ : List Int, y_ = (([92] : List Int)) := ⟨_, rfl⟩
                    replace H : (if x3_4.size + (strOfNums y111).size ≤ 9223372036854775807 then ((some (([bt (rdOf ByteArray.empty l0 x4_1) x6_4] : List Int) : List Int)).bind fun y114 => (if (x3_4 ++ (strOfNums y111)).size + (strOfNums y114).size ≤ 9223372036854775807 then (chicaneref15_Join.l1 k4 l0 ((x3_4 ++ (strOfNums y111)) ++ (strOfNums y114)) x4_1 x5_9 (wrap64 (x6_4 + 1))) else (none))) else (none)) = some r := by first | (rw [hy111]; with_reducible exact H) | (have H2_ := (Option.bind_some _ _).symm.trans H; rw [hy111]; with_reducible exact H2_) | (have H2_ := (Option.bind_some _ _).symm.trans H; with_reducible exact H2_) | with_reducible exact H | (rw [hy111]; exact H) | exact H
                    have Ny111 := Aside0.mk hy111
                    clear hy111
                    by_cases c24 : x3_4.size + (strOfNums y111).size ≤ 9223372036854775807
                    ·rw [if_pos c24] at H
                     have c24b0 := eq_true c24
                     have c24b1 : decide (x3_4.size + (strOfNums y111).size ≤ 9223372036854775807) = true := decide_eq_true c24
                     try have c24b2 : (9223372036854775807 < x3_4.size + (strOfNums y111).size) = False := eq_false (Nat.not_lt.2 c24)
                     obtain ⟨y114, hy114⟩ : ∃ y_ : List Int, y_ = (([bt (rdOf ByteArray.empty l0 x4_1) x6_4] : List Int)) := ⟨_, rfl⟩
                     replace H : (if (x3_4 ++ (strOfNums y111)).size + (strOfNums y114).size ≤ 9223372036854775807 then (chicaneref15_Join.l1 k4 l0 ((x3_4 ++ (strOfNums y111)) ++ (strOfNums y114)) x4_1 x5_9 (wrap64 (x6_4 + 1))) else (none)) = some r := by first | (rw [hy114]; with_reducible exact H) | (have H2_ := (Option.bind_some _ _).symm.trans H; rw [hy114]; with_reducible exact H2_) | (have H2_ := (Option.bind_some _ _).symm.trans H; with_reducible exact H2_) | with_reducible exact H | (rw [hy114]; exact H) | exact H
                     have Ny114 := Aside0.mk hy114
                     clear hy114
                     by_cases c25 : (x3_4 ++ (strOfNums y111)).size + (strOfNums y114).size ≤ 9223372036854775807
                     ·rw [if_pos c25] at H
                      have c25b0 := eq_true c25
                      have c25b1 : decide ((x3_4 ++ (strOfNums y111)).size + (strOfNums y114).size ≤ 9223372036854775807) = true := decide_eq_true c25
                      try have c25b2 : (9223372036854775807 < (x3_4 ++ (strOfNums y111)).size + (strOfNums y114).size) = False := eq_false (Nat.not_lt.2 c25)
                      try have c25b3 := c25b2
                      try simp only [ByteArray.size_append, pw_size_mk, List.size_toArray, List.length_cons, List.length_nil, Nat.zero_add] at c25b3
                      have H' := Aside0.mk H
                      clear H
                      have p108 : 0 ≤ (x4_1 : Int) := of_decide_eq_true (by first | (with_reducible assumption) | assumption)
                      have q108 : x4_1 < (l0.length : Int) := of_decide_eq_true (by first | (with_reducible assumption) | assumption)
                      obtain ⟨ad108, e108, hx108_0⟩ := Kd.at_string HR0.out x4_1 p108 q108
                      obtain rfl : ad103 = ad108 := (by injection e108)
                      replace hx108_0 := (HB.out.cell (World.block_lt_of_cell? w _ hx108_0)).trans hx108_0
                      replace p108 := eq_true p108
                      replace q108 := eq_true q108
                      have p109 : 0 ≤ (x4_1 : Int) := of_decide_eq_true (by first | (with_reducible assumption) | assumption)
                      have q109 : x4_1 < (l0.length : Int) := of_decide_eq_true (by first | (with_reducible assumption) | assumption)
                      obtain ⟨ad109, e109, hx109_0⟩ := Kd.at_string HR0.out x4_1 p109 q109
                      obtain rfl : ad103 = ad109 := (by injection e109)
                      replace hx109_0 := (HB.out.cell (World.block_lt_of_cell? w _ hx109_0)).trans hx109_0
                      replace p109 := eq_true p109
                      replace q109 := eq_true q109
                      have p20 : 0 ≤ (x6_4 : Int) := of_decide_eq_true (by first | (with_reducible assumption) | assumption)
                      have q20 : x6_4 < ((rdOf ByteArray.empty l0 x4_1).size : Int) := of_decide_eq_true (by first | (with_reducible assumption) | assumption)
                      have hx20 := bt_at (rdOf ByteArray.empty l0 x4_1) x6_4
                      replace p20 := eq_true p20
                      replace q20 := eq_true q20
                      go_wp2_with (first | ((with_reducible refine gate_callee (f := 22) rfl ?_); refine goesL_ (some 48) rfl rfl Tryd.func22 (by kernel_rfl) rfl #[.int .u8 (bt (rdOf ByteArray.empty l0 x4_1) x6_4)] rfl (by (try simp only [List.map_toArray, List.map_cons, List.map_nil]); first | done | rfl | (simp only [List.length_drop, List.length_take]; rfl)) ?_; (with_reducible refine (chicaneref15_may.calls (bt (rdOf ByteArray.empty l0 x4_1) x6_4) true _ A21.out).mono ?_); rintro e w' ⟨rfl, ⟨nd, rfl⟩⟩; refine ⟨_, rfl, ?_⟩) | ((with_reducible refine gate_dst (N := 57) rfl ?_); refine Kd.R_lit (Kd.int .u8) _ 5 ?hg (N := 57) ?hd (xs := ([92] : List Int)) (inner := [.int .u8 92]) (ok := fun _ => True) (okp := fun _ => True) ?hr ?hp (fun _ hk => hk) trivial (Below.refl _ _) (Nat.le_refl _) (by simp) ?_; (case hd => rfl); (case hg => rfl); (case hr => first | (go_simp; done) | (go_simp; rfl)); (case hp => exact (Reps.one (show Kd.M (Kd.int .u8) _ _ _ 92 [.int .u8 92] from rfl) (Reps.none _ _))); intro v112 w26 ho27 hb hg_ hnew_; clear hg_ hnew_; (first | rw [← Ny111.out] at ho27 | (simp only [Int.reduceToNat] at ho27; rw [← Ny111.out] at ho27)); have n0_ := Aside0.mk (Kd.R_lower ho27 (below_size (by repeat (first | (with_reducible first | exact HB.out | apply below_alloc | apply pw_below_drewN | apply below_drew1) | exact HB.out)))); have n1_ := Aside0.mk (below_step (by repeat (first | (with_reducible first | exact HB.out | apply below_alloc | apply pw_below_drewN | apply below_drew1) | exact HB.out)) hb); clear HB; have HO113 := n0_; have HB := n1_; clear n0_ n1_; clear hb ho27; have hcv28 := own_string (P := Tryd.prog) Tryd.underlying39 Tryd.underlying5 Tryd.underlying9 (Kd.own_of_R HO113.out)) | ((with_reducible refine gate_dst (N := 62) rfl ?_); refine Kd.R_lit (Kd.int .u8) _ 5 ?hg (N := 62) ?hd (xs := ([bt (rdOf ByteArray.empty l0 x4_1) x6_4] : List Int)) (inner := [.int .u8 (bt (rdOf ByteArray.empty l0 x4_1) x6_4)]) (ok := fun _ => True) (okp := fun _ => True) ?hr ?hp (fun _ hk => hk) trivial (Below.refl _ _) (Nat.le_refl _) (by simp) ?_; (case hd => rfl); (case hg => rfl); (case hr => first | (go_simp; done) | (go_simp; rfl)); (case hp => exact (Reps.one (show Kd.M (Kd.int .u8) _ _ _ (bt (rdOf ByteArray.empty l0 x4_1) x6_4) [.int .u8 (bt (rdOf ByteArray.empty l0 x4_1) x6_4)] from rfl) (Reps.none _ _))); intro v115 w29 ho30 hb hg_ hnew_; clear hg_ hnew_; (first | rw [← Ny114.out] at ho30 | (simp only [Int.reduceToNat] at ho30; rw [← Ny114.out] at ho30)); have n0_ := Aside0.mk (Kd.R_elder' (by (with_reducible repeat (first | apply Kd.R_alloc | apply Kd.R_drewN | apply Kd.R_drew)); exact HO113.out) (Kd.R_base ho30) hb); have n1_ := Aside0.mk (Kd.R_lower (Kd.R_new' ho30 (Kd.R_lt (by (with_reducible repeat (first | apply Kd.R_alloc | apply Kd.R_drewN | apply Kd.R_drew)); exact HO113.out))) (below_size (by repeat (first | (with_reducible first | exact HB.out | apply below_alloc | apply pw_below_drewN | apply below_drew1) | exact HB.out)))); have n2_ := Aside0.mk (below_step (by repeat (first | (with_reducible first | exact HB.out | apply below_alloc | apply pw_below_drewN | apply below_drew1) | exact HB.out)) hb); clear HO113; clear HB; have HO113 := n0_; have HO116 := n1_; have HB := n2_; clear n0_ n1_ n2_; clear hb ho30; have hcv31 := own_string (P := Tryd.prog) Tryd.underlying39 Tryd.underlying5 Tryd.underlying9 (Kd.own_of_R HO116.out)))
                      go_roundg k4
                      case measure => have := HK1.out; have := HJ3.out; have := HJ9.out; have := HK4.out; omega
                      case rel => exact ⟨((x3_4 ++ (strOfNums y111)) ++ (strOfNums y114)), (wrap64 (x6_4 + 1)), (by first | rfl | (simp; done) | (simp [*]; done)), (by first | rfl | (simp; done) | (simp [*]; done)), H', ⟨by have := HK1.out; have := HJ3.out; have := HJ9.out; have := HK4.out; omega⟩, ⟨by repeat (first | (with_reducible first | exact HB.out | apply below_alloc | apply pw_below_drewN | apply below_drew1) | exact HB.out)⟩⟩
                     ·rw [if_neg c25] at H
                      exact absurd H (by simp)
                    ·rw [if_neg c24] at H
                     exact absurd H (by simp)
                   ·rw [if_neg c23] at H
                    have c23b0 : ((bt (rdOf ByteArray.empty l0 x4_1) x6_4) == 34) = false := beq_eq_false_iff_ne.mpr c23
                    have c23b1 : ((bt (rdOf ByteArray.empty l0 x4_1) x6_4) != 34) = true := bne_iff_ne.mpr c23
                    by_cases c32 : (bt (rdOf ByteArray.empty l0 x4_1) x6_4) = 92
                    ·rw [if_pos c32] at H
                     have c32b0 : ((bt (rdOf ByteArray.empty l0 x4_1) x6_4) == 92) = true := beq_iff_eq.mpr c32
                     have c32b1 : ((bt (rdOf ByteArray.empty l0 x4_1) x6_4) != 92) = false := bne_eq_false_iff_eq.mpr c32
                     clear c32
                     obtain ⟨y117, hy117⟩ : ∃ y_ : List Int, y_ = (([92] : List Int)) := ⟨_, rfl⟩
                     replace H : (if x3_4.size + (strOfNums y117).size ≤ 9223372036854775807 then ((some (([bt (rdOf ByteArray.empty l0 x4_1) x6_4] : List Int) : List Int)).bind fun y120 => (if (x3_4 ++ (strOfNums y117)).size + (strOfNums y120).size ≤ 9223372036854775807 then (chicaneref15_Join.l1 k4 l0 ((x3_4 ++ (strOfNums y117)) ++ (strOfNums y120)) x4_1 x5_9 (wrap64 (x6_4 + 1))) else (none))) else (none)) = some r := by first | (rw [hy117]; with_reducible exact H) | (have H2_ := (Option.bind_some _ _).symm.trans H; rw [hy117]; with_reducible exact H2_) | (have H2_ := (Option.bind_some _ _).symm.trans H; with_reducible exact H2_) | with_reducible exact H | (rw [hy117]; exact H) | exact H
                     have Ny117 := Aside0.mk hy117
                     clear hy117
                     by_cases c33 : x3_4.size + (strOfNums y117).size ≤ 9223372036854775807
                     ·rw [if_pos c33] at H
                      have c33b0 := eq_true c33
                      have c33b1 : decide (x3_4.size + (strOfNums y117).size ≤ 9223372036854775807) = true := decide_eq_true c33
                      try have c33b2 : (9223372036854775807 < x3_4.size + (strOfNums y117).size) = False := eq_false (Nat.not_lt.2 c33)
                      obtain ⟨y120, hy120⟩ : ∃ y_ : List Int, y_ = (([bt (rdOf ByteArray.empty l0 x4_1) x6_4] : List Int)) := ⟨_, rfl⟩
                      replace H : (if (x3_4 ++ (strOfNums y117)).size + (strOfNums y120).size ≤ 9223372036854775807 then (chicaneref15_Join.l1 k4 l0 ((x3_4 ++ (strOfNums y117)) ++ (strOfNums y120)) x4_1 x5_9 (wrap64 (x6_4 + 1))) else (none)) = some r := by first | (rw [hy120]; with_reducible exact H) | (have H2_ := (Option.bind_some _ _).symm.trans H; rw [hy120]; with_reducible exact H2_) | (have H2_ := (Option.bind_some _ _).symm.trans H; with_reducible exact H2_) | with_reducible exact H | (rw [hy120]; exact H) | exact H
                      have Ny120 := Aside0.mk hy120
                      clear hy120
                      by_cases c34 : (x3_4 ++ (strOfNums y117)).size + (strOfNums y120).size ≤ 9223372036854775807
                      ·rw [if_pos c34] at H
                       have c34b0 := eq_true c34
                       have c34b1 : decide ((x3_4 ++ (strOfNums y117)).size + (strOfNums y120).size ≤ 9223372036854775807) = true := decide_eq_true c34
                       try have c34b2 : (9223372036854775807 < (x3_4 ++ (strOfNums y117)).size + (strOfNums y120).size) = False := eq_false (Nat.not_lt.2 c34)
                       try have c34b3 := c34b2
                       try simp only [ByteArray.size_append, pw_size_mk, List.size_toArray, List.length_cons, List.length_nil, Nat.zero_add] at c34b3
                       have H' := Aside0.mk H
                       clear H
                       have p108 : 0 ≤ (x4_1 : Int) := of_decide_eq_true (by first | (with_reducible assumption) | assumption)
                       have q108 : x4_1 < (l0.length : Int) := of_decide_eq_true (by first | (with_reducible assumption) | assumption)
                       obtain ⟨ad108, e108, hx108_0⟩ := Kd.at_string HR0.out x4_1 p108 q108
                       obtain rfl : ad103 = ad108 := (by injection e108)
                       replace hx108_0 := (HB.out.cell (World.block_lt_of_cell? w _ hx108_0)).trans hx108_0
                       replace p108 := eq_true p108
                       replace q108 := eq_true q108
                       have p109 : 0 ≤ (x4_1 : Int) := of_decide_eq_true (by first | (with_reducible assumption) | assumption)
                       have q109 : x4_1 < (l0.length : Int) := of_decide_eq_true (by first | (with_reducible assumption) | assumption)
                       obtain ⟨ad109, e109, hx109_0⟩ := Kd.at_string HR0.out x4_1 p109 q109
                       obtain rfl : ad103 = ad109 := (by injection e109)
                       replace hx109_0 := (HB.out.cell (World.block_lt_of_cell? w _ hx109_0)).trans hx109_0
                       replace p109 := eq_true p109
                       replace q109 := eq_true q109
                       have p20 : 0 ≤ (x6_4 : Int) := of_decide_eq_true (by first | (with_reducible assumption) | assumption)
                       have q20 : x6_4 < ((rdOf ByteArray.empty l0 x4_1).size : Int) := of_decide_eq_true (by first | (with_reducible assumption) | assumption)
                       have hx20 := bt_at (rdOf ByteArray.empty l0 x4_1) x6_4
                       replace p20 := eq_true p20
                       replace q20 := eq_true q20
                       go_wp2_with (first | ((with_reducible refine gate_callee (f := 22) rfl ?_); refine goesL_ (some 48) rfl rfl Tryd.func22 (by kernel_rfl) rfl #[.int .u8 (bt (rdOf ByteArray.empty l0 x4_1) x6_4)] rfl (by (try simp only [List.map_toArray, List.map_cons, List.map_nil]); first | done | rfl | (simp only [List.length_drop, List.length_take]; rfl)) ?_; (with_reducible refine (chicaneref15_may.calls (bt (rdOf ByteArray.empty l0 x4_1) x6_4) true _ A21.out).mono ?_); rintro e w' ⟨rfl, ⟨nd, rfl⟩⟩; refine ⟨_, rfl, ?_⟩) | ((with_reducible refine gate_dst (N := 57) rfl ?_); refine Kd.R_lit (Kd.int .u8) _ 5 ?hg (N := 57) ?hd (xs := ([92] : List Int)) (inner := [.int .u8 92]) (ok := fun _ => True) (okp := fun _ => True) ?hr ?hp (fun _ hk => hk) trivial (Below.refl _ _) (Nat.le_refl _) (by simp) ?_; (case hd => rfl); (case hg => rfl); (case hr => first | (go_simp; done) | (go_simp; rfl)); (case hp => exact (Reps.one (show Kd.M (Kd.int .u8) _ _ _ 92 [.int .u8 92] from rfl) (Reps.none _ _))); intro v118 w35 ho36 hb hg_ hnew_; clear hg_ hnew_; (first | rw [← Ny117.out] at ho36 | (simp only [Int.reduceToNat] at ho36; rw [← Ny117.out] at ho36)); have n0_ := Aside0.mk (Kd.R_lower ho36 (below_size (by repeat (first | (with_reducible first | exact HB.out | apply below_alloc | apply pw_below_drewN | apply below_drew1) | exact HB.out)))); have n1_ := Aside0.mk (below_step (by repeat (first | (with_reducible first | exact HB.out | apply below_alloc | apply pw_below_drewN | apply below_drew1) | exact HB.out)) hb); clear HB; have HO119 := n0_; have HB := n1_; clear n0_ n1_; clear hb ho36; have hcv37 := own_string (P := Tryd.prog) Tryd.underlying39 Tryd.underlying5 Tryd.underlying9 (Kd.own_of_R HO119.out)) | ((with_reducible refine gate_dst (N := 62) rfl ?_); refine Kd.R_lit (Kd.int .u8) _ 5 ?hg (N := 62) ?hd (xs := ([bt (rdOf ByteArray.empty l0 x4_1) x6_4] : List Int)) (inner := [.int .u8 (bt (rdOf ByteArray.empty l0 x4_1) x6_4)]) (ok := fun _ => True) (okp := fun _ => True) ?hr ?hp (fun _ hk => hk) trivial (Below.refl _ _) (Nat.le_refl _) (by simp) ?_; (case hd => rfl); (case hg => rfl); (case hr => first | (go_simp; done) | (go_simp; rfl)); (case hp => exact (Reps.one (show Kd.M (Kd.int .u8) _ _ _ (bt (rdOf ByteArray.empty l0 x4_1) x6_4) [.int .u8 (bt (rdOf ByteArray.empty l0 x4_1) x6_4)] from rfl) (Reps.none _ _))); intro v121 w38 ho39 hb hg_ hnew_; clear hg_ hnew_; (first | rw [← Ny120.out] at ho39 | (simp only [Int.reduceToNat] at ho39; rw [← Ny120.out] at ho39)); have n0_ := Aside0.mk (Kd.R_elder' (by (with_reducible repeat (first | apply Kd.R_alloc | apply Kd.R_drewN | apply Kd.R_drew)); exact HO119.out) (Kd.R_base ho39) hb); have n1_ := Aside0.mk (Kd.R_lower (Kd.R_new' ho39 (Kd.R_lt (by (with_reducible repeat (first | apply Kd.R_alloc | apply Kd.R_drewN | apply Kd.R_drew)); exact HO119.out))) (below_size (by repeat (first | (with_reducible first | exact HB.out | apply below_alloc | apply pw_below_drewN | apply below_drew1) | exact HB.out)))); have n2_ := Aside0.mk (below_step (by repeat (first | (with_reducible first | exact HB.out | apply below_alloc | apply pw_below_drewN | apply below_drew1) | exact HB.out)) hb); clear HO119; clear HB; have HO119 := n0_; have HO122 := n1_; have HB := n2_; clear n0_ n1_ n2_; clear hb ho39; have hcv40 := own_string (P := Tryd.prog) Tryd.underlying39 Tryd.underlying5 Tryd.underlying9 (Kd.own_of_R HO122.out)))
                       go_roundg k4
                       case measure => have := HK1.out; have := HJ3.out; have := HJ9.out; have := HK4.out; omega
                       case rel => exact ⟨((x3_4 ++ (strOfNums y117)) ++ (strOfNums y120)), (wrap64 (x6_4 + 1)), (by first | rfl | (simp; done) | (simp [*]; done)), (by first | rfl | (simp; done) | (simp [*]; done)), H', ⟨by have := HK1.out; have := HJ3.out; have := HJ9.out; have := HK4.out; omega⟩, ⟨by repeat (first | (with_reducible first | exact HB.out | apply below_alloc | apply pw_below_drewN | apply below_drew1) | exact HB.out)⟩⟩
                      ·rw [if_neg c34] at H
                       exact absurd H (by simp)
                     ·rw [if_neg c33] at H
                      exact absurd H (by simp)
                    ·rw [if_neg c32] at H
                     have c32b0 : ((bt (rdOf ByteArray.empty l0 x4_1) x6_4) == 92) = false := beq_eq_false_iff_ne.mpr c32
                     have c32b1 : ((bt (rdOf ByteArray.empty l0 x4_1) x6_4) != 92) = true := bne_iff_ne.mpr c32
                     obtain ⟨y123, hy123⟩ : ∃ y_ : List Int, y_ = (([bt (rdOf ByteArray.empty l0 x4_1) x6_4] : List Int)) := ⟨_, rfl⟩
                     replace H : (if x3_4.size + (strOfNums y123).size ≤ 9223372036854775807 then (chicaneref15_Join.l1 k4 l0 (x3_4 ++ (strOfNums y123)) x4_1 x5_9 (wrap64 (x6_4 + 1))) else (none)) = some r := by first | (rw [hy123]; with_reducible exact H) | (have H2_ := (Option.bind_some _ _).symm.trans H; rw [hy123]; with_reducible exact H2_) | (have H2_ := (Option.bind_some _ _).symm.trans H; with_reducible exact H2_) | with_reducible exact H | (rw [hy123]; exact H) | exact H
                     have Ny123 := Aside0.mk hy123
                     clear hy123
                     by_cases c41 : x3_4.size + (strOfNums y123).size ≤ 9223372036854775807
                     ·rw [if_pos c41] at H
                      have c41b0 := eq_true c41
                      have c41b1 : decide (x3_4.size + (strOfNums y123).size ≤ 9223372036854775807) = true := decide_eq_true c41
                      try have c41b2 : (9223372036854775807 < x3_4.size + (strOfNums y123).size) = False := eq_false (Nat.not_lt.2 c41)
                      have H' := Aside0.mk H
                      clear H
                      have p108 : 0 ≤ (x4_1 : Int) := of_decide_eq_true (by first | (with_reducible assumption) | assumption)
                      have q108 : x4_1 < (l0.length : Int) := of_decide_eq_true (by first | (with_reducible assumption) | assumption)
                      obtain ⟨ad108, e108, hx108_0⟩ := Kd.at_string HR0.out x4_1 p108 q108
                      obtain rfl : ad103 = ad108 := (by injection e108)
                      replace hx108_0 := (HB.out.cell (World.block_lt_of_cell? w _ hx108_0)).trans hx108_0
                      replace p108 := eq_true p108
                      replace q108 := eq_true q108
                      have p109 : 0 ≤ (x4_1 : Int) := of_decide_eq_true (by first | (with_reducible assumption) | assumption)
                      have q109 : x4_1 < (l0.length : Int) := of_decide_eq_true (by first | (with_reducible assumption) | assumption)
                      obtain ⟨ad109, e109, hx109_0⟩ := Kd.at_string HR0.out x4_1 p109 q109
                      obtain rfl : ad103 = ad109 := (by injection e109)
                      replace hx109_0 := (HB.out.cell (World.block_lt_of_cell? w _ hx109_0)).trans hx109_0
                      replace p109 := eq_true p109
                      replace q109 := eq_true q109
                      have p20 : 0 ≤ (x6_4 : Int) := of_decide_eq_true (by first | (with_reducible assumption) | assumption)
                      have q20 : x6_4 < ((rdOf ByteArray.empty l0 x4_1).size : Int) := of_decide_eq_true (by first | (with_reducible assumption) | assumption)
                      have hx20 := bt_at (rdOf ByteArray.empty l0 x4_1) x6_4
                      replace p20 := eq_true p20
                      replace q20 := eq_true q20
                      go_wp2_with (first | ((with_reducible refine gate_callee (f := 22) rfl ?_); refine goesL_ (some 48) rfl rfl Tryd.func22 (by kernel_rfl) rfl #[.int .u8 (bt (rdOf ByteArray.empty l0 x4_1) x6_4)] rfl (by (try simp only [List.map_toArray, List.map_cons, List.map_nil]); first | done | rfl | (simp only [List.length_drop, List.length_take]; rfl)) ?_; (with_reducible refine (chicaneref15_may.calls (bt (rdOf ByteArray.empty l0 x4_1) x6_4) true _ A21.out).mono ?_); rintro e w' ⟨rfl, ⟨nd, rfl⟩⟩; refine ⟨_, rfl, ?_⟩) | ((with_reducible refine gate_dst (N := 62) rfl ?_); refine Kd.R_lit (Kd.int .u8) _ 5 ?hg (N := 62) ?hd (xs := ([bt (rdOf ByteArray.empty l0 x4_1) x6_4] : List Int)) (inner := [.int .u8 (bt (rdOf ByteArray.empty l0 x4_1) x6_4)]) (ok := fun _ => True) (okp := fun _ => True) ?hr ?hp (fun _ hk => hk) trivial (Below.refl _ _) (Nat.le_refl _) (by simp) ?_; (case hd => rfl); (case hg => rfl); (case hr => first | (go_simp; done) | (go_simp; rfl)); (case hp => exact (Reps.one (show Kd.M (Kd.int .u8) _ _ _ (bt (rdOf ByteArray.empty l0 x4_1) x6_4) [.int .u8 (bt (rdOf ByteArray.empty l0 x4_1) x6_4)] from rfl) (Reps.none _ _))); intro v124 w42 ho43 hb hg_ hnew_; clear hg_ hnew_; (first | rw [← Ny123.out] at ho43 | (simp only [Int.reduceToNat] at ho43; rw [← Ny123.out] at ho43)); have n0_ := Aside0.mk (Kd.R_lower ho43 (below_size (by repeat (first | (with_reducible first | exact HB.out | apply below_alloc | apply pw_below_drewN | apply below_drew1) | exact HB.out)))); have n1_ := Aside0.mk (below_step (by repeat (first | (with_reducible first | exact HB.out | apply below_alloc | apply pw_below_drewN | apply below_drew1) | exact HB.out)) hb); clear HB; have HO125 := n0_; have HB := n1_; clear n0_ n1_; clear hb ho43; have hcv44 := own_string (P := Tryd.prog) Tryd.underlying39 Tryd.underlying5 Tryd.underlying9 (Kd.own_of_R HO125.out)))
                      go_roundg k4
                      case measure => have := HK1.out; have := HJ3.out; have := HJ9.out; have := HK4.out; omega
                      case rel => exact ⟨(x3_4 ++ (strOfNums y123)), (wrap64 (x6_4 + 1)), (by first | rfl | (simp; done) | (simp [*]; done)), (by first | rfl | (simp; done) | (simp [*]; done)), H', ⟨by have := HK1.out; have := HJ3.out; have := HJ9.out; have := HK4.out; omega⟩, ⟨by repeat (first | (with_reducible first | exact HB.out | apply below_alloc | apply pw_below_drewN | apply below_drew1) | exact HB.out)⟩⟩
                     ·rw [if_neg c41] at H
                      exact absurd H (by simp)
                  ·replace c22 := Bool.eq_false_iff.mpr c22
                   subst c22
                   have H1 : (some (⟨#[]⟩ : ByteArray)) = some r := by rw [if_neg (show ¬ (false = true) by decide)] at H; exact H
                   clear H
                   have H := H1
                   clear H1
                   obtain rfl := Option.some.inj H
                   have p108 : 0 ≤ (x4_1 : Int) := of_decide_eq_true (by first | (with_reducible assumption) | assumption)
                   have q108 : x4_1 < (l0.length : Int) := of_decide_eq_true (by first | (with_reducible assumption) | assumption)
                   obtain ⟨ad108, e108, hx108_0⟩ := Kd.at_string HR0.out x4_1 p108 q108
                   obtain rfl : ad103 = ad108 := (by injection e108)
                   replace hx108_0 := (HB.out.cell (World.block_lt_of_cell? w _ hx108_0)).trans hx108_0
                   replace p108 := eq_true p108
                   replace q108 := eq_true q108
                   have p109 : 0 ≤ (x4_1 : Int) := of_decide_eq_true (by first | (with_reducible assumption) | assumption)
                   have q109 : x4_1 < (l0.length : Int) := of_decide_eq_true (by first | (with_reducible assumption) | assumption)
                   obtain ⟨ad109, e109, hx109_0⟩ := Kd.at_string HR0.out x4_1 p109 q109
                   obtain rfl : ad103 = ad109 := (by injection e109)
                   replace hx109_0 := (HB.out.cell (World.block_lt_of_cell? w _ hx109_0)).trans hx109_0
                   replace p109 := eq_true p109
                   replace q109 := eq_true q109
                   have p20 : 0 ≤ (x6_4 : Int) := of_decide_eq_true (by first | (with_reducible assumption) | assumption)
                   have q20 : x6_4 < ((rdOf ByteArray.empty l0 x4_1).size : Int) := of_decide_eq_true (by first | (with_reducible assumption) | assumption)
                   have hx20 := bt_at (rdOf ByteArray.empty l0 x4_1) x6_4
                   replace p20 := eq_true p20
                   replace q20 := eq_true q20
                   go_wp2_with (first | ((with_reducible refine gate_callee (f := 22) rfl ?_); refine goesL_ (some 48) rfl rfl Tryd.func22 (by kernel_rfl) rfl #[.int .u8 (bt (rdOf ByteArray.empty l0 x4_1) x6_4)] rfl (by (try simp only [List.map_toArray, List.map_cons, List.map_nil]); first | done | rfl | (simp only [List.length_drop, List.length_take]; rfl)) ?_; (with_reducible refine (chicaneref15_may.calls (bt (rdOf ByteArray.empty l0 x4_1) x6_4) false _ A21.out).mono ?_); rintro e w' ⟨rfl, ⟨nd, rfl⟩⟩; refine ⟨_, rfl, ?_⟩))
                   go_ret
                   exact ⟨by first | rfl | (simp [errW_none, errW_some] <;> rfl) | (simp [*, errW_none, errW_some] <;> rfl), by repeat (first | (with_reducible first | exact HB.out | apply below_alloc | apply pw_below_drewN | apply below_drew1) | exact HB.out)⟩
                 ·rw [if_neg c19] at H
                  exact absurd H (by simp)
                ·rw [if_neg c18] at H
                 have c18b0 : decide (x6_4 < ((rdOf ByteArray.empty l0 x4_1).size : Int)) = false := decide_eq_false c18
                 clear c18
                 by_cases c45 : x3_4.size + x5_9.size ≤ 9223372036854775807
                 ·rw [if_pos c45] at H
                  have c45b0 := eq_true c45
                  have c45b1 : decide (x3_4.size + x5_9.size ≤ 9223372036854775807) = true := decide_eq_true c45
                  try have c45b2 : (9223372036854775807 < x3_4.size + x5_9.size) = False := eq_false (Nat.not_lt.2 c45)
                  have H' := Aside0.mk H
                  clear H
                  have p108 : 0 ≤ (x4_1 : Int) := of_decide_eq_true (by first | (with_reducible assumption) | assumption)
                  have q108 : x4_1 < (l0.length : Int) := of_decide_eq_true (by first | (with_reducible assumption) | assumption)
                  obtain ⟨ad108, e108, hx108_0⟩ := Kd.at_string HR0.out x4_1 p108 q108
                  obtain rfl : ad103 = ad108 := (by injection e108)
                  replace hx108_0 := (HB.out.cell (World.block_lt_of_cell? w _ hx108_0)).trans hx108_0
                  replace p108 := eq_true p108
                  replace q108 := eq_true q108
                  go_wp2
                  go_roundg k4
                  case measure => have := HK1.out; have := HJ3.out; have := HJ9.out; have := HK4.out; omega
                  case rel => exact ⟨(x3_4 ++ x5_9), (wrap64 (x4_1 + 1)), (by first | rfl | (simp; done) | (simp [*]; done)), (by first | rfl | (simp; done) | (simp [*]; done)), H', ⟨by have := HK1.out; have := HJ3.out; have := HJ9.out; have := HK4.out; omega⟩, ⟨by repeat (first | (with_reducible first | exact HB.out | apply below_alloc | apply pw_below_drewN | apply below_drew1) | exact HB.out)⟩⟩
                 ·rw [if_neg c45] at H
                  exact absurd H (by simp)
               ·rw [if_neg c17] at H
                exact absurd H (by simp)
              ·rw [if_neg c16] at H
               exact absurd H (by simp)
           ·rw [if_neg c15] at H
            exact absurd H (by simp)
        ·rw [if_neg c8] at H
         exact absurd H (by simp)
       ·rw [if_neg c7] at H
        exact absurd H (by simp)
    ·rw [if_neg c3] at H
     have c3b0 : decide (x4_1 < (l0.length : Int)) = false := decide_eq_false c3
     clear c3
     by_cases c46 : (x3_1.size : Int) > 256
     ·rw [if_pos c46] at H
      have c46b0 : decide (256 < (x3_1.size : Int)) = true := decide_eq_true c46
      have c46b1 : decide (256 < x3_1.size) = true := decide_eq_true (by omega)
      clear c46
      obtain rfl := Option.some.inj H
      go_wp2
      go_ret
      exact ⟨by first | rfl | (simp [errW_none, errW_some] <;> rfl) | (simp [*, errW_none, errW_some] <;> rfl), by repeat (first | (with_reducible first | exact HB.out | apply below_alloc | apply pw_below_drewN | apply below_drew1) | exact HB.out)⟩
     ·rw [if_neg c46] at H
      have c46b0 : decide (256 < (x3_1.size : Int)) = false := decide_eq_false c46
      have c46b1 : decide (256 < x3_1.size) = false := decide_eq_false (by omega)
      clear c46
      obtain rfl := Option.some.inj H
      go_wp2
      go_ret
      exact ⟨by first | rfl | (simp [errW_none, errW_some] <;> rfl) | (simp [*, errW_none, errW_some] <;> rfl), by repeat (first | (with_reducible first | exact HB.out | apply below_alloc | apply pw_below_drewN | apply below_drew1) | exact HB.out)⟩
end Go.Proofs.YtbfeokfninedcaaDoor.PWrdA
namespace Go.Proofs.YtbfeokfninedcaaDoor.PWrdA
open Go.Proofs.YtbfeokfninedcaaDoor.Ext Go.RowKit Go.Proofs.YtbfeokfninedcaaDoorW.PrintWords Go.Proofs.YtbfeokfninedcaaDoorW.PrintLast Go.Proofs.YtbfeokfninedcaaDoorW.PrintMore
attribute [local go_sem] max2_int min2_int max_two min_two max_three min_three max_four min_four   -- for this text's walks alone
set_option linter.unusedVariables false
set_option linter.unusedSimpArgs false
mutual
def chicaneref15_Lines.l0 : Nat → ByteArray → List ByteArray → Int → Option (List ByteArray)
 | 0, _, _, _ => none
 | k + 1, x0, x3, x4 => if x4 < (x0.size : Int) then (if 0 ≤ x4 then (if (bt x0 x4) = 10 then (if x3.length < 8796093022208 then (chicaneref15_Lines.l0 k x0 (x3 ++ [(⟨#[]⟩ : ByteArray)]) (wrap64 (x4 + 1))) else (none)) else (if 0 ≤ (wrap64 ((x3.length : Int) - 1)) then (if (wrap64 ((x3.length : Int) - 1)) < (x3.length : Int) then (if x4 ≤ (wrap64 (x4 + 1)) then (if (wrap64 (x4 + 1)) ≤ (x0.size : Int) then (if (rdOf ByteArray.empty x3 (wrap64 ((x3.length : Int) - 1))).size + (x0.extract (x4 : Int).toNat ((wrap64 (x4 + 1)) : Int).toNat).size ≤ 9223372036854775807 then (chicaneref15_Lines.l0 k x0 (x3.set ((wrap64 ((x3.length : Int) - 1)) : Int).toNat ((rdOf ByteArray.empty x3 (wrap64 ((x3.length : Int) - 1))) ++ (x0.extract (x4 : Int).toNat ((wrap64 (x4 + 1)) : Int).toNat))) (wrap64 (x4 + 1))) else (none)) else (none)) else (none)) else (none)) else (none))) else (none)) else (chicaneref15_Lines.l1 k x3 0)
def chicaneref15_Lines.l1 : Nat → List ByteArray → Int → Option (List ByteArray)
 | 0, _, _ => none
 | k + 1, x3, x6 => if x6 < (x3.length : Int) then (if 0 ≤ x6 then (if ((rdOf ByteArray.empty x3 x6).size : Int) > 0 then (if 0 ≤ (wrap64 (((rdOf ByteArray.empty x3 x6).size : Int) - 1)) then (if (wrap64 (((rdOf ByteArray.empty x3 x6).size : Int) - 1)) < ((rdOf ByteArray.empty x3 x6).size : Int) then (if (bt (rdOf ByteArray.empty x3 x6) (wrap64 (((rdOf ByteArray.empty x3 x6).size : Int) - 1))) = 13 then (if (wrap64 (((rdOf ByteArray.empty x3 x6).size : Int) - 1)) ≤ ((rdOf ByteArray.empty x3 x6).size : Int) then (chicaneref15_Lines.l1 k (x3.set (x6 : Int).toNat ((rdOf ByteArray.empty x3 x6).extract 0 ((wrap64 (((rdOf ByteArray.empty x3 x6).size : Int) - 1)) : Int).toNat)) (wrap64 (x6 + 1))) else (none)) else (chicaneref15_Lines.l1 k x3 (wrap64 (x6 + 1)))) else (none)) else (none)) else (chicaneref15_Lines.l1 k x3 (wrap64 (x6 + 1)))) else (none)) else (some x3)
end
def chicaneref15_Lines.f (k : Nat) (a0 : ByteArray) : Option (List ByteArray) := chicaneref15_Lines.l0 k a0 (([(⟨#[]⟩ : ByteArray)] : List ByteArray)) 0
theorem chicaneref15_Lines.mono_l : ∀ k, (∀ y0 y1 y2, LeO (chicaneref15_Lines.l0 k y0 y1 y2) (chicaneref15_Lines.l0 (k + 1) y0 y1 y2)) ∧ (∀ y0 y1, LeO (chicaneref15_Lines.l1 k y0 y1) (chicaneref15_Lines.l1 (k + 1) y0 y1))
 | 0 => ⟨fun _ _ _ r h => by simp [chicaneref15_Lines.l0] at h, fun _ _ r h => by simp [chicaneref15_Lines.l1] at h⟩
 | k + 1 => by
  obtain ⟨ih0, ih1⟩ := chicaneref15_Lines.mono_l k
  refine ⟨?_, ?_⟩
  ·intro y0 y1 y2
   unfold chicaneref15_Lines.l0
   repeat' first
   | (with_reducible exact ih0 _ _ _)
   | (with_reducible exact ih1 _ _)
   | (with_reducible exact LeO.refl _)
   | (with_reducible exact LeO.none _)
   | (with_reducible refine LeO.ite ?_ ?_)
   | (with_reducible refine LeO.bind ?_ (fun _ => ?_))
   | exact ih0 _ _ _
   | exact ih1 _ _
   | exact LeO.none _
   | refine LeO.ite ?_ ?_
   | refine LeO.bind ?_ (fun _ => ?_)
  ·intro y0 y1
   unfold chicaneref15_Lines.l1
   repeat' first
   | (with_reducible exact ih0 _ _ _)
   | (with_reducible exact ih1 _ _)
   | (with_reducible exact LeO.refl _)
   | (with_reducible exact LeO.none _)
   | (with_reducible refine LeO.ite ?_ ?_)
   | (with_reducible refine LeO.bind ?_ (fun _ => ?_))
   | exact ih0 _ _ _
   | exact ih1 _ _
   | exact LeO.none _
   | refine LeO.ite ?_ ?_
   | refine LeO.bind ?_ (fun _ => ?_)
theorem chicaneref15_Lines.mono : ∀ a0 k, LeO (chicaneref15_Lines.f k a0) (chicaneref15_Lines.f (k + 1) a0) := by
 intro a0 k
 obtain ⟨ih0, ih1⟩ := chicaneref15_Lines.mono_l k
 unfold chicaneref15_Lines.f
 repeat' first
   | (with_reducible exact ih0 _ _ _)
   | (with_reducible exact ih1 _ _)
   | (with_reducible exact LeO.refl _)
   | (with_reducible exact LeO.none _)
   | (with_reducible refine LeO.ite ?_ ?_)
   | (with_reducible refine LeO.bind ?_ (fun _ => ?_))
   | exact ih0 _ _ _
   | exact ih1 _ _
   | exact LeO.none _
   | refine LeO.ite ?_ ?_
   | refine LeO.bind ?_ (fun _ => ?_)
def words_may.f (a0 : Int) : Option (Bool) := if a0 ≥ 32 then (if a0 ≤ 126 then (some true) else (some (a0 == 9))) else (some (a0 == 9))
set_option maxHeartbeats 8000000 in
set_option maxRecDepth 100000 in
theorem words_may.calls (a0 : Int) (r : Bool) (w : World) (h : words_may.f a0 = some r) :
  Calls Tryd.prog 17 #[.int .u8 a0] w fun e w' => e = .returned (.bool r) ∧ Drawn0 w w' := by
 have H : (if a0 ≥ 32 then (if a0 ≤ 126 then (some true) else (some (a0 == 9))) else (some (a0 == 9))) = some r := h
 clear h
 by_cases c2 : a0 ≥ 32
 ·rw [if_pos c2] at H
  have c2b0 : decide (32 ≤ a0) = true := decide_eq_true c2
  clear c2
  by_cases c3 : a0 ≤ 126
  ·rw [if_pos c3] at H
   have c3b0 : decide (a0 ≤ 126) = true := decide_eq_true c3
   clear c3
   obtain rfl := Option.some.inj H
   go_enter Tryd.func17, Tryd.ntmps17
   go_wp2
   go_ret
   exact ⟨by first | rfl | (simp; done) | (simp [*]; done), by repeat (first | exact Drawn0.refl _ | apply Drawn0.step)⟩
  ·rw [if_neg c3] at H
   have c3b0 : decide (a0 ≤ 126) = false := decide_eq_false c3
   clear c3
   obtain rfl := Option.some.inj H
   go_enter Tryd.func17, Tryd.ntmps17
   go_wp2
   go_ret
   exact ⟨by first | rfl | (simp; done) | (simp [*]; done), by repeat (first | exact Drawn0.refl _ | apply Drawn0.step)⟩
 ·rw [if_neg c2] at H
  have c2b0 : decide (32 ≤ a0) = false := decide_eq_false c2
  clear c2
  obtain rfl := Option.some.inj H
  go_enter Tryd.func17, Tryd.ntmps17
  go_wp2
  go_ret
  exact ⟨by first | rfl | (simp; done) | (simp [*]; done), by repeat (first | exact Drawn0.refl _ | apply Drawn0.step)⟩
def words_blank.f (a0 : Int) : Option (Bool) := if a0 = 32 then (some true) else (some (a0 == 9))
set_option maxHeartbeats 8000000 in
set_option maxRecDepth 100000 in
theorem words_blank.calls (a0 : Int) (r : Bool) (w : World) (h : words_blank.f a0 = some r) :
  Calls Tryd.prog 18 #[.int .u8 a0] w fun e w' => e = .returned (.bool r) ∧ Drawn0 w w' := by
 have H : (if a0 = 32 then (some true) else (some (a0 == 9))) = some r := h
 clear h
 by_cases c2 : a0 = 32
 ·rw [if_pos c2] at H
  have c2b0 : (a0 == 32) = true := beq_iff_eq.mpr c2
  have c2b1 : (a0 != 32) = false := bne_eq_false_iff_eq.mpr c2
  clear c2
  obtain rfl := Option.some.inj H
  go_enter Tryd.func18, Tryd.ntmps18
  go_wp2
  go_ret
  exact ⟨by first | rfl | (simp; done) | (simp [*]; done), by repeat (first | exact Drawn0.refl _ | apply Drawn0.step)⟩
 ·rw [if_neg c2] at H
  have c2b0 : (a0 == 32) = false := beq_eq_false_iff_ne.mpr c2
  have c2b1 : (a0 != 32) = true := bne_iff_ne.mpr c2
  obtain rfl := Option.some.inj H
  go_enter Tryd.func18, Tryd.ntmps18
  go_wp2
  go_ret
  exact ⟨by first | rfl | (simp; done) | (simp [*]; done), by repeat (first | exact Drawn0.refl _ | apply Drawn0.step)⟩
def words_Plain.l0 : Nat → ByteArray → Int → Int → Option (Bool)
 | 0, _, _, _ => none
 | k + 1, x0, x5, x6 => if x6 < x5 then (if 0 ≤ x6 then (if x6 < (x0.size : Int) then ((words_may.f (bt x0 x6)).bind fun t138 => (if t138 = true then ((words_blank.f (bt x0 x6)).bind fun t139 => (if t139 = true then (some false) else (if (bt x0 x6) = 34 then (some false) else (if (bt x0 x6) = 92 then (some false) else (words_Plain.l0 k x0 x5 (wrap64 (x6 + 1))))))) else (some false))) else (none)) else (none)) else (if x0.toList = ([] : List UInt8) then (some false) else (if 0 < (x0.size : Int) then (some ((bt x0 0) != 35)) else (none)))
def words_Plain.f (k : Nat) (a0 : ByteArray) : Option (Bool) := words_Plain.l0 k a0 (a0.size : Int) 0
theorem words_Plain.mono_l : ∀ k, (∀ y0 y1 y2, LeO (words_Plain.l0 k y0 y1 y2) (words_Plain.l0 (k + 1) y0 y1 y2))
 | 0 => fun _ _ _ r h => by simp [words_Plain.l0] at h
 | k + 1 => by
  have ih0 := words_Plain.mono_l k
  ·intro y0 y1 y2
   unfold words_Plain.l0
   repeat' first
   | (with_reducible exact ih0 _ _ _)
   | (with_reducible exact LeO.refl _)
   | (with_reducible exact LeO.none _)
   | (with_reducible refine LeO.ite ?_ ?_)
   | (with_reducible refine LeO.bind ?_ (fun _ => ?_))
   | exact ih0 _ _ _
   | exact LeO.none _
   | refine LeO.ite ?_ ?_
   | refine LeO.bind ?_ (fun _ => ?_)
theorem words_Plain.mono : ∀ a0 k, LeO (words_Plain.f k a0) (words_Plain.f (k + 1) a0) := by
 intro a0 k
 have ih0 := words_Plain.mono_l k
 unfold words_Plain.f
 repeat' first
   | (with_reducible exact ih0 _ _ _)
   | (with_reducible exact LeO.refl _)
   | (with_reducible exact LeO.none _)
   | (with_reducible refine LeO.ite ?_ ?_)
   | (with_reducible refine LeO.bind ?_ (fun _ => ?_))
   | exact ih0 _ _ _
   | exact LeO.none _
   | refine LeO.ite ?_ ?_
   | refine LeO.bind ?_ (fun _ => ?_)
set_option maxHeartbeats 8000000 in
set_option maxRecDepth 100000 in
theorem words_Plain.calls (k : Nat) (a0 : ByteArray) (r : Bool) (w : World) (h : words_Plain.f k a0 = some r) :
  Calls Tryd.prog 8 #[.string a0] w fun e w' => e = .returned (.bool r) ∧ Drawn0 w w' := by
 have H : (words_Plain.l0 k a0 (a0.size : Int) 0) = some r := h
 clear h
 have H' := Aside0.mk H
 clear H
 go_enter Tryd.func8, Tryd.ntmps8
 go_wp2
 go_loopg [6] k (fun kq v6 w' => ∃ (x6_1 : Int), v6 = .int .i64 x6_1 ∧ Aside0 (words_Plain.l0 kq a0 (a0.size : Int) x6_1 = some r) ∧ Aside0 (kq ≤ k) ∧ Drawn0 w w')
 case atStart => exact ⟨(0), (by first | rfl | (simp; done) | (simp [*]; done)), H', ⟨Nat.le_refl _⟩, by repeat (first | exact Drawn0.refl _ | apply Drawn0.step)⟩
 case round =>
  clear H'
  obtain ⟨x6_1, rfl, HA, HK1, ⟨m1, rfl⟩⟩ := hrel
  cases gk with
  | zero => exact absurd HA.out (by simp [words_Plain.l0])
  | succ k1 =>
   have H := HA.out
   clear HA
   simp only [words_Plain.l0] at H
   by_cases c2 : x6_1 < (a0.size : Int)
   ·rw [if_pos c2] at H
    have c2b0 : decide (x6_1 < (a0.size : Int)) = true := decide_eq_true c2
    clear c2
    by_cases c3 : 0 ≤ x6_1
    ·rw [if_pos c3] at H
     have c3b0 : decide (0 ≤ x6_1) = true := decide_eq_true c3
     clear c3
     by_cases c4 : x6_1 < (a0.size : Int)
     ·rw [if_pos c4] at H
      have c4b0 : decide (x6_1 < (a0.size : Int)) = true := decide_eq_true c4
      clear c4
      replace H := Option.bind_eq_some_iff.mp H
      obtain ⟨t138, A60, H⟩ := H
      replace H : (if t138 = true then ((words_blank.f (bt a0 x6_1)).bind fun t139 => (if t139 = true then (some false) else (if (bt a0 x6_1) = 34 then (some false) else (if (bt a0 x6_1) = 92 then (some false) else (words_Plain.l0 k1 a0 (a0.size : Int) (wrap64 (x6_1 + 1))))))) else (some false)) = some r := H
      have A6 := Aside0.mk A60
      clear A60
      by_cases c7 : t138 = true
      ·subst c7
       have H1 : ((words_blank.f (bt a0 x6_1)).bind fun t139 => (if t139 = true then (some false) else (if (bt a0 x6_1) = 34 then (some false) else (if (bt a0 x6_1) = 92 then (some false) else (words_Plain.l0 k1 a0 (a0.size : Int) (wrap64 (x6_1 + 1))))))) = some r := by rw [if_pos rfl] at H; exact H
       clear H
       have H := H1
       clear H1
       replace H := Option.bind_eq_some_iff.mp H
       obtain ⟨t139, A90, H⟩ := H
       replace H : (if t139 = true then (some false) else (if (bt a0 x6_1) = 34 then (some false) else (if (bt a0 x6_1) = 92 then (some false) else (words_Plain.l0 k1 a0 (a0.size : Int) (wrap64 (x6_1 + 1)))))) = some r := H
       have A9 := Aside0.mk A90
       clear A90
       by_cases c10 : t139 = true
       ·subst c10
        have H1 : (some false) = some r := by rw [if_pos rfl] at H; exact H
        clear H
        have H := H1
        clear H1
        obtain rfl := Option.some.inj H
        have p5 : 0 ≤ (x6_1 : Int) := of_decide_eq_true (by first | (with_reducible assumption) | assumption)
        have q5 : x6_1 < (a0.size : Int) := of_decide_eq_true (by first | (with_reducible assumption) | assumption)
        have hx5 := bt_at a0 x6_1
        replace p5 := eq_true p5
        replace q5 := eq_true q5
        go_wp2_with (first | ((with_reducible refine gate_callee (f := 17) rfl ?_); refine goesL_ (some 12) rfl rfl Tryd.func17 (by kernel_rfl) rfl #[.int .u8 (bt a0 x6_1)] rfl (by (try simp only [List.map_toArray, List.map_cons, List.map_nil]); first | done | rfl | (simp only [List.length_drop, List.length_take]; rfl)) ?_; (with_reducible refine (words_may.calls (bt a0 x6_1) true _ A6.out).mono ?_); rintro e w' ⟨rfl, ⟨nd, rfl⟩⟩; refine ⟨_, rfl, ?_⟩; have p8 : 0 ≤ (x6_1 : Int) := of_decide_eq_true (by first | (with_reducible assumption) | assumption); have q8 : x6_1 < (a0.size : Int) := of_decide_eq_true (by first | (with_reducible assumption) | assumption); have hx8 := bt_at a0 x6_1; replace p8 := eq_true p8; replace q8 := eq_true q8) | (go_at_call 18; (with_reducible refine (words_blank.calls (bt a0 x6_1) true _ A9.out).mono ?_); rintro e w' ⟨rfl, ⟨nd, rfl⟩⟩))
        go_ret
        exact ⟨by first | rfl | (simp; done) | (simp [*]; done), by repeat (first | exact Drawn0.refl _ | apply Drawn0.step)⟩
       ·replace c10 := Bool.eq_false_iff.mpr c10
        subst c10
        have H1 : (if (bt a0 x6_1) = 34 then (some false) else (if (bt a0 x6_1) = 92 then (some false) else (words_Plain.l0 k1 a0 (a0.size : Int) (wrap64 (x6_1 + 1))))) = some r := by rw [if_neg (show ¬ (false = true) by decide)] at H; exact H
        clear H
        have H := H1
        clear H1
        by_cases c12 : (bt a0 x6_1) = 34
        ·rw [if_pos c12] at H
         have c12b0 : ((bt a0 x6_1) == 34) = true := beq_iff_eq.mpr c12
         have c12b1 : ((bt a0 x6_1) != 34) = false := bne_eq_false_iff_eq.mpr c12
         clear c12
         obtain rfl := Option.some.inj H
         have p5 : 0 ≤ (x6_1 : Int) := of_decide_eq_true (by first | (with_reducible assumption) | assumption)
         have q5 : x6_1 < (a0.size : Int) := of_decide_eq_true (by first | (with_reducible assumption) | assumption)
         have hx5 := bt_at a0 x6_1
         replace p5 := eq_true p5
         replace q5 := eq_true q5
         go_wp2_with (first | ((with_reducible refine gate_callee (f := 17) rfl ?_); refine goesL_ (some 12) rfl rfl Tryd.func17 (by kernel_rfl) rfl #[.int .u8 (bt a0 x6_1)] rfl (by (try simp only [List.map_toArray, List.map_cons, List.map_nil]); first | done | rfl | (simp only [List.length_drop, List.length_take]; rfl)) ?_; (with_reducible refine (words_may.calls (bt a0 x6_1) true _ A6.out).mono ?_); rintro e w' ⟨rfl, ⟨nd, rfl⟩⟩; refine ⟨_, rfl, ?_⟩; have p8 : 0 ≤ (x6_1 : Int) := of_decide_eq_true (by first | (with_reducible assumption) | assumption); have q8 : x6_1 < (a0.size : Int) := of_decide_eq_true (by first | (with_reducible assumption) | assumption); have hx8 := bt_at a0 x6_1; replace p8 := eq_true p8; replace q8 := eq_true q8) | (go_at_call 18; (with_reducible refine (words_blank.calls (bt a0 x6_1) false _ A9.out).mono ?_); rintro e w' ⟨rfl, ⟨nd, rfl⟩⟩; have p11 : 0 ≤ (x6_1 : Int) := of_decide_eq_true (by first | (with_reducible assumption) | assumption); have q11 : x6_1 < (a0.size : Int) := of_decide_eq_true (by first | (with_reducible assumption) | assumption); have hx11 := bt_at a0 x6_1; replace p11 := eq_true p11; replace q11 := eq_true q11))
         go_ret
         exact ⟨by first | rfl | (simp; done) | (simp [*]; done), by repeat (first | exact Drawn0.refl _ | apply Drawn0.step)⟩
        ·rw [if_neg c12] at H
         have c12b0 : ((bt a0 x6_1) == 34) = false := beq_eq_false_iff_ne.mpr c12
         have c12b1 : ((bt a0 x6_1) != 34) = true := bne_iff_ne.mpr c12
         by_cases c14 : (bt a0 x6_1) = 92
         ·rw [if_pos c14] at H
          have c14b0 : ((bt a0 x6_1) == 92) = true := beq_iff_eq.mpr c14
          have c14b1 : ((bt a0 x6_1) != 92) = false := bne_eq_false_iff_eq.mpr c14
          clear c14
          obtain rfl := Option.some.inj H
          have p5 : 0 ≤ (x6_1 : Int) := of_decide_eq_true (by first | (with_reducible assumption) | assumption)
          have q5 : x6_1 < (a0.size : Int) := of_decide_eq_true (by first | (with_reducible assumption) | assumption)
          have hx5 := bt_at a0 x6_1
          replace p5 := eq_true p5
          replace q5 := eq_true q5
          go_wp2_with (first | ((with_reducible refine gate_callee (f := 17) rfl ?_); refine goesL_ (some 12) rfl rfl Tryd.func17 (by kernel_rfl) rfl #[.int .u8 (bt a0 x6_1)] rfl (by (try simp only [List.map_toArray, List.map_cons, List.map_nil]); first | done | rfl | (simp only [List.length_drop, List.length_take]; rfl)) ?_; (with_reducible refine (words_may.calls (bt a0 x6_1) true _ A6.out).mono ?_); rintro e w' ⟨rfl, ⟨nd, rfl⟩⟩; refine ⟨_, rfl, ?_⟩; have p8 : 0 ≤ (x6_1 : Int) := of_decide_eq_true (by first | (with_reducible assumption) | assumption); have q8 : x6_1 < (a0.size : Int) := of_decide_eq_true (by first | (with_reducible assumption) | assumption); have hx8 := bt_at a0 x6_1; replace p8 := eq_true p8; replace q8 := eq_true q8) | (go_at_call 18; (with_reducible refine (words_blank.calls (bt a0 x6_1) false _ A9.out).mono ?_); rintro e w' ⟨rfl, ⟨nd, rfl⟩⟩; have p11 : 0 ≤ (x6_1 : Int) := of_decide_eq_true (by first | (with_reducible assumption) | assumption); have q11 : x6_1 < (a0.size : Int) := of_decide_eq_true (by first | (with_reducible assumption) | assumption); have hx11 := bt_at a0 x6_1; replace p11 := eq_true p11; replace q11 := eq_true q11; have p13 : 0 ≤ (x6_1 : Int) := of_decide_eq_true (by first | (with_reducible assumption) | assumption); have q13 : x6_1 < (a0.size : Int) := of_decide_eq_true (by first | (with_reducible assumption) | assumption); have hx13 := bt_at a0 x6_1; replace p13 := eq_true p13; replace q13 := eq_true q13))
          go_ret
          exact ⟨by first | rfl | (simp; done) | (simp [*]; done), by repeat (first | exact Drawn0.refl _ | apply Drawn0.step)⟩
         ·rw [if_neg c14] at H
          have c14b0 : ((bt a0 x6_1) == 92) = false := beq_eq_false_iff_ne.mpr c14
          have c14b1 : ((bt a0 x6_1) != 92) = true := bne_iff_ne.mpr c14
          have H' := Aside0.mk H
          clear H
          have p5 : 0 ≤ (x6_1 : Int) := of_decide_eq_true (by first | (with_reducible assumption) | assumption)
          have q5 : x6_1 < (a0.size : Int) := of_decide_eq_true (by first | (with_reducible assumption) | assumption)
          have hx5 := bt_at a0 x6_1
          replace p5 := eq_true p5
          replace q5 := eq_true q5
          go_wp2_with (first | ((with_reducible refine gate_callee (f := 17) rfl ?_); refine goesL_ (some 12) rfl rfl Tryd.func17 (by kernel_rfl) rfl #[.int .u8 (bt a0 x6_1)] rfl (by (try simp only [List.map_toArray, List.map_cons, List.map_nil]); first | done | rfl | (simp only [List.length_drop, List.length_take]; rfl)) ?_; (with_reducible refine (words_may.calls (bt a0 x6_1) true _ A6.out).mono ?_); rintro e w' ⟨rfl, ⟨nd, rfl⟩⟩; refine ⟨_, rfl, ?_⟩; have p8 : 0 ≤ (x6_1 : Int) := of_decide_eq_true (by first | (with_reducible assumption) | assumption); have q8 : x6_1 < (a0.size : Int) := of_decide_eq_true (by first | (with_reducible assumption) | assumption); have hx8 := bt_at a0 x6_1; replace p8 := eq_true p8; replace q8 := eq_true q8) | (go_at_call 18; (with_reducible refine (words_blank.calls (bt a0 x6_1) false _ A9.out).mono ?_); rintro e w' ⟨rfl, ⟨nd, rfl⟩⟩; have p11 : 0 ≤ (x6_1 : Int) := of_decide_eq_true (by first | (with_reducible assumption) | assumption); have q11 : x6_1 < (a0.size : Int) := of_decide_eq_true (by first | (with_reducible assumption) | assumption); have hx11 := bt_at a0 x6_1; replace p11 := eq_true p11; replace q11 := eq_true q11; have p13 : 0 ≤ (x6_1 : Int) := of_decide_eq_true (by first | (with_reducible assumption) | assumption); have q13 : x6_1 < (a0.size : Int) := of_decide_eq_true (by first | (with_reducible assumption) | assumption); have hx13 := bt_at a0 x6_1; replace p13 := eq_true p13; replace q13 := eq_true q13))
          go_roundg k1
          case measure => have := HK1.out; omega
          case rel => exact ⟨(wrap64 (x6_1 + 1)), (by first | rfl | (simp; done) | (simp [*]; done)), H', ⟨by have := HK1.out; omega⟩, by repeat (first | exact Drawn0.refl _ | apply Drawn0.step)⟩
      ·replace c7 := Bool.eq_false_iff.mpr c7
       subst c7
       have H1 : (some false) = some r := by rw [if_neg (show ¬ (false = true) by decide)] at H; exact H
       clear H
       have H := H1
       clear H1
       obtain rfl := Option.some.inj H
       have p5 : 0 ≤ (x6_1 : Int) := of_decide_eq_true (by first | (with_reducible assumption) | assumption)
       have q5 : x6_1 < (a0.size : Int) := of_decide_eq_true (by first | (with_reducible assumption) | assumption)
       have hx5 := bt_at a0 x6_1
       replace p5 := eq_true p5
       replace q5 := eq_true q5
       go_wp2_with (first | ((with_reducible refine gate_callee (f := 17) rfl ?_); refine goesL_ (some 12) rfl rfl Tryd.func17 (by kernel_rfl) rfl #[.int .u8 (bt a0 x6_1)] rfl (by (try simp only [List.map_toArray, List.map_cons, List.map_nil]); first | done | rfl | (simp only [List.length_drop, List.length_take]; rfl)) ?_; (with_reducible refine (words_may.calls (bt a0 x6_1) false _ A6.out).mono ?_); rintro e w' ⟨rfl, ⟨nd, rfl⟩⟩; refine ⟨_, rfl, ?_⟩))
       go_ret
       exact ⟨by first | rfl | (simp; done) | (simp [*]; done), by repeat (first | exact Drawn0.refl _ | apply Drawn0.step)⟩
     ·rw [if_neg c4] at H
      exact absurd H (by simp)
    ·rw [if_neg c3] at H
     exact absurd H (by simp)
   ·rw [if_neg c2] at H
    have c2b0 : decide (x6_1 < (a0.size : Int)) = false := decide_eq_false c2
    clear c2
    by_cases c15 : a0.toList = ([] : List UInt8)
    ·rw [if_pos c15] at H
     have c15b0 : (a0.toList == ([] : List UInt8)) = true := beq_iff_eq.mpr c15
     have c15b1 : (a0.toList != ([] : List UInt8)) = false := bne_eq_false_iff_eq.mpr c15
     clear c15
     obtain rfl := Option.some.inj H
     go_wp2
     go_ret
     exact ⟨by first | rfl | (simp; done) | (simp [*]; done), by repeat (first | exact Drawn0.refl _ | apply Drawn0.step)⟩
    ·rw [if_neg c15] at H
     have c15b0 : (a0.toList == ([] : List UInt8)) = false := beq_eq_false_iff_ne.mpr c15
     have c15b1 : (a0.toList != ([] : List UInt8)) = true := bne_iff_ne.mpr c15
     by_cases c16 : 0 < (a0.size : Int)
     ·rw [if_pos c16] at H
      have c16b0 : decide (0 < (a0.size : Int)) = true := decide_eq_true c16
      have c16b1 : decide (0 < a0.size) = true := decide_eq_true (by omega)
      clear c16
      obtain rfl := Option.some.inj H
      have p17 : 0 ≤ (0 : Int) := (by omega)
      have q17 : 0 < a0.size := (by have : (0 : Int) < (a0.size : Int) := of_decide_eq_true (by first | (with_reducible assumption) | assumption); omega)
      have hx17 : ∀ h : 0 < a0.size, ((a0[0]'h).toNat : Int) = bt a0 0 := bt_at a0 0
      clear p17
      have qi17 : (0 < (a0.size : Int)) = True := eq_true (of_decide_eq_true (by first | (with_reducible assumption) | assumption))
      replace q17 := eq_true q17
      go_wp2
      go_ret
      exact ⟨by first | rfl | (simp; done) | (simp [*]; done), by repeat (first | exact Drawn0.refl _ | apply Drawn0.step)⟩
     ·rw [if_neg c16] at H
      exact absurd H (by simp)
end Go.Proofs.YtbfeokfninedcaaDoor.PWrdA
set_option linter.unusedVariables false
set_option linter.unusedSimpArgs false
namespace Go.Proofs.YtbfeokfninedcaaDoor.Ext
open Go.RowKit Go.Proofs.YtbfeokfninedcaaDoorW.PrintWords Go.Proofs.YtbfeokfninedcaaDoorW.PrintLast
theorem on_disable (w : World) : (callFunc 65 #[]).run Tryd.prog w = .ok (.value (.tuple #[])) w := run_call_mark0 Tryd.func65 (by kernel_rfl) (by kernel_rfl) (by kernel_rfl) .disable (by kernel_rfl) w
theorem on_enable (w : World) : (callFunc 67 #[]).run Tryd.prog w = .ok (.value (.tuple #[])) w := run_call_mark0 Tryd.func67 (by kernel_rfl) (by kernel_rfl) (by kernel_rfl) .enable (by kernel_rfl) w
theorem on_acquire (a : Addr) (w : World) : (callFunc 68 #[.pointer (some a)]).run Tryd.prog w = .ok (.value (.tuple #[])) w := run_call_marked Tryd.func68 (by kernel_rfl) (by kernel_rfl) (by kernel_rfl) .acquire (by kernel_rfl) a w
theorem on_release (a : Addr) (w : World) : (callFunc 70 #[.pointer (some a)]).run Tryd.prog w = .ok (.value (.tuple #[])) w := run_call_marked Tryd.func70 (by kernel_rfl) (by kernel_rfl) (by kernel_rfl) .releaseMerge (by kernel_rfl) a w
theorem on_store_deferred (a : Addr) (x : Value) (u : FrameMode) (w : World) (hc : w.cell? a = some x) (hz : w.frozen? a = false) :
    CallsD Tryd.prog 45 #[.pointer (some a), .bool true] u w fun e u' w' => u' = u ∧ (e = .returned (.tuple #[]) ∧ w' = w.drew.setCell a (.int .u32 1)) := by
  have hc' : w.drew.cell? a = some x := by go_simp
  have hz' : w.drew.frozen? a = false := by go_simp
  have hst := run_call_store (P := Tryd.prog) Tryd.func56 (by kernel_rfl) (by kernel_rfl) (by kernel_rfl) (by kernel_rfl) (k := .u32) (y := 1) hc' hz'
  go_enter_d Tryd.func45, Tryd.ntmps45
  go_wp2
  go_region_calls
  all_goals (go_end0; exact ⟨rfl, rfl⟩)
set_option maxRecDepth 100000 in
theorem on_unlock_deferred (a : Addr) (u : FrameMode) (w : World) (hc : w.cell? a = some (.int .i32 1)) (hz : w.frozen? a = false) :
    CallsD Tryd.prog 44 #[.pointer (some a)] u w fun e u' w' => u' = u ∧ (e = .returned (.tuple #[]) ∧ w' = w.setCell a (.int .i32 0)) := by
  have hd := on_disable
  have he := on_enable
  have hr := on_release
  have hadd := run_call_add (P := Tryd.prog) Tryd.func71 (by kernel_rfl) (by kernel_rfl) (by kernel_rfl) .i32 (by kernel_rfl) (y := -1) (s := 0) hc hz (by simp [go_sem]; rfl)
  have hcv := run_convert_to_unsafe (P := Tryd.prog) (src := 112) (dst := 89) Tryd.underlying112 Tryd.underlying89 (by kernel_rfl) hc
  go_enter_d Tryd.func44, Tryd.ntmps44
  go_wp2
  go_end0
  go_wp2
  go_end0
  exact ⟨rfl, rfl⟩
set_option maxRecDepth 100000 in
theorem on_lock_free (a : Addr) (w : World) (hc : w.cell? a = some (.int .i32 0)) (hz : w.frozen? a = false) :
    Calls Tryd.prog 43 #[.pointer (some a)] w fun e w' => e = .returned (.tuple #[]) ∧ w' = w.setCell a (.int .i32 1) := by
  have hd := on_disable
  have he := on_enable
  have ha := on_acquire
  have hcas := run_call_cas_hit (P := Tryd.prog) Tryd.func66 (by kernel_rfl) (by kernel_rfl) (by kernel_rfl) .i32 (by kernel_rfl) (y := 1) hc hz
  have hc' : (w.setCell a (.int .i32 1)).cell? a = some (.int .i32 1) := World.cell?_setCell_same w a _ hc
  have hcv := run_convert_to_unsafe (P := Tryd.prog) (src := 112) (dst := 89) Tryd.underlying112 Tryd.underlying89 (by kernel_rfl) hc'
  go_enter Tryd.func43, Tryd.ntmps43
  go_wp2
  first | go_end0 | (simp only [Exit.inBlock, Exit.then]; refine bodyPost_ret (results_none rfl _ _ _) rfl ?_) | refine bodyPost_ret (results_none rfl _ _ _) rfl ?_
  go_wp2
  go_end0
  exact ⟨rfl, rfl⟩
theorem lt_of_cell {w : World} {g j : Nat} {v : Value} (h : w.cell? ⟨g, j, none⟩ = some v) : g < w.heap.size := by
  have := World.block_lt_of_cell? _ _ h
  exact this
def cBn (n : Nat) (f34 f92 tr : Value) : Array Value := ((((List.replicate n (Value.slice none 0 0)).set 34 f34).set 92 f92).set 256 tr).toArray
theorem cBn_size (n : Nat) (f34 f92 tr : Value) : (cBn n f34 f92 tr).size = n := by simp [cBn]
theorem cBn_34 (n : Nat) (h : 256 < n) (f34 f92 tr : Value) : (cBn n f34 f92 tr)[34]? = some f34 := by simp [cBn, show 34 < n by omega]
theorem cBn_92 (n : Nat) (h : 256 < n) (f34 f92 tr : Value) : (cBn n f34 f92 tr)[92]? = some f92 := by simp [cBn, show 92 < n by omega]
theorem cBn_256 (n : Nat) (h : 256 < n) (f34 f92 tr : Value) : (cBn n f34 f92 tr)[256]? = some tr := by simp [cBn, h]
theorem cBn_at (n : Nat) (h : 256 < n) (f34 f92 tr : Value) (b : Nat) (hb : b < 256) (h1 : b ≠ 34) (h2 : b ≠ 92) : (cBn n f34 f92 tr)[b]? = some (.slice none 0 0) := by
  simp [cBn, List.getElem?_set, Ne.symm h1, Ne.symm h2, show 256 ≠ b by omega, List.getElem?_replicate, show b < n by omega]
theorem cBn_set34 (n : Nat) (f34 f92 tr v : Value) : (cBn n f34 f92 tr).setIfInBounds 34 v = cBn n v f92 tr := by
  simp only [cBn, List.setIfInBounds_toArray]
  rw [List.set_comm _ _ (by decide : 256 ≠ 34), List.set_comm _ _ (by decide : 92 ≠ 34), List.set_set]
theorem cBn_set92 (n : Nat) (f34 f92 tr v : Value) : (cBn n f34 f92 tr).setIfInBounds 92 v = cBn n f34 v tr := by
  simp only [cBn, List.setIfInBounds_toArray]
  rw [List.set_comm _ _ (by decide : 256 ≠ 92), List.set_set]
theorem cBn_set256 (n : Nat) (f34 f92 tr v : Value) : (cBn n f34 f92 tr).setIfInBounds 256 v = cBn n f34 f92 v := by
  simp only [cBn, List.setIfInBounds_toArray]
  rw [List.set_set]
theorem cBn_new (n : Nat) (tr : Value) : (List.replicate n (Value.slice none 0 0)).set 256 tr = (cBn n (.slice none 0 0) (.slice none 0 0) tr).toList := by
  simp only [cBn]
  have e : ∀ k, (List.replicate n (Value.slice none 0 0)).set k (Value.slice none 0 0) = List.replicate n (Value.slice none 0 0) := by
    intro k
    apply List.ext_getElem?
    intro i
    rw [List.getElem?_set]
    split <;> simp_all [List.getElem?_replicate]
  rw [e, e]
theorem cBn_one (n : Nat) (tr : Value) (h : tr.oneCell' = true) : (cBn n (.slice none 0 0) (.slice none 0 0) tr).all (·.oneCell') = true := by
  have : ∀ v ∈ (List.replicate n (Value.slice none 0 0)).set 256 tr, v.oneCell' = true := by
    intro v hv
    rcases List.mem_or_eq_of_mem_set hv with hv | rfl
    · rw [List.eq_of_mem_replicate hv]; rfl
    · exact h
  rw [← Array.all_toList, ← cBn_new]
  exact List.all_eq_true.2 this
@[irreducible] def nB : Nat := 257
theorem nB_is : nB = 257 := by unfold nB; rfl
theorem nB_big : 256 < nB := by rw [nB_is]; decide
def cB (f34 f92 tr : Value) : Array Value := cBn nB f34 f92 tr
theorem cB_size (f34 f92 tr : Value) : (cB f34 f92 tr).size = nB := cBn_size _ _ _ _
theorem cB_34 (f34 f92 tr : Value) : (cB f34 f92 tr)[34]? = some f34 := cBn_34 _ nB_big _ _ _
theorem cB_92 (f34 f92 tr : Value) : (cB f34 f92 tr)[92]? = some f92 := cBn_92 _ nB_big _ _ _
theorem cB_256 (f34 f92 tr : Value) : (cB f34 f92 tr)[256]? = some tr := cBn_256 _ nB_big _ _ _
theorem cB_at (f34 f92 tr : Value) (b : Nat) (hb : b < 256) (h1 : b ≠ 34) (h2 : b ≠ 92) : (cB f34 f92 tr)[b]? = some (.slice none 0 0) := cBn_at _ nB_big _ _ _ b hb h1 h2
theorem cB_set34 (f34 f92 tr v : Value) : (cB f34 f92 tr).setIfInBounds 34 v = cB v f92 tr := cBn_set34 _ _ _ _ _
theorem cB_set92 (f34 f92 tr v : Value) : (cB f34 f92 tr).setIfInBounds 92 v = cB f34 v tr := cBn_set92 _ _ _ _ _
theorem cB_set256 (f34 f92 tr v : Value) : (cB f34 f92 tr).setIfInBounds 256 v = cB f34 f92 v := cBn_set256 _ _ _ _ _
set_option maxRecDepth 100000 in
theorem zero_is : Tryd.zeroCells87 = (List.replicate nB (Value.slice none 0 0)).toArray := by rw [nB_is]; kernel_rfl
theorem info_bs : (Tryd.prog.info? 87).map (·.size) = some nB := by rw [nB_is]; kernel_rfl
theorem cB_new (tr : Value) : Tryd.zeroCells87.toList.set 256 tr = (cB (.slice none 0 0) (.slice none 0 0) tr).toList := by
  rw [zero_is]
  exact cBn_new nB tr
def Byt (W : World) (v : Value) (a b : Int) : Prop := ∃ x cap c fr, v = .slice (some ⟨x, 0, none⟩) 2 cap ∧ W.heap[x]? = some (.cells c 5 fr) ∧ c[0]? = some (.int .u8 a) ∧ c[1]? = some (.int .u8 b)
theorem byt_new (W : World) (a b : UInt8) (cap : Nat) : Byt (Lib.bytesWorld W 5 ⟨#[a, b]⟩) (.slice (some ⟨W.heap.size, 0, none⟩) (ByteArray.size ⟨#[a, b]⟩) cap) a.toNat b.toNat := by
  refine ⟨_, cap, _, _, rfl, Lib.bytesWorld_at_new W 5 _, ?_, ?_⟩
  · have := Lib.bytesWorld_cell W 5 ⟨#[a, b]⟩ 0 (by show 0 < 2; omega)
    rw [cell_of_row _ _ _ _ _ _ (Lib.bytesWorld_at_new W 5 _)] at this
    exact this
  · have := Lib.bytesWorld_cell W 5 ⟨#[a, b]⟩ 1 (by show 1 < 2; omega)
    rw [cell_of_row _ _ _ _ _ _ (Lib.bytesWorld_at_new W 5 _)] at this
    exact this
theorem byt_move {W W' : World} {v : Value} {a b : Int} (h : Byt W v a b) (hm : ∀ (x : Nat) (c : Array Value) (fr : Nat × Nat), W.heap[x]? = some (Obj.cells c 5 fr) → W'.heap[x]? = W.heap[x]?) : Byt W' v a b := by
  obtain ⟨x, cap, c, fr, rfl, h1, h2, h3⟩ := h
  exact ⟨x, cap, c, fr, rfl, (hm x c fr h1).trans h1, h2, h3⟩
theorem byt_grown {W w1 : World} {v u : Value} {a b : Int} {base e n : Nat} {xs : List Value} (h : Byt W v a b) (hg : W.grownBy w1 u.ownBlock) (ho : W.ownsRow base e 1 u n xs) (he : e ≠ 5) : Byt w1 v a b :=
  byt_move h fun x c fr hx => hg.block x (blk_lt hx) (fun hh => by
    obtain ⟨cells, hc⟩ := own_typed ho x hh.symm
    rw [hx] at hc
    injection hc with hc
    injection hc with _ h2 _
    exact he h2.symm)
theorem byt_set {W : World} {v : Value} {a b : Int} {g t : Nat} {cs : Array Value} (h : Byt W v a b) (hg : W.heap[g]? = some (.cells cs t (0, 0))) (ht : t ≠ 5) (j : Nat) (u : Value) : Byt (W.setCell ⟨g, j, none⟩ u) v a b :=
  byt_move h fun x c fr hx => Below.heap_setCell W ⟨g, j, none⟩ u x (fun hh => by
    have hh : x = g := hh
    rw [hh] at hx
    rw [hx] at hg
    injection hg with hg
    injection hg with _ h2 _
    exact ht h2.symm)
theorem byt_below {W w1 : World} {v : Value} {a b : Int} (h : Byt W v a b) (hb : Below W.heap.size W w1) : Byt w1 v a b := byt_move h fun x c fr hx => hb.block x (blk_lt hx)
structure BSt (w W : World) (g : Nat) : Prop where
  ex : ∃ f34 f92 tr xs, W.heap[w.heap.size + 1]? = some (.cells (cB f34 f92 tr) 87 (0, 0)) ∧ W.ownsRow w.heap.size 9 1 tr xs.length xs ∧ Below w.heap.size w W ∧
    (2 ≤ g → f34 = .slice none 0 0 ∧ xs = []) ∧ (1 ≤ g → f92 = .slice none 0 0) ∧ (g ≤ 1 → Byt W f34 92 34 ∧ ∃ ys, xs = Value.string ⟨#[34]⟩ :: ys ∧ (g = 1 → ys = []) ∧ (g = 0 → ys = [Value.string ⟨#[92]⟩])) ∧ (g = 0 → Byt W f92 92 92)
theorem info_str : (Tryd.prog.info? 9).map (fun i => (i.zero, i.size, i.bytes)) = some (some (.string ByteArray.empty), 1, 16) := by kernel_rfl
theorem bst_start (w : World) : BSt w ((w.alloc (.cells #[.string ByteArray.empty, .string ByteArray.empty] 9)).alloc (.cells (cB (.slice none 0 0) (.slice none 0 0) (.slice (some ⟨w.heap.size, 0, none⟩) 0 2)) 87)) 2 :=
  ⟨_, _, _, [], by have := heap_alloc_new (w.alloc (.cells #[.string ByteArray.empty, .string ByteArray.empty] 9)) (.cells (cB (.slice none 0 0) (.slice none 0 0) (.slice (some ⟨w.heap.size, 0, none⟩) 0 2)) 87); simpa using this,
    (World.ownsRow_made (base := w.heap.size) (e := 9) (size := 1) w #[.string ByteArray.empty, .string ByteArray.empty] 2 (Nat.le_refl _) (by simp [maxLen]) rfl).alloc _, below_alloc (below_alloc (Below.refl _ _) _) _, fun _ => ⟨rfl, rfl⟩, fun _ => rfl, fun h => by omega, fun h => by omega⟩
theorem bst_parts {w wr w1 : World} {cs : Array Value} {tr v1 : Value} {n m j : Nat} {xs ys : List Value} {o : Obj} {s : ByteArray} {V : Value}
    (hc : wr.heap[w.heap.size + 1]? = some (.cells cs 87 (0, 0))) (ho : wr.ownsRow w.heap.size 9 1 tr n xs) (hb : Below w.heap.size w wr)
    (hown : w1.ownsRow w.heap.size 9 1 v1 m ys) (hbel : Below w.heap.size (wr.alloc o) w1) (hg : (wr.alloc o).grownBy w1 tr.ownBlock) :
    w1.heap[w.heap.size + 1]? = some (.cells cs 87 (0, 0)) ∧ (w1.setCell ⟨w.heap.size + 1, 256, none⟩ v1).heap[w.heap.size + 1]? = some (.cells (cs.setIfInBounds 256 v1) 87 (0, 0)) ∧
    (Lib.bytesWorld (w1.setCell ⟨w.heap.size + 1, 256, none⟩ v1) 5 s).heap[w.heap.size + 1]? = some (.cells (cs.setIfInBounds 256 v1) 87 (0, 0)) ∧
    ((Lib.bytesWorld (w1.setCell ⟨w.heap.size + 1, 256, none⟩ v1) 5 s).setCell ⟨w.heap.size + 1, j, none⟩ V).heap[w.heap.size + 1]? = some (.cells ((cs.setIfInBounds 256 v1).setIfInBounds j V) 87 (0, 0)) ∧
    ((Lib.bytesWorld (w1.setCell ⟨w.heap.size + 1, 256, none⟩ v1) 5 s).setCell ⟨w.heap.size + 1, j, none⟩ V).ownsRow w.heap.size 9 1 v1 m ys ∧ Below w.heap.size w ((Lib.bytesWorld (w1.setCell ⟨w.heap.size + 1, 256, none⟩ v1) 5 s).setCell ⟨w.heap.size + 1, j, none⟩ V) := by
  have hlt := blk_lt hc
  have h0 : (wr.alloc o).heap[w.heap.size + 1]? = some (.cells cs 87 (0, 0)) := (Below.heap_alloc _ _ _ hlt).trans hc
  have h1 := blk_grown h0 hg (own_ne (ho.alloc o) h0 (by decide))
  have h2 := blk_set h1 256 v1
  have hs : w.heap.size ≤ w1.heap.size := by have := blk_lt h1; omega
  have h3 : (Lib.bytesWorld (w1.setCell ⟨w.heap.size + 1, 256, none⟩ v1) 5 s).heap[w.heap.size + 1]? = _ := (Lib.bytesWorld_at_old _ _ _ _ (blk_lt h2)).trans h2
  have o2 : (w1.setCell ⟨w.heap.size + 1, 256, none⟩ v1).ownsRow w.heap.size 9 1 v1 m ys := own_setCell hown (own_ne hown h1 (by decide)) _
  have b1 : Below w.heap.size w w1 := (hb.alloc hb.size o).trans hbel
  have b2 : Below w.heap.size w (w1.setCell ⟨w.heap.size + 1, 256, none⟩ v1) := b1.setCell (by simp) _
  have b3 := bytes_below b2 (by simpa using hs) 5 s
  have o3 : (Lib.bytesWorld (w1.setCell ⟨w.heap.size + 1, 256, none⟩ v1) 5 s).ownsRow w.heap.size 9 1 v1 m ys := own_move o2 (fun k hk => Lib.bytesWorld_at_old _ _ _ _ (own_lt o2 k hk))
  exact ⟨h1, h2, h3, blk_set h3 j V, own_setCell o3 (own_ne o3 h3 (by decide)) _, b3.setCell (by simp) _⟩
theorem bst_byt {w wr w1 : World} {cs : Array Value} {tr v1 f : Value} {n m j : Nat} {xs ys : List Value} {o : Obj} {s : ByteArray} {V : Value} {a b : Int}
    (hc : wr.heap[w.heap.size + 1]? = some (.cells cs 87 (0, 0))) (ho : wr.ownsRow w.heap.size 9 1 tr n xs) (hb : Below w.heap.size w wr)
    (hown : w1.ownsRow w.heap.size 9 1 v1 m ys) (hbel : Below w.heap.size (wr.alloc o) w1) (hg : (wr.alloc o).grownBy w1 tr.ownBlock) (hf : Byt wr f a b) :
    Byt ((Lib.bytesWorld (w1.setCell ⟨w.heap.size + 1, 256, none⟩ v1) 5 s).setCell ⟨w.heap.size + 1, j, none⟩ V) f a b := by
  obtain ⟨h1, h2, h3, _⟩ := bst_parts (j := 0) (s := s) (V := V) hc ho hb hown hbel hg
  have f1 : Byt w1 f a b := byt_grown (byt_below hf (below_alloc (Below.refl _ _) o)) hg (ho.alloc o) (by decide)
  have f2 := byt_set f1 h1 (by decide) 256 v1
  exact byt_set (byt_below f2 (bytes_below (Below.refl _ _) (Nat.le_refl _) 5 s)) h3 (by decide) j V
theorem bst_new {w W : World} {cs : Array Value} {a b : UInt8} {cap j : Nat} {V : Value} (h2 : W.heap[w.heap.size + 1]? = some (.cells cs 87 (0, 0))) :
    Byt ((Lib.bytesWorld W 5 ⟨#[a, b]⟩).setCell ⟨w.heap.size + 1, j, none⟩ V) (.slice (some ⟨W.heap.size, 0, none⟩) (ByteArray.size ⟨#[a, b]⟩) cap) a.toNat b.toNat :=
  byt_set (byt_new W a b cap) ((Lib.bytesWorld_at_old _ _ _ _ (blk_lt h2)).trans h2) (by decide) j V
theorem bst_new1 {w w1 : World} {cs : Array Value} {v1 : Value} {a b : UInt8} {cap j : Nat} {V : Value} (h2 : (w1.setCell ⟨w.heap.size + 1, 256, none⟩ v1).heap[w.heap.size + 1]? = some (.cells cs 87 (0, 0))) :
    Byt ((Lib.bytesWorld (w1.setCell ⟨w.heap.size + 1, 256, none⟩ v1) 5 ⟨#[a, b]⟩).setCell ⟨w.heap.size + 1, j, none⟩ V) (.slice (some ⟨w1.heap.size, 0, none⟩) 2 cap) a.toNat b.toNat := by
  have h := bst_new (a := a) (b := b) (cap := cap) (j := j) (V := V) h2
  rw [show (w1.setCell ⟨w.heap.size + 1, 256, none⟩ v1).heap.size = w1.heap.size by simp] at h
  exact h
set_option maxRecDepth 100000 in
set_option maxHeartbeats 4000000 in
theorem rp_build (w : World) (R g c : Nat) (x0 x1 x2 x3 : Value) (hR : w.heap[R]? = some (.cells #[x0, x1, x2, x3, .slice (some ⟨g, 0, none⟩) 4 c] 57 (0, 0)))
    (h0 : w.cell? ⟨g, 0, none⟩ = some (.string ⟨#[92]⟩)) (h1 : w.cell? ⟨g, 1, none⟩ = some (.string ⟨#[92, 92]⟩)) (h2 : w.cell? ⟨g, 2, none⟩ = some (.string ⟨#[34]⟩)) (h3 : w.cell? ⟨g, 3, none⟩ = some (.string ⟨#[92, 34]⟩)) :
    Calls Tryd.prog 35 #[.pointer (some ⟨R, 0, none⟩)] w fun e w' => e = .returned (.iface 88 (.pointer (some ⟨w.heap.size + 1, 0, none⟩))) ∧ BSt w w' 0 := by
  have r4 : w.cell? ⟨R, 4, none⟩ = some (.slice (some ⟨g, 0, none⟩) 4 c) := (blk_cell hR 4).trans rfl
  have hmk : ∀ w, (Instr.makeSlice 22 (.int .i64 0) (.int .i64 2)).run Tryd.prog w = .ok (.slice (some ⟨w.heap.size, 0, none⟩) 0 2) (w.alloc (.cells #[.string ByteArray.empty, .string ByteArray.empty] 9)) := fun _ => by kernel_rfl
  have hst := run_storeCells_new (P := Tryd.prog) (w.alloc (.cells #[.string ByteArray.empty, .string ByteArray.empty] 9)) 87 Tryd.zeroCells87 (cB (.slice none 0 0) (.slice none 0 0) (.slice (some ⟨w.heap.size, 0, none⟩) 0 2)) (by rw [cB_size]; exact info_bs) (by rw [cB_size, zero_is]; simp) (cBn_one _ _ rfl)
  rw [← cB_new, show (w.alloc (.cells #[.string ByteArray.empty, .string ByteArray.empty] 9)).heap.size = w.heap.size + 1 by simp] at hst
  have hr0 := lt_of_cell h0
  have HS := Lib.hid (bst_start w)
  go_enter Tryd.func35, Tryd.ntmps35
  go_wp2_with fail
  refine wp_loop_rounds 3 ?_
  rw [rounds_succ]
  go_wp2_with fail
  rw [rounds_succ]
  go_wp2_with fail
  rw [rounds_succ]
  go_wp2_with fail
  go_loopg [12] 2 (fun g v12 W => g ≤ 2 ∧ v12 = .int .i64 (2 * (g : Int) - 2) ∧ BSt w W g)
  case atStart => exact ⟨by omega, rfl, HS.out⟩
  case round =>
    obtain ⟨hg2, rfl, hB⟩ := hrel
    clear hst hmk HS r4
    obtain ⟨f34, f92, tr, xs, hc, ho, hb, p2, p1, q1, q0⟩ := hB.ex
    have hsz := hb.size
    have k0 := (hb.cell (p := ⟨g, 0, none⟩) hr0).trans h0
    have k1 := (hb.cell (p := ⟨g, 1, none⟩) hr0).trans h1
    have k2 := (hb.cell (p := ⟨g, 2, none⟩) hr0).trans h2
    have k3 := (hb.cell (p := ⟨g, 3, none⟩) hr0).trans h3
    clear h0 h1 h2 h3
    have qT : ∀ (w : World) (a : Option Addr) (n c n' c' : Nat), (binOp .eql 39 (.slice a n c) (.slice none n' c')).run Tryd.prog w = .ok (.bool a.isNone) w := fun w a n c n' c' => Lib.run_eql_slice_nil w _ _ a n c n' c' Tryd.underlying39
    have hix : ∀ h, ((⟨#[34]⟩ : ByteArray)[0]'h).toNat = 34 := fun _ => rfl
    have hiy : ∀ h, ((⟨#[92]⟩ : ByteArray)[0]'h).toNat = 92 := fun _ => rfl
    have hgk : gk = 2 ∨ gk = 1 ∨ gk = 0 := by omega
    rcases hgk with rfl | rfl | rfl
    · obtain ⟨rfl, rfl⟩ := p2 (Nat.le_refl _)
      obtain rfl := p1 (by omega)
      clear p2 p1 q1 q0
      obtain ⟨At, ct, rfl⟩ := own_slice ho
      have c34 := (blk_cell hc 34).trans (cB_34 _ _ _)
      have c256 := (blk_cell hc 256).trans (cB_256 _ _ _)
      have hcv : (convert 39 9 (.slice (some ⟨wr.heap.size, 0, none⟩) 1 1)).run Tryd.prog (wr.alloc (.cells #[.int .u8 34] 5)) = .ok (.string ⟨#[34]⟩) (wr.alloc (.cells #[.int .u8 34] 5)) :=
        own_string (P := Tryd.prog) Tryd.underlying39 Tryd.underlying5 Tryd.underlying9 (own_lit wr 0 5 .u8 [34] (Nat.zero_le _) (by simp))
      have kc := fun W => print_bytes (P := Tryd.prog) 9 39 5 Tryd.underlying9 Tryd.underlying39 Tryd.underlying5 ⟨#[92, 34]⟩ W
      have HC := Lib.hid hc
      have HO := Lib.hid ho
      have HB := Lib.hid hb
      clear hc ho hb hB
      go_wp2_with (at_builtin; refine print_append (w0 := _) w.heap.size rfl (.tmp 119) (.tmp 123) 22 9 (.string ByteArray.empty) 16 rfl Tryd.underlying22 info_str rfl (by decide) (.slice At ([] : List Value).length ct) [] (.string ⟨#[34]⟩) rfl (by first | rfl | (rw [show ∀ (X : World) o, (X.alloc o).heap.size = X.heap.size + 1 from fun X o => by simp]; done) | (rw [show ∀ (X : World) o, (X.alloc o).heap.size = X.heap.size + 1 from fun X o => by simp]; rfl)) rfl (HO.out.alloc _) (Below.refl _ _) (by rw [show ∀ (X : World) o, (X.alloc o).heap.size = X.heap.size + 1 from fun X o => by simp]; omega) (by simp) ?_; intro v1 w1 hown hbel hg hat; obtain ⟨Av, cv, ev⟩ := own_slice hown; subst ev; replace hown : w1.ownsRow w.heap.size 9 1 (.slice Av 1 cv) 1 [Value.string ⟨#[34]⟩] := hown; obtain ⟨g1, g2, g3, _⟩ := bst_parts (j := 34) (s := ⟨#[92, 34]⟩) (V := .bool true) HC.out HO.out HB.out hown hbel hg; have e1 := (blk_cell g1 256).trans (cB_256 _ _ _); have e2 := blk_frozen g1 256; have e3 := (blk_cell g3 34).trans ((congrArg (fun (c : Array Value) => c[34]?) (cB_set256 _ _ _ _)).trans (cB_34 _ _ _)); have e4 := blk_frozen g3 34; have HX := Lib.hid (And.intro hown (And.intro hbel hg)); clear hown hbel hg hat g1 g2 g3)
      go_roundg 1
      case measure => omega
      case rel =>
        obtain ⟨hown, hbel, hg⟩ := HX.out
        have P := fun V => bst_parts (j := 34) (s := ⟨#[92, 34]⟩) (V := V) HC.out HO.out HB.out hown hbel hg
        exact ⟨by omega, rfl, ⟨_, _, _, [Value.string ⟨#[34]⟩], ((P _).2.2.2.1).trans (by rw [cB_set256, cB_set34]), (P _).2.2.2.2.1, (P _).2.2.2.2.2, fun h => by omega, fun _ => rfl, fun _ => ⟨bst_new1 (a := 92) (b := 34) (P (.bool true)).2.1, [], rfl, fun _ => rfl, fun h => by omega⟩, fun h => by omega⟩⟩
    · obtain rfl := p1 (Nat.le_refl _)
      obtain ⟨hf34, ys, rfl, hys, _⟩ := q1 (Nat.le_refl _)
      obtain rfl := hys rfl
      clear p2 p1 q1 q0 hys
      obtain ⟨At, ct, rfl⟩ := own_slice ho
      replace ho : wr.ownsRow w.heap.size 9 1 (.slice At 1 ct) 1 [Value.string ⟨#[34]⟩] := ho
      have c92 := (blk_cell hc 92).trans (cB_92 _ _ _)
      have c256 := (blk_cell hc 256).trans (cB_256 _ _ _)
      have HF := Lib.hid hf34
      clear hf34
      have hcv : (convert 39 9 (.slice (some ⟨wr.heap.size, 0, none⟩) 1 1)).run Tryd.prog (wr.alloc (.cells #[.int .u8 92] 5)) = .ok (.string ⟨#[92]⟩) (wr.alloc (.cells #[.int .u8 92] 5)) :=
        own_string (P := Tryd.prog) Tryd.underlying39 Tryd.underlying5 Tryd.underlying9 (own_lit wr 0 5 .u8 [92] (Nat.zero_le _) (by simp))
      have kc := fun W => print_bytes (P := Tryd.prog) 9 39 5 Tryd.underlying9 Tryd.underlying39 Tryd.underlying5 ⟨#[92, 92]⟩ W
      have HC := Lib.hid hc
      have HO := Lib.hid ho
      have HB := Lib.hid hb
      clear hc ho hb hB
      go_wp2_with (at_builtin; refine print_append (w0 := _) w.heap.size rfl (.tmp 119) (.tmp 123) 22 9 (.string ByteArray.empty) 16 rfl Tryd.underlying22 info_str rfl (by decide) (.slice At 1 ct) [Value.string ⟨#[34]⟩] (.string ⟨#[92]⟩) rfl (by first | rfl | (rw [show ∀ (X : World) o, (X.alloc o).heap.size = X.heap.size + 1 from fun X o => by simp]; done) | (rw [show ∀ (X : World) o, (X.alloc o).heap.size = X.heap.size + 1 from fun X o => by simp]; rfl)) rfl (HO.out.alloc _) (Below.refl _ _) (by rw [show ∀ (X : World) o, (X.alloc o).heap.size = X.heap.size + 1 from fun X o => by simp]; omega) (by simp) ?_; intro v1 w1 hown hbel hg hat; obtain ⟨Av, cv, ev⟩ := own_slice hown; subst ev; replace hown : w1.ownsRow w.heap.size 9 1 (.slice Av 2 cv) 2 [Value.string ⟨#[34]⟩, Value.string ⟨#[92]⟩] := hown; obtain ⟨g1, g2, g3, _⟩ := bst_parts (j := 92) (s := ⟨#[92, 92]⟩) (V := .bool true) HC.out HO.out HB.out hown hbel hg; have e1 := (blk_cell g1 256).trans (cB_256 _ _ _); have e2 := blk_frozen g1 256; have e3 := (blk_cell g3 92).trans ((congrArg (fun (c : Array Value) => c[92]?) (cB_set256 _ _ _ _)).trans (cB_92 _ _ _)); have e4 := blk_frozen g3 92; have HX := Lib.hid (And.intro hown (And.intro hbel hg)); clear hown hbel hg hat g1 g2 g3)
      go_roundg 0
      case measure => omega
      case rel =>
        obtain ⟨hown, hbel, hg⟩ := HX.out
        have P := fun V => bst_parts (j := 92) (s := ⟨#[92, 92]⟩) (V := V) HC.out HO.out HB.out hown hbel hg
        exact ⟨by omega, rfl, ⟨_, _, _, [Value.string ⟨#[34]⟩, Value.string ⟨#[92]⟩], ((P _).2.2.2.1).trans (by rw [cB_set256, cB_set92]), (P _).2.2.2.2.1, (P _).2.2.2.2.2, fun h => by omega, fun h => by omega, fun _ => ⟨bst_byt HC.out HO.out HB.out hown hbel hg HF.out, [Value.string ⟨#[92]⟩], rfl, fun h => by omega, fun _ => rfl⟩, fun _ => bst_new1 (a := 92) (b := 92) (P (.bool true)).2.1⟩⟩
    · have HBB := Lib.hid hB
      clear hB hc ho hb p2 p1 q1 q0
      go_wp2_with fail
      go_ret
      exact ⟨rfl, HBB.out⟩
end Go.Proofs.YtbfeokfninedcaaDoor.Ext
set_option linter.unusedVariables false
set_option linter.unusedSimpArgs false
namespace Go.Proofs.YtbfeokfninedcaaDoor.WP
def may (c : UInt8) : Bool := (decide (32 ≤ c.toNat) && decide (c.toNat ≤ 126)) || decide (c.toNat = 9)
def blk (c : UInt8) : Bool := decide (c.toNat = 32) || decide (c.toNat = 9)
inductive Mode
  | btw | rest | quo | esc | fin | pla
abbrev Res := List (List UInt8) × Nat × Nat
def run (m : Mode) (ws : List (List UInt8)) (w : List UInt8) (i : Nat) : List UInt8 → Res
  | [] => match m with
    | .btw | .rest => (ws, i, 0)
    | .pla | .fin => (ws ++ [w], i, 0)
    | .quo | .esc => ([], i, 150)
  | c :: r => match m with
    | .btw => if blk c = true then run .btw ws [] (i + 1) r else if c.toNat = 35 then run .rest ws [] (i + 1) r else if may c = false then ([], i, 150)
        else if ws.length = 16 then ([], i, 151) else if c.toNat = 34 then run .quo ws [] (i + 1) r else if c.toNat = 92 then ([], i, 150) else run .pla ws [c] (i + 1) r
    | .rest => if may c = false then ([], i, 150) else run .rest ws [] (i + 1) r
    | .quo => if may c = false then ([], i, 150) else if c.toNat = 34 then run .fin ws w (i + 1) r else if c.toNat = 92 then run .esc ws w (i + 1) r else run .quo ws (w ++ [c]) (i + 1) r
    | .esc => if c.toNat = 34 ∨ c.toNat = 92 then run .quo ws (w ++ [c]) (i + 1) r else ([], i, 150)
    | .fin => if blk c = true then run .btw (ws ++ [w]) [] (i + 1) r else ([], i, 150)
    | .pla => if blk c = true then run .btw (ws ++ [w]) [] (i + 1) r else if may c = false ∨ c.toNat = 34 ∨ c.toNat = 92 then ([], i, 150) else run .pla ws (w ++ [c]) (i + 1) r
def split (s : List UInt8) : Res := if 256 < s.length then ([], 256, 150) else run .btw [] [] 0 s
def pb (c : UInt8) : Bool := may c && !blk c && !decide (c.toNat = 34) && !decide (c.toNat = 92)
def plain : List UInt8 → Bool
  | [] => false
  | c :: r => !decide (c.toNat = 35) && (c :: r).all pb
def es : List UInt8 → List UInt8
  | [] => []
  | c :: r => if c.toNat = 34 ∨ c.toNat = 92 then 92 :: c :: es r else c :: es r
def qt (s : List UInt8) : List UInt8 := if plain s = true then s else 34 :: (es s ++ [34])
def sep : List (List UInt8) → List UInt8
  | [] => []
  | [a] => a
  | a :: b :: l => a ++ 32 :: sep (b :: l)
def join (l : List (List UInt8)) : List UInt8 :=
  if 16 < l.length then [] else if l.all (·.all may) = false then [] else if 256 < (sep (l.map qt)).length then [] else sep (l.map qt)
theorem run_end (ws : List (List UInt8)) (w : List UInt8) (i : Nat) (m : Mode) (hm : m = .pla ∨ m = .fin) (r : List UInt8) (hr : ∀ c t, r = c :: t → blk c = true) :
    run m ws w i r = run .btw (ws ++ [w]) [] i r := by
  cases r with
  | nil => rcases hm with rfl | rfl <;> rfl
  | cons c t =>
    have h := hr c t rfl
    rcases hm with rfl | rfl <;> simp [run, h]
theorem pb_iff (c : UInt8) : pb c = true ↔ may c = true ∧ blk c = false ∧ c.toNat ≠ 34 ∧ c.toNat ≠ 92 := by
  simp [pb, and_assoc]
def sp (c : UInt8) : Bool := decide (c.toNat = 34) || decide (c.toNat = 92)
def cn (l : List UInt8) : Nat := l.countP sp
theorem es_append (l m : List UInt8) : es (l ++ m) = es l ++ es m := by
  induction l with
  | nil => rfl
  | cons c r ih =>
    rw [List.cons_append, es, es, ih]
    split <;> simp
theorem sp_iff (c : UInt8) : sp c = true ↔ c.toNat = 34 ∨ c.toNat = 92 := by simp [sp]
theorem es_one (c : UInt8) : es [c] = if sp c = true then [92, c] else [c] := by
  rw [es]
  by_cases h : c.toNat = 34 ∨ c.toNat = 92
  · rw [if_pos h, if_pos ((sp_iff c).2 h)]; rfl
  · rw [if_neg h, if_neg (fun h2 => h ((sp_iff c).1 h2))]; rfl
theorem es_len (l : List UInt8) : (es l).length = l.length + cn l := by
  induction l with
  | nil => rfl
  | cons c r ih =>
    rw [es]
    by_cases h : c.toNat = 34 ∨ c.toNat = 92
    · rw [if_pos h]
      simp only [List.length_cons, ih, cn, List.countP_cons, (sp_iff c).2 h, if_true]
      omega
    · rw [if_neg h]
      have h2 : sp c = false := by cases hs : sp c; rfl; exact absurd ((sp_iff c).1 hs) h
      simp only [List.length_cons, ih, cn, List.countP_cons, h2]
      simp
      omega
theorem es_none (l : List UInt8) (h : cn l = 0) : es l = l := by
  induction l with
  | nil => rfl
  | cons c r ih =>
    simp only [cn, List.countP_cons] at h
    rw [es]
    by_cases hs : c.toNat = 34 ∨ c.toNat = 92
    · rw [(sp_iff c).2 hs] at h
      simp at h
    · rw [if_neg hs, ih (by unfold cn; omega)]
theorem cn_count (l : List UInt8) : cn l = l.count 34 + l.count 92 := by
  induction l with
  | nil => rfl
  | cons c r ih =>
    simp only [cn, List.countP_cons, List.count_cons] at ih ⊢
    rw [ih]
    by_cases h1 : c = 34
    · subst h1; simp [sp]; omega
    · by_cases h2 : c = 92
      · subst h2; simp [sp]; omega
      · have h3 : c.toNat ≠ 34 := fun h => h1 (UInt8.toNat_inj.1 h)
        have h4 : c.toNat ≠ 92 := fun h => h2 (UInt8.toNat_inj.1 h)
        simp [sp, h1, h2, h3, h4]
theorem cn_snoc (l : List UInt8) (c : UInt8) : cn (l ++ [c]) = cn l + (if sp c = true then 1 else 0) := by
  simp [cn, List.countP_append, List.countP_cons]
theorem cn_le (l : List UInt8) : cn l ≤ l.length := List.countP_le_length
end Go.Proofs.YtbfeokfninedcaaDoor.WP
