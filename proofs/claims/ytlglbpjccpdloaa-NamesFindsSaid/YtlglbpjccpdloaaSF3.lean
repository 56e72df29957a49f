/- Gathered by a program of this session (shake.py): what the claim's theorem needs. -/
import Derived.Test.YtlglbpjccpdloaaSF0
import Derived.Test.YtlglbpjccpdloaaSF1
import Derived.Test.YtlglbpjccpdloaaSF2
import Derived.Below
import Derived.Deep.Draws
import Derived.Deep.AppendLies
import Derived.Maps.AppendAt
import Derived.OwnWalk
import Derived.Laws.BytesArg
import Derived.Laws.MakeOwn
import Derived.Laws.OwnMore
import Derived.Deep.OwnRows
import Derived.Tactics
import Derived.Lib.ConvBytes
import Derived.Laws.Slices
import Derived.WalkKit
import Derived.KernelRfl
import Derived.RowKit3
import Derived.Deep.LoopGhost
import Derived.Deep.QuietTactic
import Derived.BigQuiet
import Derived.WideLaws
import Derived.Deep.DeepCutAuto
import Derived.Deep.CutBlock
import Derived.Deep.RegionHeld3
import Derived.Laws.Rows
import Derived.Lib.AppendStr
import Derived.ArgAppend
import Derived.Laws.IdiomCopy
import Derived.OrdersHeld
import Derived.Laws.BitsLemmas
import Derived.RowKit
import Derived.Test.YtlglbpjccpdloaaProg
set_option linter.unusedVariables false
set_option linter.unusedSimpArgs false
namespace Go.Proofs.Ytlglbpjccpdloaa.Ext
end Go.Proofs.Ytlglbpjccpdloaa.Ext
namespace Go.Proofs.Ytlglbpjccpdloaa.PToxR
end Go.Proofs.Ytlglbpjccpdloaa.PToxR
namespace Go.Proofs.Ytlglbpjccpdloaa.Tox
end Go.Proofs.Ytlglbpjccpdloaa.Tox
namespace Go.Proofs.Ytlglbpjccpdloaa.ToxRef
end Go.Proofs.Ytlglbpjccpdloaa.ToxRef
namespace Go.Proofs.Ytlglbpjccpdloaa.ToxZ
end Go.Proofs.Ytlglbpjccpdloaa.ToxZ
namespace Go.Proofs.YtlglbpjccpdloaaW.PrintLast
end Go.Proofs.YtlglbpjccpdloaaW.PrintLast
namespace Go.Proofs.YtlglbpjccpdloaaW.PrintMore
end Go.Proofs.YtlglbpjccpdloaaW.PrintMore
namespace Go.Proofs.YtlglbpjccpdloaaW.PrintWords
end Go.Proofs.YtlglbpjccpdloaaW.PrintWords
namespace Go.Proofs.Ytlglbpjccpdloaa.PNamA
open Go.Proofs.Ytlglbpjccpdloaa.Ext Go.Proofs.Ytlglbpjccpdloaa.ToxZ Go.RowKit Go.Proofs.YtlglbpjccpdloaaW.PrintWords Go.Proofs.YtlglbpjccpdloaaW.PrintLast Go.Proofs.YtlglbpjccpdloaaW.PrintMore
attribute [local go_sem] max2_int min2_int max_two min_two max_three min_three max_four min_four   -- for this text's walks alone
set_option linter.unusedVariables false
set_option linter.unusedSimpArgs false
private theorem pw_size_mk (l : Array UInt8) : (⟨l⟩ : ByteArray).size = l.size := rfl
attribute [local go_sem high] eqA39
def names_one.f (a0_0 : ByteArray) (a0_1 : Int) (a0_2 : Bool) (a0_3 : Int) (a0_4 : Int) (a0_5 : Int) : Option (ByteArray) := some a0_0
def names_proxy.f (a0_0 : ByteArray) (a0_1 : Bool) (a0_2 : Int) (l0_3 : List (S39)) : Option (ByteArray) := some a0_0
def slices_Equal_api_Toxic_api_Toxic.l0 : Nat → List (S39) → List (S39) → Int → Int → Option (Bool)
  | 0, _, _, _, _ => none
  | k + 1, x0, x1, x12, x13 => if x13 < x12 then (if 0 ≤ x13 then (if x13 < (x0.length : Int) then (if x13 < (x1.length : Int) then (if (!((((rd_T39 x0 x13).f0).toList) == (((rd_T39 x1 x13).f0).toList)) || (!(((rd_T39 x0 x13).f1) == ((rd_T39 x1 x13).f1)) || (!(((rd_T39 x0 x13).f2) == ((rd_T39 x1 x13).f2)) || (!(((rd_T39 x0 x13).f3) == ((rd_T39 x1 x13).f3)) || (!(((rd_T39 x0 x13).f4) == ((rd_T39 x1 x13).f4)) || (!(((rd_T39 x0 x13).f5) == ((rd_T39 x1 x13).f5)))))))) = true then (some false) else (slices_Equal_api_Toxic_api_Toxic.l0 k x0 x1 x12 (wrap64 (x13 + 1)))) else (none)) else (none)) else (none)) else (some true)
def slices_Equal_api_Toxic_api_Toxic.f (k : Nat) (l0 : List (S39)) (l1 : List (S39)) : Option (Bool) := if (l0.length : Int) = (l1.length : Int) then (slices_Equal_api_Toxic_api_Toxic.l0 k l0 l1 (l0.length : Int) 0) else (some false)
theorem slices_Equal_api_Toxic_api_Toxic.mono_l : ∀ k, (∀ y0 y1 y2 y3, LeO (slices_Equal_api_Toxic_api_Toxic.l0 k y0 y1 y2 y3) (slices_Equal_api_Toxic_api_Toxic.l0 (k + 1) y0 y1 y2 y3))
  | 0 => fun _ _ _ _ r h => by simp [slices_Equal_api_Toxic_api_Toxic.l0] at h
  | k + 1 => by
    have ih0 := slices_Equal_api_Toxic_api_Toxic.mono_l k
    · intro y0 y1 y2 y3
      unfold slices_Equal_api_Toxic_api_Toxic.l0
      repeat' first
      | (with_reducible exact ih0 _ _ _ _)
      | (with_reducible exact LeO.refl _)
      | (with_reducible exact LeO.none _)
      | (with_reducible refine LeO.ite ?_ ?_)
      | (with_reducible refine LeO.bind ?_ (fun _ => ?_))
      | exact ih0 _ _ _ _
      | exact LeO.none _
      | refine LeO.ite ?_ ?_
      | refine LeO.bind ?_ (fun _ => ?_)
theorem slices_Equal_api_Toxic_api_Toxic.mono : ∀ a0 a1 k, LeO (slices_Equal_api_Toxic_api_Toxic.f k a0 a1) (slices_Equal_api_Toxic_api_Toxic.f (k + 1) a0 a1) := by
  intro a0 a1 k
  have ih0 := slices_Equal_api_Toxic_api_Toxic.mono_l k
  unfold slices_Equal_api_Toxic_api_Toxic.f
  repeat' first
      | (with_reducible exact ih0 _ _ _ _)
      | (with_reducible exact LeO.refl _)
      | (with_reducible exact LeO.none _)
      | (with_reducible refine LeO.ite ?_ ?_)
      | (with_reducible refine LeO.bind ?_ (fun _ => ?_))
      | exact ih0 _ _ _ _
      | exact LeO.none _
      | refine LeO.ite ?_ ?_
      | refine LeO.bind ?_ (fun _ => ?_)
set_option maxHeartbeats 8000000 in
set_option maxRecDepth 100000 in
theorem slices_Equal_api_Toxic_api_Toxic.calls (k : Nat) (A0 : Option Addr) (c0 : Nat) (l0 : List (S39)) (A1 : Option Addr) (c1 : Nat) (l1 : List (S39)) (r : Bool) (w : World) (hr0 : Kd.C k39 w A0 l0.length l0) (hc0 : l0.length ≤ c0) (hr1 : Kd.C k39 w A1 l1.length l1) (hc1 : l1.length ≤ c1) (h : slices_Equal_api_Toxic_api_Toxic.f k l0 l1 = some r) :
    Calls Try.prog 43 #[.slice A0 l0.length c0, .slice A1 l1.length c1] w fun e w' => e = .returned (.bool r) ∧ Drawn0 w w' := by
  have hu39 := Try.underlying39
  have HR0 := Aside0.mk hr0
  have HC0 := Aside0.mk hc0
  clear hr0 hc0
  have HR1 := Aside0.mk hr1
  have HC1 := Aside0.mk hc1
  clear hr1 hc1
  have H : (if (l0.length : Int) = (l1.length : Int) then (slices_Equal_api_Toxic_api_Toxic.l0 k l0 l1 (l0.length : Int) 0) else (some false)) = some r := h
  clear h
  by_cases c3 : (l0.length : Int) = (l1.length : Int)
  · rw [if_pos c3] at H
    have c3b0 : ((l0.length : Int) == (l1.length : Int)) = true := beq_iff_eq.mpr c3
    have c3b1 : ((l0.length : Int) != (l1.length : Int)) = false := bne_eq_false_iff_eq.mpr c3
    have c3b2 : (l0.length == l1.length) = true := by first | simpa using c3 | (simp at c3 ⊢; omega)
    clear c3
    have H' := Aside0.mk H
    clear H
    go_enter Try.func43, Try.ntmps43
    go_wp2
    repeat (go_quiet (fail); try go_wp2)
    go_loopg [13] k (fun kq v13 w' => ∃ (x13_1 : Int), v13 = .int .i64 x13_1 ∧ Aside0 (slices_Equal_api_Toxic_api_Toxic.l0 kq l0 l1 (l0.length : Int) x13_1 = some r) ∧ Aside0 (kq ≤ k) ∧ Drawn0 w w')
    case atStart => exact ⟨(0), (by first | rfl | (simp; done) | (simp [*]; done)), H', ⟨Nat.le_refl _⟩, by repeat (first | exact Drawn0.refl _ | apply Drawn0.step)⟩
    case round =>
      clear H'
      try clear c1
      try clear p2
      try clear c3
      try clear c3b0
      try clear c3b1
      try clear c3b2
      try clear c3b3
      obtain ⟨x13_1, rfl, HA, HK1, ⟨m1, rfl⟩⟩ := hrel
      cases gk with
      | zero => exact absurd HA.out (by simp [slices_Equal_api_Toxic_api_Toxic.l0])
      | succ k1 =>
        have H := HA.out
        clear HA
        simp only [slices_Equal_api_Toxic_api_Toxic.l0] at H
        by_cases c4 : x13_1 < (l0.length : Int)
        · rw [if_pos c4] at H
          have c4b0 : decide (x13_1 < (l0.length : Int)) = true := decide_eq_true c4
          clear c4
          by_cases c5 : 0 ≤ x13_1
          · rw [if_pos c5] at H
            have c5b0 : decide (0 ≤ x13_1) = true := decide_eq_true c5
            clear c5
            by_cases c6 : x13_1 < (l0.length : Int)
            · rw [if_pos c6] at H
              have c6b0 : decide (x13_1 < (l0.length : Int)) = true := decide_eq_true c6
              clear c6
              by_cases c7 : x13_1 < (l1.length : Int)
              · rw [if_pos c7] at H
                have c7b0 : decide (x13_1 < (l1.length : Int)) = true := decide_eq_true c7
                clear c7
                by_cases c8 : (!((((rd_T39 l0 x13_1).f0).toList) == (((rd_T39 l1 x13_1).f0).toList)) || (!(((rd_T39 l0 x13_1).f1) == ((rd_T39 l1 x13_1).f1)) || (!(((rd_T39 l0 x13_1).f2) == ((rd_T39 l1 x13_1).f2)) || (!(((rd_T39 l0 x13_1).f3) == ((rd_T39 l1 x13_1).f3)) || (!(((rd_T39 l0 x13_1).f4) == ((rd_T39 l1 x13_1).f4)) || (!(((rd_T39 l0 x13_1).f5) == ((rd_T39 l1 x13_1).f5)))))))) = true
                · rw [if_pos c8] at H
                  have c8b0 : (!((((rd_T39 l0 x13_1).f0).toList) == (((rd_T39 l1 x13_1).f0).toList)) || (!(((rd_T39 l0 x13_1).f1) == ((rd_T39 l1 x13_1).f1)) || (!(((rd_T39 l0 x13_1).f2) == ((rd_T39 l1 x13_1).f2)) || (!(((rd_T39 l0 x13_1).f3) == ((rd_T39 l1 x13_1).f3)) || (!(((rd_T39 l0 x13_1).f4) == ((rd_T39 l1 x13_1).f4)) || (!(((rd_T39 l0 x13_1).f5) == ((rd_T39 l1 x13_1).f5)))))))) = true := c8
                  clear c8
                  obtain rfl := Option.some.inj H
                  have p103 : 0 ≤ (x13_1 : Int) := of_decide_eq_true (by first | (with_reducible assumption) | assumption)
                  have q103 : x13_1 < (l0.length : Int) := of_decide_eq_true (by first | (with_reducible assumption) | assumption)
                  obtain ⟨ad103, e103, hx103_0, hx103_1, hx103_2, hx103_3, hx103_4, hx103_5⟩ := at_T39 HR0.out x13_1 p103 q103
                  cases e103
                  replace p103 := eq_true p103
                  replace q103 := eq_true q103
                  have p104 : 0 ≤ (x13_1 : Int) := of_decide_eq_true (by first | (with_reducible assumption) | assumption)
                  have q104 : x13_1 < (l1.length : Int) := of_decide_eq_true (by first | (with_reducible assumption) | assumption)
                  obtain ⟨ad104, e104, hx104_0, hx104_1, hx104_2, hx104_3, hx104_4, hx104_5⟩ := at_T39 HR1.out x13_1 p104 q104
                  cases e104
                  replace p104 := eq_true p104
                  replace q104 := eq_true q104
                  go_wp2
                  repeat (go_quiet (fail); try go_wp2)
                  go_ret
                  exact ⟨by first | rfl | (simp; done) | (simp [*]; done), by repeat (first | exact Drawn0.refl _ | apply Drawn0.step)⟩
                · rw [if_neg c8] at H
                  have c8b0 : (!((((rd_T39 l0 x13_1).f0).toList) == (((rd_T39 l1 x13_1).f0).toList)) || (!(((rd_T39 l0 x13_1).f1) == ((rd_T39 l1 x13_1).f1)) || (!(((rd_T39 l0 x13_1).f2) == ((rd_T39 l1 x13_1).f2)) || (!(((rd_T39 l0 x13_1).f3) == ((rd_T39 l1 x13_1).f3)) || (!(((rd_T39 l0 x13_1).f4) == ((rd_T39 l1 x13_1).f4)) || (!(((rd_T39 l0 x13_1).f5) == ((rd_T39 l1 x13_1).f5)))))))) = false := by simpa using c8
                  clear c8
                  have H' := Aside0.mk H
                  clear H
                  have p103 : 0 ≤ (x13_1 : Int) := of_decide_eq_true (by first | (with_reducible assumption) | assumption)
                  have q103 : x13_1 < (l0.length : Int) := of_decide_eq_true (by first | (with_reducible assumption) | assumption)
                  obtain ⟨ad103, e103, hx103_0, hx103_1, hx103_2, hx103_3, hx103_4, hx103_5⟩ := at_T39 HR0.out x13_1 p103 q103
                  cases e103
                  replace p103 := eq_true p103
                  replace q103 := eq_true q103
                  have p104 : 0 ≤ (x13_1 : Int) := of_decide_eq_true (by first | (with_reducible assumption) | assumption)
                  have q104 : x13_1 < (l1.length : Int) := of_decide_eq_true (by first | (with_reducible assumption) | assumption)
                  obtain ⟨ad104, e104, hx104_0, hx104_1, hx104_2, hx104_3, hx104_4, hx104_5⟩ := at_T39 HR1.out x13_1 p104 q104
                  cases e104
                  replace p104 := eq_true p104
                  replace q104 := eq_true q104
                  go_wp2
                  repeat (go_quiet (fail); try go_wp2)
                  go_roundg k1
                  case measure => have := HK1.out; omega
                  case rel => exact ⟨(wrap64 (x13_1 + 1)), (by first | rfl | (simp; done) | (simp [*]; done)), H', ⟨by have := HK1.out; omega⟩, by repeat (first | exact Drawn0.refl _ | apply Drawn0.step)⟩
              · rw [if_neg c7] at H
                exact absurd H (by simp)
            · rw [if_neg c6] at H
              exact absurd H (by simp)
          · rw [if_neg c5] at H
            exact absurd H (by simp)
        · rw [if_neg c4] at H
          have c4b0 : decide (x13_1 < (l0.length : Int)) = false := decide_eq_false c4
          clear c4
          obtain rfl := Option.some.inj H
          go_wp2
          repeat (go_quiet (fail); try go_wp2)
          go_ret
          exact ⟨by first | rfl | (simp; done) | (simp [*]; done), by repeat (first | exact Drawn0.refl _ | apply Drawn0.step)⟩
  · rw [if_neg c3] at H
    have c3b0 : ((l0.length : Int) == (l1.length : Int)) = false := beq_eq_false_iff_ne.mpr c3
    have c3b1 : ((l0.length : Int) != (l1.length : Int)) = true := bne_iff_ne.mpr c3
    have c3b2 : (l0.length == l1.length) = false := by first | simpa using c3 | (simp at c3 ⊢; omega)
    obtain rfl := Option.some.inj H
    go_enter Try.func43, Try.ntmps43
    go_wp2
    repeat (go_quiet (fail); try go_wp2)
    go_ret
    exact ⟨by first | rfl | (simp; done) | (simp [*]; done), by repeat (first | exact Drawn0.refl _ | apply Drawn0.step)⟩
def chicanelaw14_few.l0 : Nat → List (S24) → List (S24) → Int → Int → Option (Bool)
  | 0, _, _, _, _ => none
  | k + 1, x0, x5, x6, x7 => if x7 < x6 then (if 0 ≤ x7 then (if x7 < (x5.length : Int) then (if (((rd_T24 x5 x7).f3).length : Int) > 12 then (some false) else (if (((rd_T24 x5 x7).f0).size : Int) > 100 then (some false) else (chicanelaw14_few.l0 k x0 x5 x6 (wrap64 (x7 + 1))))) else (none)) else (none)) else (some (decide ((x0.length : Int) ≤ 12)))
def chicanelaw14_few.f (k : Nat) (l0 : List (S24)) : Option (Bool) := chicanelaw14_few.l0 k l0 l0 (l0.length : Int) 0
theorem chicanelaw14_few.mono_l : ∀ k, (∀ y0 y1 y2 y3, LeO (chicanelaw14_few.l0 k y0 y1 y2 y3) (chicanelaw14_few.l0 (k + 1) y0 y1 y2 y3))
  | 0 => fun _ _ _ _ r h => by simp [chicanelaw14_few.l0] at h
  | k + 1 => by
    have ih0 := chicanelaw14_few.mono_l k
    · intro y0 y1 y2 y3
      unfold chicanelaw14_few.l0
      repeat' first
      | (with_reducible exact ih0 _ _ _ _)
      | (with_reducible exact LeO.refl _)
      | (with_reducible exact LeO.none _)
      | (with_reducible refine LeO.ite ?_ ?_)
      | (with_reducible refine LeO.bind ?_ (fun _ => ?_))
      | exact ih0 _ _ _ _
      | exact LeO.none _
      | refine LeO.ite ?_ ?_
      | refine LeO.bind ?_ (fun _ => ?_)
theorem chicanelaw14_few.mono : ∀ a0 k, LeO (chicanelaw14_few.f k a0) (chicanelaw14_few.f (k + 1) a0) := by
  intro a0 k
  have ih0 := chicanelaw14_few.mono_l k
  unfold chicanelaw14_few.f
  repeat' first
      | (with_reducible exact ih0 _ _ _ _)
      | (with_reducible exact LeO.refl _)
      | (with_reducible exact LeO.none _)
      | (with_reducible refine LeO.ite ?_ ?_)
      | (with_reducible refine LeO.bind ?_ (fun _ => ?_))
      | exact ih0 _ _ _ _
      | exact LeO.none _
      | refine LeO.ite ?_ ?_
      | refine LeO.bind ?_ (fun _ => ?_)
set_option maxHeartbeats 8000000 in
set_option maxRecDepth 100000 in
theorem chicanelaw14_few.calls (k : Nat) (A0 : Option Addr) (c0 : Nat) (l0 : List (S24)) (r : Bool) (w : World) (hr0 : Kd.C k24 w A0 l0.length l0) (hc0 : l0.length ≤ c0) (h : chicanelaw14_few.f k l0 = some r) :
    Calls Try.prog 7 #[.slice A0 l0.length c0] w fun e w' => e = .returned (.bool r) ∧ Below w.heap.size w w' := by
  have hu24 := Try.underlying24
  have HR0 := Aside0.mk hr0
  have HC0 := Aside0.mk hc0
  clear hr0 hc0
  have HB := Aside0.mk (Below.refl w.heap.size w)
  have H : (chicanelaw14_few.l0 k l0 l0 (l0.length : Int) 0) = some r := h
  clear h
  have H' := Aside0.mk H
  clear H
  go_enter Try.func7, Try.ntmps7
  go_wp2
  go_loopg [7] k (fun kq v7 w' => ∃ (x7_1 : Int), v7 = .int .i64 x7_1 ∧ Aside0 (chicanelaw14_few.l0 kq l0 l0 (l0.length : Int) x7_1 = some r) ∧ Aside0 (kq ≤ k) ∧ Aside0 (Below w.heap.size w w'))
  case atStart => exact ⟨(0), (by first | rfl | (simp; done) | (simp [*]; done)), H', ⟨Nat.le_refl _⟩, ⟨by repeat (first | (with_reducible first | exact HB.out | apply below_alloc | apply pw_below_drewN | apply below_drew1) | exact HB.out)⟩⟩
  case round =>
    clear H'
    obtain ⟨x7_1, rfl, HA, HK1, HB⟩ := hrel
    cases gk with
    | zero => exact absurd HA.out (by simp [chicanelaw14_few.l0])
    | succ k1 =>
      have H := HA.out
      clear HA
      simp only [chicanelaw14_few.l0] at H
      by_cases c2 : x7_1 < (l0.length : Int)
      · rw [if_pos c2] at H
        have c2b0 : decide (x7_1 < (l0.length : Int)) = true := decide_eq_true c2
        clear c2
        by_cases c3 : 0 ≤ x7_1
        · rw [if_pos c3] at H
          have c3b0 : decide (0 ≤ x7_1) = true := decide_eq_true c3
          clear c3
          by_cases c4 : x7_1 < (l0.length : Int)
          · rw [if_pos c4] at H
            have c4b0 : decide (x7_1 < (l0.length : Int)) = true := decide_eq_true c4
            clear c4
            by_cases c5 : (((rd_T24 l0 x7_1).f3).length : Int) > 12
            · rw [if_pos c5] at H
              have c5b0 : decide (12 < (((rd_T24 l0 x7_1).f3).length : Int)) = true := decide_eq_true c5
              have c5b1 : decide (12 < ((rd_T24 l0 x7_1).f3).length) = true := decide_eq_true (by omega)
              clear c5
              obtain rfl := Option.some.inj H
              have p105 : 0 ≤ (x7_1 : Int) := of_decide_eq_true (by first | (with_reducible assumption) | assumption)
              have q105 : x7_1 < (l0.length : Int) := of_decide_eq_true (by first | (with_reducible assumption) | assumption)
              obtain ⟨ad105, A105_3, c105_3, e105, hx105_0, hx105_1, hx105_2, hx105_3, hl105_3, hi105_3⟩ := at_T24 HR0.out x7_1 p105 q105
              cases e105
              replace hx105_0 := (HB.out.cell (World.block_lt_of_cell? w _ hx105_0)).trans hx105_0
              replace hx105_1 := (HB.out.cell (World.block_lt_of_cell? w _ hx105_1)).trans hx105_1
              replace hx105_2 := (HB.out.cell (World.block_lt_of_cell? w _ hx105_2)).trans hx105_2
              replace hx105_3 := (HB.out.cell (World.block_lt_of_cell? w _ hx105_3)).trans hx105_3
              have HR105_3 := Aside0.mk hi105_3
              have HC105_3 := Aside0.mk hl105_3
              clear hi105_3 hl105_3
              replace p105 := eq_true p105
              replace q105 := eq_true q105
              go_wp2_with (first | ((with_reducible refine gate_dst (N := 4) rfl ?_); (try (refine gate_guard (by rfl) ?_; dsimp only)); refine box_event ?hg (N := 4) ?hd (cs := #[.string (⟨#[]⟩ : ByteArray), .bool false, .int .i64 0, .slice none 0 0]) (t := 24) ?hr ?_; (case hd => rfl); (case hg => rfl); (case hr => first | (go_simp; done) | (go_simp; rfl)); intro gb106 hg w6 hbox hb; have n0_ := Aside0.mk (below_step (by repeat (first | (with_reducible first | exact HB.out | apply below_alloc | apply pw_below_drewN | apply below_drew1) | exact HB.out)) hb); have n1_ := Aside0.mk (hbox); have n2_ := Aside0.mk ((by rw [hg]; exact (below_size (by repeat (first | (with_reducible first | exact HB.out | apply below_alloc | apply pw_below_drewN | apply below_drew1) | exact HB.out))) : w.heap.size ≤ gb106)); have n3_ := Aside0.mk ((by rw [hg]; exact (below_size (by repeat (first | (with_reducible first | exact HB.out | apply below_alloc | apply pw_below_drewN | apply below_drew1) | exact HB.out))) : w.heap.size ≤ gb106)); clear HB; have HB := n0_; have BK106 := n1_; have GW106 := n2_; have GE106 := n3_; clear n0_ n1_ n2_ n3_; clear hb hbox hg; have hcz7_0 : w6.cell? ⟨gb106, 0, none⟩ = some (.string (⟨#[]⟩ : ByteArray)) := (blk_cell BK106.out 0).trans rfl; have hcz7_1 : w6.cell? ⟨gb106, 1, none⟩ = some (.bool false) := (blk_cell BK106.out 1).trans rfl; have hcz7_2 : w6.cell? ⟨gb106, 2, none⟩ = some (.int .i64 0) := (blk_cell BK106.out 2).trans rfl; have hcz7_3 : w6.cell? ⟨gb106, 3, none⟩ = some (.slice none 0 0) := (blk_cell BK106.out 3).trans rfl; have hfz7_0 := blk_frozen BK106.out 0; have hfz7_1 := blk_frozen BK106.out 1; have hfz7_2 := blk_frozen BK106.out 2; have hfz7_3 := blk_frozen BK106.out 3))
              go_ret
              exact ⟨by first | rfl | (simp [errW_none, errW_some] <;> rfl) | (simp [*, errW_none, errW_some] <;> rfl), by repeat (first | (with_reducible first | exact HB.out | apply below_alloc | apply pw_below_drewN | apply below_drew1 | refine below_set ?_ GE106.out) | exact HB.out)⟩
            · rw [if_neg c5] at H
              have c5b0 : decide (12 < (((rd_T24 l0 x7_1).f3).length : Int)) = false := decide_eq_false c5
              have c5b1 : decide (12 < ((rd_T24 l0 x7_1).f3).length) = false := decide_eq_false (by omega)
              clear c5
              by_cases c8 : (((rd_T24 l0 x7_1).f0).size : Int) > 100
              · rw [if_pos c8] at H
                have c8b0 : decide (100 < (((rd_T24 l0 x7_1).f0).size : Int)) = true := decide_eq_true c8
                have c8b1 : decide (100 < ((rd_T24 l0 x7_1).f0).size) = true := decide_eq_true (by omega)
                clear c8
                obtain rfl := Option.some.inj H
                have p105 : 0 ≤ (x7_1 : Int) := of_decide_eq_true (by first | (with_reducible assumption) | assumption)
                have q105 : x7_1 < (l0.length : Int) := of_decide_eq_true (by first | (with_reducible assumption) | assumption)
                obtain ⟨ad105, A105_3, c105_3, e105, hx105_0, hx105_1, hx105_2, hx105_3, hl105_3, hi105_3⟩ := at_T24 HR0.out x7_1 p105 q105
                cases e105
                replace hx105_0 := (HB.out.cell (World.block_lt_of_cell? w _ hx105_0)).trans hx105_0
                replace hx105_1 := (HB.out.cell (World.block_lt_of_cell? w _ hx105_1)).trans hx105_1
                replace hx105_2 := (HB.out.cell (World.block_lt_of_cell? w _ hx105_2)).trans hx105_2
                replace hx105_3 := (HB.out.cell (World.block_lt_of_cell? w _ hx105_3)).trans hx105_3
                have HR105_3 := Aside0.mk hi105_3
                have HC105_3 := Aside0.mk hl105_3
                clear hi105_3 hl105_3
                replace p105 := eq_true p105
                replace q105 := eq_true q105
                go_wp2_with (first | ((with_reducible refine gate_dst (N := 4) rfl ?_); (try (refine gate_guard (by rfl) ?_; dsimp only)); refine box_event ?hg (N := 4) ?hd (cs := #[.string (⟨#[]⟩ : ByteArray), .bool false, .int .i64 0, .slice none 0 0]) (t := 24) ?hr ?_; (case hd => rfl); (case hg => rfl); (case hr => first | (go_simp; done) | (go_simp; rfl)); intro gb106 hg w9 hbox hb; have n0_ := Aside0.mk (below_step (by repeat (first | (with_reducible first | exact HB.out | apply below_alloc | apply pw_below_drewN | apply below_drew1) | exact HB.out)) hb); have n1_ := Aside0.mk (hbox); have n2_ := Aside0.mk ((by rw [hg]; exact (below_size (by repeat (first | (with_reducible first | exact HB.out | apply below_alloc | apply pw_below_drewN | apply below_drew1) | exact HB.out))) : w.heap.size ≤ gb106)); have n3_ := Aside0.mk ((by rw [hg]; exact (below_size (by repeat (first | (with_reducible first | exact HB.out | apply below_alloc | apply pw_below_drewN | apply below_drew1) | exact HB.out))) : w.heap.size ≤ gb106)); clear HB; have HB := n0_; have BK106 := n1_; have GW106 := n2_; have GE106 := n3_; clear n0_ n1_ n2_ n3_; clear hb hbox hg; have hcz10_0 : w9.cell? ⟨gb106, 0, none⟩ = some (.string (⟨#[]⟩ : ByteArray)) := (blk_cell BK106.out 0).trans rfl; have hcz10_1 : w9.cell? ⟨gb106, 1, none⟩ = some (.bool false) := (blk_cell BK106.out 1).trans rfl; have hcz10_2 : w9.cell? ⟨gb106, 2, none⟩ = some (.int .i64 0) := (blk_cell BK106.out 2).trans rfl; have hcz10_3 : w9.cell? ⟨gb106, 3, none⟩ = some (.slice none 0 0) := (blk_cell BK106.out 3).trans rfl; have hfz10_0 := blk_frozen BK106.out 0; have hfz10_1 := blk_frozen BK106.out 1; have hfz10_2 := blk_frozen BK106.out 2; have hfz10_3 := blk_frozen BK106.out 3))
                go_ret
                exact ⟨by first | rfl | (simp [errW_none, errW_some] <;> rfl) | (simp [*, errW_none, errW_some] <;> rfl), by repeat (first | (with_reducible first | exact HB.out | apply below_alloc | apply pw_below_drewN | apply below_drew1 | refine below_set ?_ GE106.out) | exact HB.out)⟩
              · rw [if_neg c8] at H
                have c8b0 : decide (100 < (((rd_T24 l0 x7_1).f0).size : Int)) = false := decide_eq_false c8
                have c8b1 : decide (100 < ((rd_T24 l0 x7_1).f0).size) = false := decide_eq_false (by omega)
                clear c8
                have H' := Aside0.mk H
                clear H
                have p105 : 0 ≤ (x7_1 : Int) := of_decide_eq_true (by first | (with_reducible assumption) | assumption)
                have q105 : x7_1 < (l0.length : Int) := of_decide_eq_true (by first | (with_reducible assumption) | assumption)
                obtain ⟨ad105, A105_3, c105_3, e105, hx105_0, hx105_1, hx105_2, hx105_3, hl105_3, hi105_3⟩ := at_T24 HR0.out x7_1 p105 q105
                cases e105
                replace hx105_0 := (HB.out.cell (World.block_lt_of_cell? w _ hx105_0)).trans hx105_0
                replace hx105_1 := (HB.out.cell (World.block_lt_of_cell? w _ hx105_1)).trans hx105_1
                replace hx105_2 := (HB.out.cell (World.block_lt_of_cell? w _ hx105_2)).trans hx105_2
                replace hx105_3 := (HB.out.cell (World.block_lt_of_cell? w _ hx105_3)).trans hx105_3
                have HR105_3 := Aside0.mk hi105_3
                have HC105_3 := Aside0.mk hl105_3
                clear hi105_3 hl105_3
                replace p105 := eq_true p105
                replace q105 := eq_true q105
                go_wp2_with (first | ((with_reducible refine gate_dst (N := 4) rfl ?_); (try (refine gate_guard (by rfl) ?_; dsimp only)); refine box_event ?hg (N := 4) ?hd (cs := #[.string (⟨#[]⟩ : ByteArray), .bool false, .int .i64 0, .slice none 0 0]) (t := 24) ?hr ?_; (case hd => rfl); (case hg => rfl); (case hr => first | (go_simp; done) | (go_simp; rfl)); intro gb106 hg w11 hbox hb; have n0_ := Aside0.mk (below_step (by repeat (first | (with_reducible first | exact HB.out | apply below_alloc | apply pw_below_drewN | apply below_drew1) | exact HB.out)) hb); have n1_ := Aside0.mk (hbox); have n2_ := Aside0.mk ((by rw [hg]; exact (below_size (by repeat (first | (with_reducible first | exact HB.out | apply below_alloc | apply pw_below_drewN | apply below_drew1) | exact HB.out))) : w.heap.size ≤ gb106)); have n3_ := Aside0.mk ((by rw [hg]; exact (below_size (by repeat (first | (with_reducible first | exact HB.out | apply below_alloc | apply pw_below_drewN | apply below_drew1) | exact HB.out))) : w.heap.size ≤ gb106)); clear HB; have HB := n0_; have BK106 := n1_; have GW106 := n2_; have GE106 := n3_; clear n0_ n1_ n2_ n3_; clear hb hbox hg; have hcz12_0 : w11.cell? ⟨gb106, 0, none⟩ = some (.string (⟨#[]⟩ : ByteArray)) := (blk_cell BK106.out 0).trans rfl; have hcz12_1 : w11.cell? ⟨gb106, 1, none⟩ = some (.bool false) := (blk_cell BK106.out 1).trans rfl; have hcz12_2 : w11.cell? ⟨gb106, 2, none⟩ = some (.int .i64 0) := (blk_cell BK106.out 2).trans rfl; have hcz12_3 : w11.cell? ⟨gb106, 3, none⟩ = some (.slice none 0 0) := (blk_cell BK106.out 3).trans rfl; have hfz12_0 := blk_frozen BK106.out 0; have hfz12_1 := blk_frozen BK106.out 1; have hfz12_2 := blk_frozen BK106.out 2; have hfz12_3 := blk_frozen BK106.out 3))
                go_roundg k1
                case measure => have := HK1.out; omega
                case rel => exact ⟨(wrap64 (x7_1 + 1)), (by first | rfl | (simp; done) | (simp [*]; done)), H', ⟨by have := HK1.out; omega⟩, ⟨by repeat (first | (with_reducible first | exact HB.out | apply below_alloc | apply pw_below_drewN | apply below_drew1 | refine below_set ?_ GE106.out) | exact HB.out)⟩⟩
          · rw [if_neg c4] at H
            exact absurd H (by simp)
        · rw [if_neg c3] at H
          exact absurd H (by simp)
      · rw [if_neg c2] at H
        have c2b0 : decide (x7_1 < (l0.length : Int)) = false := decide_eq_false c2
        clear c2
        obtain rfl := Option.some.inj H
        go_wp2
        go_ret
        exact ⟨by first | rfl | (simp [errW_none, errW_some] <;> rfl) | (simp [*, errW_none, errW_some] <;> rfl), by repeat (first | (with_reducible first | exact HB.out | apply below_alloc | apply pw_below_drewN | apply below_drew1) | exact HB.out)⟩
def names_may.f (a0 : Int) : Option (Bool) := if a0 ≥ 1 then (some (decide (a0 ≤ 16))) else (some false)
set_option maxHeartbeats 8000000 in
set_option maxRecDepth 100000 in
theorem names_may.calls (a0 : Int) (r : Bool) (w : World) (h : names_may.f a0 = some r) :
    Calls Try.prog 31 #[.int .i64 a0] w fun e w' => e = .returned (.bool r) ∧ Drawn0 w w' := by
  have H : (if a0 ≥ 1 then (some (decide (a0 ≤ 16))) else (some false)) = some r := h
  clear h
  by_cases c2 : a0 ≥ 1
  · rw [if_pos c2] at H
    have c2b0 : decide (1 ≤ a0) = true := decide_eq_true c2
    clear c2
    obtain rfl := Option.some.inj H
    go_enter Try.func31, Try.ntmps31
    go_wp2
    go_ret
    exact ⟨by first | rfl | (simp; done) | (simp [*]; done), by repeat (first | exact Drawn0.refl _ | apply Drawn0.step)⟩
  · rw [if_neg c2] at H
    have c2b0 : decide (1 ≤ a0) = false := decide_eq_false c2
    clear c2
    obtain rfl := Option.some.inj H
    go_enter Try.func31, Try.ntmps31
    go_wp2
    go_ret
    exact ⟨by first | rfl | (simp; done) | (simp [*]; done), by repeat (first | exact Drawn0.refl _ | apply Drawn0.step)⟩
mutual
def names_Check.l0 : Nat → List (S39) → Int → Int → ByteArray → Bool → Int → List (S39) → Option (Int)
  | 0, _, _, _, _, _, _, _ => none
  | k + 1, x24, x25, x26, x108000, x108001, x108002, x108003 => if x26 < x25 then (if 0 ≤ x26 then (if x26 < (x24.length : Int) then ((toxic_Check.f ((rd_T39 x24 x26).f0) ((rd_T39 x24 x26).f1) ((rd_T39 x24 x26).f2) ((rd_T39 x24 x26).f3) ((rd_T39 x24 x26).f4) ((rd_T39 x24 x26).f5)).bind fun t112 => (if t112 = 0 then (names_Check.l0 k x24 x25 (wrap64 (x26 + 1)) x108000 x108001 x108002 x108003) else (some t112))) else (none)) else (none)) else (names_Check.l1 k x108003 (x108003.length : Int) 0 x108000 x108001 x108002 x108003)
def names_Check.l1 : Nat → List (S39) → Int → Int → ByteArray → Bool → Int → List (S39) → Option (Int)
  | 0, _, _, _, _, _, _, _ => none
  | k + 1, x37, x38, x39, x108000, x108001, x108002, x108003 => if x39 < x38 then (if 0 ≤ x39 then (if x39 < (x37.length : Int) then ((names_at_api_Toxic.f x108003 ((rd_T39 x37 x39).f0)).bind fun t115 => (if t115 = x39 then (names_Check.l1 k x37 x38 (wrap64 (x39 + 1)) x108000 x108001 x108002 x108003) else (some 141))) else (none)) else (none)) else (some 0)
end
def names_Check.f (k : Nat) (a0_0 : ByteArray) (a0_1 : Bool) (a0_2 : Int) (l0_3 : List (S39)) : Option (Int) := (toxic_Name.f a0_0).bind fun t108 => (if t108 = true then ((names_may.f a0_2).bind fun t109 => (if t109 = true then (if (l0_3.length : Int) > 8 then (some 143) else (names_Check.l0 k l0_3 (l0_3.length : Int) 0 a0_0 a0_1 a0_2 l0_3)) else (some 144))) else (some 140))
theorem names_Check.mono_l : ∀ k, (∀ y0 y1 y2 y3 y4 y5 y6, LeO (names_Check.l0 k y0 y1 y2 y3 y4 y5 y6) (names_Check.l0 (k + 1) y0 y1 y2 y3 y4 y5 y6)) ∧ (∀ y0 y1 y2 y3 y4 y5 y6, LeO (names_Check.l1 k y0 y1 y2 y3 y4 y5 y6) (names_Check.l1 (k + 1) y0 y1 y2 y3 y4 y5 y6))
  | 0 => ⟨fun _ _ _ _ _ _ _ r h => by simp [names_Check.l0] at h, fun _ _ _ _ _ _ _ r h => by simp [names_Check.l1] at h⟩
  | k + 1 => by
    obtain ⟨ih0, ih1⟩ := names_Check.mono_l k
    refine ⟨?_, ?_⟩
    · intro y0 y1 y2 y3 y4 y5 y6
      unfold names_Check.l0
      repeat' first
      | (with_reducible exact ih0 _ _ _ _ _ _ _)
      | (with_reducible exact ih1 _ _ _ _ _ _ _)
      | (with_reducible exact LeO.refl _)
      | (with_reducible exact LeO.none _)
      | (with_reducible refine LeO.ite ?_ ?_)
      | (with_reducible refine LeO.bind ?_ (fun _ => ?_))
      | exact ih0 _ _ _ _ _ _ _
      | exact ih1 _ _ _ _ _ _ _
      | exact LeO.none _
      | refine LeO.ite ?_ ?_
      | refine LeO.bind ?_ (fun _ => ?_)
    · intro y0 y1 y2 y3 y4 y5 y6
      unfold names_Check.l1
      repeat' first
      | (with_reducible exact ih0 _ _ _ _ _ _ _)
      | (with_reducible exact ih1 _ _ _ _ _ _ _)
      | (with_reducible exact LeO.refl _)
      | (with_reducible exact LeO.none _)
      | (with_reducible refine LeO.ite ?_ ?_)
      | (with_reducible refine LeO.bind ?_ (fun _ => ?_))
      | exact ih0 _ _ _ _ _ _ _
      | exact ih1 _ _ _ _ _ _ _
      | exact LeO.none _
      | refine LeO.ite ?_ ?_
      | refine LeO.bind ?_ (fun _ => ?_)
theorem names_Check.mono : ∀ a0 a1 a2 a3 k, LeO (names_Check.f k a0 a1 a2 a3) (names_Check.f (k + 1) a0 a1 a2 a3) := by
  intro a0 a1 a2 a3 k
  obtain ⟨ih0, ih1⟩ := names_Check.mono_l k
  unfold names_Check.f
  repeat' first
      | (with_reducible exact ih0 _ _ _ _ _ _ _)
      | (with_reducible exact ih1 _ _ _ _ _ _ _)
      | (with_reducible exact LeO.refl _)
      | (with_reducible exact LeO.none _)
      | (with_reducible refine LeO.ite ?_ ?_)
      | (with_reducible refine LeO.bind ?_ (fun _ => ?_))
      | exact ih0 _ _ _ _ _ _ _
      | exact ih1 _ _ _ _ _ _ _
      | exact LeO.none _
      | refine LeO.ite ?_ ?_
      | refine LeO.bind ?_ (fun _ => ?_)
set_option maxHeartbeats 8000000 in
set_option maxRecDepth 100000 in
theorem names_Check.calls (k : Nat) (a0_0 : ByteArray) (a0_1 : Bool) (a0_2 : Int) (A0_3 : Option Addr) (c0_3 : Nat) (l0_3 : List (S39)) (r : Int) (w : World) (hr0_3 : Kd.C k39 w A0_3 l0_3.length l0_3) (hc0_3 : l0_3.length ≤ c0_3) (h : names_Check.f k a0_0 a0_1 a0_2 l0_3 = some r) :
    Calls Try.prog 11 #[.agg #[.string a0_0, .bool a0_1, .int .i64 a0_2, .slice A0_3 l0_3.length c0_3]] w fun e w' => e = .returned (.int .i64 r) ∧ Below w.heap.size w w' := by
  have hu24 := Try.underlying24
  have hu39 := Try.underlying39
  have HR0_3 := Aside0.mk hr0_3
  have HC0_3 := Aside0.mk hc0_3
  clear hr0_3 hc0_3
  have HB := Aside0.mk (Below.refl w.heap.size w)
  have H : ((toxic_Name.f a0_0).bind fun t108 => (if t108 = true then ((names_may.f a0_2).bind fun t109 => (if t109 = true then (if (l0_3.length : Int) > 8 then (some 143) else (names_Check.l0 k l0_3 (l0_3.length : Int) 0 a0_0 a0_1 a0_2 l0_3)) else (some 144))) else (some 140))) = some r := h
  clear h
  replace H := Option.bind_eq_some_iff.mp H
  obtain ⟨t108, A20, H⟩ := H
  replace H : (if t108 = true then ((names_may.f a0_2).bind fun t109 => (if t109 = true then (if (l0_3.length : Int) > 8 then (some 143) else (names_Check.l0 k l0_3 (l0_3.length : Int) 0 a0_0 a0_1 a0_2 l0_3)) else (some 144))) else (some 140)) = some r := H
  have A2 := Aside0.mk A20
  clear A20
  by_cases c3 : t108 = true
  · subst c3
    have H1 : ((names_may.f a0_2).bind fun t109 => (if t109 = true then (if (l0_3.length : Int) > 8 then (some 143) else (names_Check.l0 k l0_3 (l0_3.length : Int) 0 a0_0 a0_1 a0_2 l0_3)) else (some 144))) = some r := by rw [if_pos rfl] at H; exact H
    clear H
    have H := H1
    clear H1
    replace H := Option.bind_eq_some_iff.mp H
    obtain ⟨t109, A40, H⟩ := H
    replace H : (if t109 = true then (if (l0_3.length : Int) > 8 then (some 143) else (names_Check.l0 k l0_3 (l0_3.length : Int) 0 a0_0 a0_1 a0_2 l0_3)) else (some 144)) = some r := H
    have A4 := Aside0.mk A40
    clear A40
    by_cases c5 : t109 = true
    · subst c5
      have H1 : (if (l0_3.length : Int) > 8 then (some 143) else (names_Check.l0 k l0_3 (l0_3.length : Int) 0 a0_0 a0_1 a0_2 l0_3)) = some r := by rw [if_pos rfl] at H; exact H
      clear H
      have H := H1
      clear H1
      by_cases c6 : (l0_3.length : Int) > 8
      · rw [if_pos c6] at H
        have c6b0 : decide (8 < (l0_3.length : Int)) = true := decide_eq_true c6
        have c6b1 : decide (8 < l0_3.length) = true := decide_eq_true (by omega)
        clear c6
        obtain rfl := Option.some.inj H
        go_enter Try.func11, Try.ntmps11
        go_wp2_with (first | ((with_reducible refine gate_dst (N := 1) rfl ?_); refine box_event ?hg (N := 1) ?hd (cs := #[.string a0_0, .bool a0_1, .int .i64 a0_2, .slice A0_3 l0_3.length c0_3]) (t := 24) ?hr ?_; (case hd => rfl); (case hg => rfl); (case hr => first | (go_simp; done) | (go_simp; rfl)); intro gb107 hg w7 hbox hb; have n0_ := Aside0.mk (below_step (by repeat (first | (with_reducible first | exact HB.out | apply below_alloc | apply pw_below_drewN | apply below_drew1) | exact HB.out)) hb); have n1_ := Aside0.mk (hbox); have n2_ := Aside0.mk ((by rw [hg]; exact (below_size (by repeat (first | (with_reducible first | exact HB.out | apply below_alloc | apply pw_below_drewN | apply below_drew1) | exact HB.out))) : w.heap.size ≤ gb107)); have n3_ := Aside0.mk ((by rw [hg]; exact (below_size (by repeat (first | (with_reducible first | exact HB.out | apply below_alloc | apply pw_below_drewN | apply below_drew1) | exact HB.out))) : w.heap.size ≤ gb107)); clear HB; have HB := n0_; have BK107 := n1_; have GW107 := n2_; have GE107 := n3_; clear n0_ n1_ n2_ n3_; clear hb hbox hg; have hcz8_0 : w7.cell? ⟨gb107, 0, none⟩ = some (.string a0_0) := (blk_cell BK107.out 0).trans rfl; have hcz8_1 : w7.cell? ⟨gb107, 1, none⟩ = some (.bool a0_1) := (blk_cell BK107.out 1).trans rfl; have hcz8_2 : w7.cell? ⟨gb107, 2, none⟩ = some (.int .i64 a0_2) := (blk_cell BK107.out 2).trans rfl; have hcz8_3 : w7.cell? ⟨gb107, 3, none⟩ = some (.slice A0_3 l0_3.length c0_3) := (blk_cell BK107.out 3).trans rfl; have hfz8_0 := blk_frozen BK107.out 0; have hfz8_1 := blk_frozen BK107.out 1; have hfz8_2 := blk_frozen BK107.out 2; have hfz8_3 := blk_frozen BK107.out 3) | ((with_reducible refine gate_callee (f := 30) rfl ?_); refine goesL_ (some 11) rfl rfl Try.func30 (by kernel_rfl) rfl #[.string a0_0] rfl (by (try simp only [List.map_toArray, List.map_cons, List.map_nil]); first | done | rfl | (simp only [List.length_drop, List.length_take]; rfl)) ?_; (with_reducible refine (toxic_Name.calls a0_0 true _ A2.out).mono ?_); rintro e w9 ⟨rfl, hb⟩; refine ⟨_, rfl, ?_⟩; have n0_ := Aside0.mk (blk_below (g := gb107) (o := .cells #[.string a0_0, .bool a0_1, .int .i64 a0_2, .slice A0_3 l0_3.length c0_3] 24 (0, 0)) (by (with_reducible repeat (first | refine blk_drewN ?_ _ | refine blk_drew ?_ | refine blk_alloc ?_ _)); exact BK107.out) hb); have n1_ := Aside0.mk (below_step (by repeat (first | (with_reducible first | exact HB.out | apply below_alloc | apply pw_below_drewN | apply below_drew1 | refine below_set ?_ GE107.out) | exact HB.out)) hb); clear BK107; clear HB; have BK107 := n0_; have HB := n1_; clear n0_ n1_; (try clear hb); (try clear hb2); (try clear hk); (try clear hi); have hcz10_0 : w9.cell? ⟨gb107, 0, none⟩ = some (.string a0_0) := (blk_cell BK107.out 0).trans rfl; have hcz10_1 : w9.cell? ⟨gb107, 1, none⟩ = some (.bool a0_1) := (blk_cell BK107.out 1).trans rfl; have hcz10_2 : w9.cell? ⟨gb107, 2, none⟩ = some (.int .i64 a0_2) := (blk_cell BK107.out 2).trans rfl; have hcz10_3 : w9.cell? ⟨gb107, 3, none⟩ = some (.slice A0_3 l0_3.length c0_3) := (blk_cell BK107.out 3).trans rfl; have hfz10_0 := blk_frozen BK107.out 0; have hfz10_1 := blk_frozen BK107.out 1; have hfz10_2 := blk_frozen BK107.out 2; have hfz10_3 := blk_frozen BK107.out 3) | ((with_reducible refine gate_callee (f := 31) rfl ?_); refine goesL_ (some 16) rfl rfl Try.func31 (by kernel_rfl) rfl #[.int .i64 a0_2] rfl (by (try simp only [List.map_toArray, List.map_cons, List.map_nil]); first | done | rfl | (simp only [List.length_drop, List.length_take]; rfl)) ?_; (with_reducible refine (names_may.calls a0_2 true _ A4.out).mono ?_); rintro e w' ⟨rfl, ⟨nd, rfl⟩⟩; refine ⟨_, rfl, ?_⟩))
        go_ret
        exact ⟨by first | rfl | (simp [errW_none, errW_some] <;> rfl) | (simp [*, errW_none, errW_some] <;> rfl), by repeat (first | (with_reducible first | exact HB.out | apply below_alloc | apply pw_below_drewN | apply below_drew1 | refine below_set ?_ GE107.out) | exact HB.out)⟩
      · rw [if_neg c6] at H
        have c6b0 : decide (8 < (l0_3.length : Int)) = false := decide_eq_false c6
        have c6b1 : decide (8 < l0_3.length) = false := decide_eq_false (by omega)
        clear c6
        have H' := Aside0.mk H
        clear H
        go_enter Try.func11, Try.ntmps11
        go_wp2_with (first | ((with_reducible refine gate_dst (N := 1) rfl ?_); refine box_event ?hg (N := 1) ?hd (cs := #[.string a0_0, .bool a0_1, .int .i64 a0_2, .slice A0_3 l0_3.length c0_3]) (t := 24) ?hr ?_; (case hd => rfl); (case hg => rfl); (case hr => first | (go_simp; done) | (go_simp; rfl)); intro gb107 hg w11 hbox hb; have n0_ := Aside0.mk (below_step (by repeat (first | (with_reducible first | exact HB.out | apply below_alloc | apply pw_below_drewN | apply below_drew1) | exact HB.out)) hb); have n1_ := Aside0.mk (hbox); have n2_ := Aside0.mk ((by rw [hg]; exact (below_size (by repeat (first | (with_reducible first | exact HB.out | apply below_alloc | apply pw_below_drewN | apply below_drew1) | exact HB.out))) : w.heap.size ≤ gb107)); have n3_ := Aside0.mk ((by rw [hg]; exact (below_size (by repeat (first | (with_reducible first | exact HB.out | apply below_alloc | apply pw_below_drewN | apply below_drew1) | exact HB.out))) : w.heap.size ≤ gb107)); clear HB; have HB := n0_; have BK107 := n1_; have GW107 := n2_; have GE107 := n3_; clear n0_ n1_ n2_ n3_; clear hb hbox hg; have hcz12_0 : w11.cell? ⟨gb107, 0, none⟩ = some (.string a0_0) := (blk_cell BK107.out 0).trans rfl; have hcz12_1 : w11.cell? ⟨gb107, 1, none⟩ = some (.bool a0_1) := (blk_cell BK107.out 1).trans rfl; have hcz12_2 : w11.cell? ⟨gb107, 2, none⟩ = some (.int .i64 a0_2) := (blk_cell BK107.out 2).trans rfl; have hcz12_3 : w11.cell? ⟨gb107, 3, none⟩ = some (.slice A0_3 l0_3.length c0_3) := (blk_cell BK107.out 3).trans rfl; have hfz12_0 := blk_frozen BK107.out 0; have hfz12_1 := blk_frozen BK107.out 1; have hfz12_2 := blk_frozen BK107.out 2; have hfz12_3 := blk_frozen BK107.out 3) | ((with_reducible refine gate_callee (f := 30) rfl ?_); refine goesL_ (some 11) rfl rfl Try.func30 (by kernel_rfl) rfl #[.string a0_0] rfl (by (try simp only [List.map_toArray, List.map_cons, List.map_nil]); first | done | rfl | (simp only [List.length_drop, List.length_take]; rfl)) ?_; (with_reducible refine (toxic_Name.calls a0_0 true _ A2.out).mono ?_); rintro e w13 ⟨rfl, hb⟩; refine ⟨_, rfl, ?_⟩; have n0_ := Aside0.mk (blk_below (g := gb107) (o := .cells #[.string a0_0, .bool a0_1, .int .i64 a0_2, .slice A0_3 l0_3.length c0_3] 24 (0, 0)) (by (with_reducible repeat (first | refine blk_drewN ?_ _ | refine blk_drew ?_ | refine blk_alloc ?_ _)); exact BK107.out) hb); have n1_ := Aside0.mk (below_step (by repeat (first | (with_reducible first | exact HB.out | apply below_alloc | apply pw_below_drewN | apply below_drew1 | refine below_set ?_ GE107.out) | exact HB.out)) hb); clear BK107; clear HB; have BK107 := n0_; have HB := n1_; clear n0_ n1_; (try clear hb); (try clear hb2); (try clear hk); (try clear hi); have hcz14_0 : w13.cell? ⟨gb107, 0, none⟩ = some (.string a0_0) := (blk_cell BK107.out 0).trans rfl; have hcz14_1 : w13.cell? ⟨gb107, 1, none⟩ = some (.bool a0_1) := (blk_cell BK107.out 1).trans rfl; have hcz14_2 : w13.cell? ⟨gb107, 2, none⟩ = some (.int .i64 a0_2) := (blk_cell BK107.out 2).trans rfl; have hcz14_3 : w13.cell? ⟨gb107, 3, none⟩ = some (.slice A0_3 l0_3.length c0_3) := (blk_cell BK107.out 3).trans rfl; have hfz14_0 := blk_frozen BK107.out 0; have hfz14_1 := blk_frozen BK107.out 1; have hfz14_2 := blk_frozen BK107.out 2; have hfz14_3 := blk_frozen BK107.out 3) | ((with_reducible refine gate_callee (f := 31) rfl ?_); refine goesL_ (some 16) rfl rfl Try.func31 (by kernel_rfl) rfl #[.int .i64 a0_2] rfl (by (try simp only [List.map_toArray, List.map_cons, List.map_nil]); first | done | rfl | (simp only [List.length_drop, List.length_take]; rfl)) ?_; (with_reducible refine (names_may.calls a0_2 true _ A4.out).mono ?_); rintro e w' ⟨rfl, ⟨nd, rfl⟩⟩; refine ⟨_, rfl, ?_⟩))
        go_loopg [26] k (fun kq v26 w' => ∃ (x26_1 : Int), v26 = .int .i64 x26_1 ∧ Aside0 (names_Check.l0 kq l0_3 (l0_3.length : Int) x26_1 a0_0 a0_1 a0_2 l0_3 = some r) ∧ Aside0 (kq ≤ k) ∧ Aside0 (w'.heap[gb107]? = some (.cells #[.string a0_0, .bool a0_1, .int .i64 a0_2, (.slice A0_3 l0_3.length c0_3)] 24 (0, 0))) ∧ Aside0 (Below w.heap.size w w'))
        case atStart => exact ⟨(0), (by first | rfl | (simp; done) | (simp [*]; done)), H', ⟨Nat.le_refl _⟩, ⟨by (with_reducible repeat (first | refine blk_drewN ?_ _ | refine blk_drew ?_ | refine blk_alloc ?_ _)); exact BK107.out⟩, ⟨by repeat (first | (with_reducible first | exact HB.out | apply below_alloc | apply pw_below_drewN | apply below_drew1 | refine below_set ?_ GE107.out) | exact HB.out)⟩⟩
        case round =>
          clear H'
          try clear c1
          try clear p2
          try clear c3
          try clear c5
          try clear c6
          try clear c6b0
          try clear c6b1
          try clear c11
          try clear hcz10_0
          try clear hcz10_1
          try clear hcz10_2
          try clear hcz10_3
          try clear hcz12_0
          try clear hcz12_1
          try clear hcz12_2
          try clear hcz12_3
          try clear hcz14_0
          try clear hcz14_1
          try clear hcz14_2
          try clear hcz14_3
          try clear hcz8_0
          try clear hcz8_1
          try clear hcz8_2
          try clear hcz8_3
          try clear hfz10_0
          try clear hfz10_1
          try clear hfz10_2
          try clear hfz10_3
          try clear hfz12_0
          try clear hfz12_1
          try clear hfz12_2
          try clear hfz12_3
          try clear hfz14_0
          try clear hfz14_1
          try clear hfz14_2
          try clear hfz14_3
          try clear hfz8_0
          try clear hfz8_1
          try clear hfz8_2
          try clear hfz8_3
          obtain ⟨x26_1, rfl, HA, HK1, BK107, HB⟩ := hrel
          cases gk with
          | zero => exact absurd HA.out (by simp [names_Check.l0])
          | succ k1 =>
            have H := HA.out
            clear HA
            simp only [names_Check.l0] at H
            by_cases c15 : x26_1 < (l0_3.length : Int)
            · rw [if_pos c15] at H
              have c15b0 : decide (x26_1 < (l0_3.length : Int)) = true := decide_eq_true c15
              clear c15
              by_cases c16 : 0 ≤ x26_1
              · rw [if_pos c16] at H
                have c16b0 : decide (0 ≤ x26_1) = true := decide_eq_true c16
                clear c16
                by_cases c17 : x26_1 < (l0_3.length : Int)
                · rw [if_pos c17] at H
                  have c17b0 : decide (x26_1 < (l0_3.length : Int)) = true := decide_eq_true c17
                  clear c17
                  replace H := Option.bind_eq_some_iff.mp H
                  obtain ⟨t112, A180, H⟩ := H
                  replace H : (if t112 = 0 then (names_Check.l0 k1 l0_3 (l0_3.length : Int) (wrap64 (x26_1 + 1)) a0_0 a0_1 a0_2 l0_3) else (some t112)) = some r := H
                  have A18 := Aside0.mk A180
                  clear A180
                  by_cases c19 : t112 = 0
                  · rw [if_pos c19] at H
                    have c19b0 : (t112 == 0) = true := beq_iff_eq.mpr c19
                    have c19b1 : (t112 != 0) = false := bne_eq_false_iff_eq.mpr c19
                    clear c19
                    have H' := Aside0.mk H
                    clear H
                    have p110 : 0 ≤ (x26_1 : Int) := of_decide_eq_true (by first | (with_reducible assumption) | assumption)
                    have q110 : x26_1 < (l0_3.length : Int) := of_decide_eq_true (by first | (with_reducible assumption) | assumption)
                    obtain ⟨ad110, e110, hx110_0, hx110_1, hx110_2, hx110_3, hx110_4, hx110_5⟩ := at_T39 HR0_3.out x26_1 p110 q110
                    cases e110
                    replace hx110_0 := (HB.out.cell (World.block_lt_of_cell? w _ hx110_0)).trans hx110_0
                    replace hx110_1 := (HB.out.cell (World.block_lt_of_cell? w _ hx110_1)).trans hx110_1
                    replace hx110_2 := (HB.out.cell (World.block_lt_of_cell? w _ hx110_2)).trans hx110_2
                    replace hx110_3 := (HB.out.cell (World.block_lt_of_cell? w _ hx110_3)).trans hx110_3
                    replace hx110_4 := (HB.out.cell (World.block_lt_of_cell? w _ hx110_4)).trans hx110_4
                    replace hx110_5 := (HB.out.cell (World.block_lt_of_cell? w _ hx110_5)).trans hx110_5
                    replace p110 := eq_true p110
                    replace q110 := eq_true q110
                    go_wp2_with (first | ((with_reducible refine gate_dst (N := 4) rfl ?_); refine box_event ?hg (N := 4) ?hd (cs := #[.string (⟨#[]⟩ : ByteArray), .int .i64 0, .bool false, .int .i64 0, .int .i64 0, .int .i64 0]) (t := 39) ?hr ?_; (case hd => rfl); (case hg => rfl); (case hr => first | (go_simp; done) | (go_simp; rfl)); intro gb111 hg w20 hbox hb; have n0_ := Aside0.mk (blk_below (g := gb107) (o := .cells #[.string a0_0, .bool a0_1, .int .i64 a0_2, .slice (some ad110) l0_3.length c0_3] 24 (0, 0)) (by (with_reducible repeat (first | refine blk_drewN ?_ _ | refine blk_drew ?_ | refine blk_alloc ?_ _)); exact BK107.out) hb); have n1_ := Aside0.mk (below_step (by repeat (first | (with_reducible first | exact HB.out | apply below_alloc | apply pw_below_drewN | apply below_drew1 | refine below_set ?_ GE107.out) | exact HB.out)) hb); have n2_ := Aside0.mk (hbox); have n3_ := Aside0.mk ((by rw [hg]; exact (below_size (by repeat (first | (with_reducible first | exact HB.out | apply below_alloc | apply pw_below_drewN | apply below_drew1 | refine below_set ?_ GE107.out) | exact HB.out))) : w.heap.size ≤ gb111)); have n4_ := Aside0.mk ((by rw [hg]; exact (below_size (by repeat (first | (with_reducible first | exact HB.out | apply below_alloc | apply pw_below_drewN | apply below_drew1 | refine below_set ?_ GE107.out) | exact HB.out))) : w.heap.size ≤ gb111)); have n5_ := Aside0.mk ((by rw [hg]; exact Nat.ne_of_lt (blk_lt (g := gb107) (o := .cells #[.string a0_0, .bool a0_1, .int .i64 a0_2, .slice (some ad110) l0_3.length c0_3] 24 (0, 0)) (by (with_reducible repeat (first | refine blk_drewN ?_ _ | refine blk_drew ?_ | refine blk_alloc ?_ _)); exact BK107.out)) : gb107 ≠ gb111)); have n6_ := Aside0.mk ((by rw [hg]; exact Nat.ne_of_gt (blk_lt (g := gb107) (o := .cells #[.string a0_0, .bool a0_1, .int .i64 a0_2, .slice (some ad110) l0_3.length c0_3] 24 (0, 0)) (by (with_reducible repeat (first | refine blk_drewN ?_ _ | refine blk_drew ?_ | refine blk_alloc ?_ _)); exact BK107.out)) : gb111 ≠ gb107)); clear BK107; clear HB; have BK107 := n0_; have HB := n1_; have BK111 := n2_; have GW111 := n3_; have GE111 := n4_; have NB107_111 := n5_; have NB111_107 := n6_; clear n0_ n1_ n2_ n3_ n4_ n5_ n6_; clear hb hbox hg; have hnb21 := NB111_107.out; have hnc21 := NB107_111.out; have hcz22_0 : w20.cell? ⟨gb111, 0, none⟩ = some (.string (⟨#[]⟩ : ByteArray)) := (blk_cell BK111.out 0).trans rfl; have hcz22_1 : w20.cell? ⟨gb111, 1, none⟩ = some (.int .i64 0) := (blk_cell BK111.out 1).trans rfl; have hcz22_2 : w20.cell? ⟨gb111, 2, none⟩ = some (.bool false) := (blk_cell BK111.out 2).trans rfl; have hcz22_3 : w20.cell? ⟨gb111, 3, none⟩ = some (.int .i64 0) := (blk_cell BK111.out 3).trans rfl; have hcz22_4 : w20.cell? ⟨gb111, 4, none⟩ = some (.int .i64 0) := (blk_cell BK111.out 4).trans rfl; have hcz22_5 : w20.cell? ⟨gb111, 5, none⟩ = some (.int .i64 0) := (blk_cell BK111.out 5).trans rfl; have hfz22_0 := blk_frozen BK111.out 0; have hfz22_1 := blk_frozen BK111.out 1; have hfz22_2 := blk_frozen BK111.out 2; have hfz22_3 := blk_frozen BK111.out 3; have hfz22_4 := blk_frozen BK111.out 4; have hfz22_5 := blk_frozen BK111.out 5) | ((with_reducible refine gate_callee (f := 32) rfl ?_); refine goesL_ (some 31) rfl rfl Try.func32 (by kernel_rfl) rfl #[.agg #[.string ((rd_T39 l0_3 x26_1).f0), .int .i64 ((rd_T39 l0_3 x26_1).f1), .bool ((rd_T39 l0_3 x26_1).f2), .int .i64 ((rd_T39 l0_3 x26_1).f3), .int .i64 ((rd_T39 l0_3 x26_1).f4), .int .i64 ((rd_T39 l0_3 x26_1).f5)]] rfl (by (try simp only [List.map_toArray, List.map_cons, List.map_nil]); first | done | rfl | (simp only [List.length_drop, List.length_take]; rfl)) ?_; (with_reducible refine (toxic_Check.calls ((rd_T39 l0_3 x26_1).f0) ((rd_T39 l0_3 x26_1).f1) ((rd_T39 l0_3 x26_1).f2) ((rd_T39 l0_3 x26_1).f3) ((rd_T39 l0_3 x26_1).f4) ((rd_T39 l0_3 x26_1).f5) t112 _ A18.out).mono ?_); rintro e w23 ⟨rfl, hb⟩; refine ⟨_, rfl, ?_⟩; have n0_ := Aside0.mk (blk_below (g := gb107) (o := .cells #[.string a0_0, .bool a0_1, .int .i64 a0_2, .slice (some ad110) l0_3.length c0_3] 24 (0, 0)) (by (with_reducible repeat (first | refine blk_drewN ?_ _ | refine blk_drew ?_ | refine blk_alloc ?_ _)); refine blk_far ?_ NB107_111.out _; (with_reducible repeat (first | refine blk_drewN ?_ _ | refine blk_drew ?_ | refine blk_alloc ?_ _)); refine blk_far ?_ NB107_111.out _; (with_reducible repeat (first | refine blk_drewN ?_ _ | refine blk_drew ?_ | refine blk_alloc ?_ _)); refine blk_far ?_ NB107_111.out _; (with_reducible repeat (first | refine blk_drewN ?_ _ | refine blk_drew ?_ | refine blk_alloc ?_ _)); refine blk_far ?_ NB107_111.out _; (with_reducible repeat (first | refine blk_drewN ?_ _ | refine blk_drew ?_ | refine blk_alloc ?_ _)); refine blk_far ?_ NB107_111.out _; (with_reducible repeat (first | refine blk_drewN ?_ _ | refine blk_drew ?_ | refine blk_alloc ?_ _)); refine blk_far ?_ NB107_111.out _; (with_reducible repeat (first | refine blk_drewN ?_ _ | refine blk_drew ?_ | refine blk_alloc ?_ _)); exact BK107.out) hb); have n1_ := Aside0.mk (blk_below (g := gb111) (o := .cells #[.string ((rd_T39 l0_3 x26_1).f0), .int .i64 ((rd_T39 l0_3 x26_1).f1), .bool ((rd_T39 l0_3 x26_1).f2), .int .i64 ((rd_T39 l0_3 x26_1).f3), .int .i64 ((rd_T39 l0_3 x26_1).f4), .int .i64 ((rd_T39 l0_3 x26_1).f5)] 39 (0, 0)) (by (with_reducible repeat (first | refine blk_drewN ?_ _ | refine blk_drew ?_ | refine blk_alloc ?_ _)); refine blk_put (cs := #[.string ((rd_T39 l0_3 x26_1).f0), .int .i64 ((rd_T39 l0_3 x26_1).f1), .bool ((rd_T39 l0_3 x26_1).f2), .int .i64 ((rd_T39 l0_3 x26_1).f3), .int .i64 ((rd_T39 l0_3 x26_1).f4), .int .i64 0]) ?_ 5 _ rfl; (with_reducible repeat (first | refine blk_drewN ?_ _ | refine blk_drew ?_ | refine blk_alloc ?_ _)); refine blk_put (cs := #[.string ((rd_T39 l0_3 x26_1).f0), .int .i64 ((rd_T39 l0_3 x26_1).f1), .bool ((rd_T39 l0_3 x26_1).f2), .int .i64 ((rd_T39 l0_3 x26_1).f3), .int .i64 0, .int .i64 0]) ?_ 4 _ rfl; (with_reducible repeat (first | refine blk_drewN ?_ _ | refine blk_drew ?_ | refine blk_alloc ?_ _)); refine blk_put (cs := #[.string ((rd_T39 l0_3 x26_1).f0), .int .i64 ((rd_T39 l0_3 x26_1).f1), .bool ((rd_T39 l0_3 x26_1).f2), .int .i64 0, .int .i64 0, .int .i64 0]) ?_ 3 _ rfl; (with_reducible repeat (first | refine blk_drewN ?_ _ | refine blk_drew ?_ | refine blk_alloc ?_ _)); refine blk_put (cs := #[.string ((rd_T39 l0_3 x26_1).f0), .int .i64 ((rd_T39 l0_3 x26_1).f1), .bool false, .int .i64 0, .int .i64 0, .int .i64 0]) ?_ 2 _ rfl; (with_reducible repeat (first | refine blk_drewN ?_ _ | refine blk_drew ?_ | refine blk_alloc ?_ _)); refine blk_put (cs := #[.string ((rd_T39 l0_3 x26_1).f0), .int .i64 0, .bool false, .int .i64 0, .int .i64 0, .int .i64 0]) ?_ 1 _ rfl; (with_reducible repeat (first | refine blk_drewN ?_ _ | refine blk_drew ?_ | refine blk_alloc ?_ _)); refine blk_put (cs := #[.string (⟨#[]⟩ : ByteArray), .int .i64 0, .bool false, .int .i64 0, .int .i64 0, .int .i64 0]) ?_ 0 _ rfl; (with_reducible repeat (first | refine blk_drewN ?_ _ | refine blk_drew ?_ | refine blk_alloc ?_ _)); exact BK111.out) hb); have n2_ := Aside0.mk (below_step (by repeat (first | (with_reducible first | exact HB.out | apply below_alloc | apply pw_below_drewN | apply below_drew1 | refine below_set ?_ GE107.out | refine below_set ?_ GE111.out) | exact HB.out)) hb); clear BK107; clear BK111; clear HB; have BK107 := n0_; have BK111 := n1_; have HB := n2_; clear n0_ n1_ n2_; (try clear hb); (try clear hb2); (try clear hk); (try clear hi)))
                    go_roundg k1
                    case measure => have := HK1.out; omega
                    case rel => exact ⟨(wrap64 (x26_1 + 1)), (by first | rfl | (simp; done) | (simp [*]; done)), H', ⟨by have := HK1.out; omega⟩, ⟨by (with_reducible repeat (first | refine blk_drewN ?_ _ | refine blk_drew ?_ | refine blk_alloc ?_ _)); exact BK107.out⟩, ⟨by repeat (first | (with_reducible first | exact HB.out | apply below_alloc | apply pw_below_drewN | apply below_drew1 | refine below_set ?_ GE107.out | refine below_set ?_ GE111.out) | exact HB.out)⟩⟩
                  · rw [if_neg c19] at H
                    have c19b0 : (t112 == 0) = false := beq_eq_false_iff_ne.mpr c19
                    have c19b1 : (t112 != 0) = true := bne_iff_ne.mpr c19
                    obtain rfl := Option.some.inj H
                    have p110 : 0 ≤ (x26_1 : Int) := of_decide_eq_true (by first | (with_reducible assumption) | assumption)
                    have q110 : x26_1 < (l0_3.length : Int) := of_decide_eq_true (by first | (with_reducible assumption) | assumption)
                    obtain ⟨ad110, e110, hx110_0, hx110_1, hx110_2, hx110_3, hx110_4, hx110_5⟩ := at_T39 HR0_3.out x26_1 p110 q110
                    cases e110
                    replace hx110_0 := (HB.out.cell (World.block_lt_of_cell? w _ hx110_0)).trans hx110_0
                    replace hx110_1 := (HB.out.cell (World.block_lt_of_cell? w _ hx110_1)).trans hx110_1
                    replace hx110_2 := (HB.out.cell (World.block_lt_of_cell? w _ hx110_2)).trans hx110_2
                    replace hx110_3 := (HB.out.cell (World.block_lt_of_cell? w _ hx110_3)).trans hx110_3
                    replace hx110_4 := (HB.out.cell (World.block_lt_of_cell? w _ hx110_4)).trans hx110_4
                    replace hx110_5 := (HB.out.cell (World.block_lt_of_cell? w _ hx110_5)).trans hx110_5
                    replace p110 := eq_true p110
                    replace q110 := eq_true q110
                    go_wp2_with (first | ((with_reducible refine gate_dst (N := 4) rfl ?_); refine box_event ?hg (N := 4) ?hd (cs := #[.string (⟨#[]⟩ : ByteArray), .int .i64 0, .bool false, .int .i64 0, .int .i64 0, .int .i64 0]) (t := 39) ?hr ?_; (case hd => rfl); (case hg => rfl); (case hr => first | (go_simp; done) | (go_simp; rfl)); intro gb111 hg w24 hbox hb; have n0_ := Aside0.mk (blk_below (g := gb107) (o := .cells #[.string a0_0, .bool a0_1, .int .i64 a0_2, .slice (some ad110) l0_3.length c0_3] 24 (0, 0)) (by (with_reducible repeat (first | refine blk_drewN ?_ _ | refine blk_drew ?_ | refine blk_alloc ?_ _)); exact BK107.out) hb); have n1_ := Aside0.mk (below_step (by repeat (first | (with_reducible first | exact HB.out | apply below_alloc | apply pw_below_drewN | apply below_drew1 | refine below_set ?_ GE107.out) | exact HB.out)) hb); have n2_ := Aside0.mk (hbox); have n3_ := Aside0.mk ((by rw [hg]; exact (below_size (by repeat (first | (with_reducible first | exact HB.out | apply below_alloc | apply pw_below_drewN | apply below_drew1 | refine below_set ?_ GE107.out) | exact HB.out))) : w.heap.size ≤ gb111)); have n4_ := Aside0.mk ((by rw [hg]; exact (below_size (by repeat (first | (with_reducible first | exact HB.out | apply below_alloc | apply pw_below_drewN | apply below_drew1 | refine below_set ?_ GE107.out) | exact HB.out))) : w.heap.size ≤ gb111)); have n5_ := Aside0.mk ((by rw [hg]; exact Nat.ne_of_lt (blk_lt (g := gb107) (o := .cells #[.string a0_0, .bool a0_1, .int .i64 a0_2, .slice (some ad110) l0_3.length c0_3] 24 (0, 0)) (by (with_reducible repeat (first | refine blk_drewN ?_ _ | refine blk_drew ?_ | refine blk_alloc ?_ _)); exact BK107.out)) : gb107 ≠ gb111)); have n6_ := Aside0.mk ((by rw [hg]; exact Nat.ne_of_gt (blk_lt (g := gb107) (o := .cells #[.string a0_0, .bool a0_1, .int .i64 a0_2, .slice (some ad110) l0_3.length c0_3] 24 (0, 0)) (by (with_reducible repeat (first | refine blk_drewN ?_ _ | refine blk_drew ?_ | refine blk_alloc ?_ _)); exact BK107.out)) : gb111 ≠ gb107)); clear BK107; clear HB; have BK107 := n0_; have HB := n1_; have BK111 := n2_; have GW111 := n3_; have GE111 := n4_; have NB107_111 := n5_; have NB111_107 := n6_; clear n0_ n1_ n2_ n3_ n4_ n5_ n6_; clear hb hbox hg; have hnb25 := NB111_107.out; have hnc25 := NB107_111.out; have hcz26_0 : w24.cell? ⟨gb111, 0, none⟩ = some (.string (⟨#[]⟩ : ByteArray)) := (blk_cell BK111.out 0).trans rfl; have hcz26_1 : w24.cell? ⟨gb111, 1, none⟩ = some (.int .i64 0) := (blk_cell BK111.out 1).trans rfl; have hcz26_2 : w24.cell? ⟨gb111, 2, none⟩ = some (.bool false) := (blk_cell BK111.out 2).trans rfl; have hcz26_3 : w24.cell? ⟨gb111, 3, none⟩ = some (.int .i64 0) := (blk_cell BK111.out 3).trans rfl; have hcz26_4 : w24.cell? ⟨gb111, 4, none⟩ = some (.int .i64 0) := (blk_cell BK111.out 4).trans rfl; have hcz26_5 : w24.cell? ⟨gb111, 5, none⟩ = some (.int .i64 0) := (blk_cell BK111.out 5).trans rfl; have hfz26_0 := blk_frozen BK111.out 0; have hfz26_1 := blk_frozen BK111.out 1; have hfz26_2 := blk_frozen BK111.out 2; have hfz26_3 := blk_frozen BK111.out 3; have hfz26_4 := blk_frozen BK111.out 4; have hfz26_5 := blk_frozen BK111.out 5) | ((with_reducible refine gate_callee (f := 32) rfl ?_); refine goesL_ (some 31) rfl rfl Try.func32 (by kernel_rfl) rfl #[.agg #[.string ((rd_T39 l0_3 x26_1).f0), .int .i64 ((rd_T39 l0_3 x26_1).f1), .bool ((rd_T39 l0_3 x26_1).f2), .int .i64 ((rd_T39 l0_3 x26_1).f3), .int .i64 ((rd_T39 l0_3 x26_1).f4), .int .i64 ((rd_T39 l0_3 x26_1).f5)]] rfl (by (try simp only [List.map_toArray, List.map_cons, List.map_nil]); first | done | rfl | (simp only [List.length_drop, List.length_take]; rfl)) ?_; (with_reducible refine (toxic_Check.calls ((rd_T39 l0_3 x26_1).f0) ((rd_T39 l0_3 x26_1).f1) ((rd_T39 l0_3 x26_1).f2) ((rd_T39 l0_3 x26_1).f3) ((rd_T39 l0_3 x26_1).f4) ((rd_T39 l0_3 x26_1).f5) t112 _ A18.out).mono ?_); rintro e w27 ⟨rfl, hb⟩; refine ⟨_, rfl, ?_⟩; have n0_ := Aside0.mk (blk_below (g := gb107) (o := .cells #[.string a0_0, .bool a0_1, .int .i64 a0_2, .slice (some ad110) l0_3.length c0_3] 24 (0, 0)) (by (with_reducible repeat (first | refine blk_drewN ?_ _ | refine blk_drew ?_ | refine blk_alloc ?_ _)); refine blk_far ?_ NB107_111.out _; (with_reducible repeat (first | refine blk_drewN ?_ _ | refine blk_drew ?_ | refine blk_alloc ?_ _)); refine blk_far ?_ NB107_111.out _; (with_reducible repeat (first | refine blk_drewN ?_ _ | refine blk_drew ?_ | refine blk_alloc ?_ _)); refine blk_far ?_ NB107_111.out _; (with_reducible repeat (first | refine blk_drewN ?_ _ | refine blk_drew ?_ | refine blk_alloc ?_ _)); refine blk_far ?_ NB107_111.out _; (with_reducible repeat (first | refine blk_drewN ?_ _ | refine blk_drew ?_ | refine blk_alloc ?_ _)); refine blk_far ?_ NB107_111.out _; (with_reducible repeat (first | refine blk_drewN ?_ _ | refine blk_drew ?_ | refine blk_alloc ?_ _)); refine blk_far ?_ NB107_111.out _; (with_reducible repeat (first | refine blk_drewN ?_ _ | refine blk_drew ?_ | refine blk_alloc ?_ _)); exact BK107.out) hb); have n1_ := Aside0.mk (blk_below (g := gb111) (o := .cells #[.string ((rd_T39 l0_3 x26_1).f0), .int .i64 ((rd_T39 l0_3 x26_1).f1), .bool ((rd_T39 l0_3 x26_1).f2), .int .i64 ((rd_T39 l0_3 x26_1).f3), .int .i64 ((rd_T39 l0_3 x26_1).f4), .int .i64 ((rd_T39 l0_3 x26_1).f5)] 39 (0, 0)) (by (with_reducible repeat (first | refine blk_drewN ?_ _ | refine blk_drew ?_ | refine blk_alloc ?_ _)); refine blk_put (cs := #[.string ((rd_T39 l0_3 x26_1).f0), .int .i64 ((rd_T39 l0_3 x26_1).f1), .bool ((rd_T39 l0_3 x26_1).f2), .int .i64 ((rd_T39 l0_3 x26_1).f3), .int .i64 ((rd_T39 l0_3 x26_1).f4), .int .i64 0]) ?_ 5 _ rfl; (with_reducible repeat (first | refine blk_drewN ?_ _ | refine blk_drew ?_ | refine blk_alloc ?_ _)); refine blk_put (cs := #[.string ((rd_T39 l0_3 x26_1).f0), .int .i64 ((rd_T39 l0_3 x26_1).f1), .bool ((rd_T39 l0_3 x26_1).f2), .int .i64 ((rd_T39 l0_3 x26_1).f3), .int .i64 0, .int .i64 0]) ?_ 4 _ rfl; (with_reducible repeat (first | refine blk_drewN ?_ _ | refine blk_drew ?_ | refine blk_alloc ?_ _)); refine blk_put (cs := #[.string ((rd_T39 l0_3 x26_1).f0), .int .i64 ((rd_T39 l0_3 x26_1).f1), .bool ((rd_T39 l0_3 x26_1).f2), .int .i64 0, .int .i64 0, .int .i64 0]) ?_ 3 _ rfl; (with_reducible repeat (first | refine blk_drewN ?_ _ | refine blk_drew ?_ | refine blk_alloc ?_ _)); refine blk_put (cs := #[.string ((rd_T39 l0_3 x26_1).f0), .int .i64 ((rd_T39 l0_3 x26_1).f1), .bool false, .int .i64 0, .int .i64 0, .int .i64 0]) ?_ 2 _ rfl; (with_reducible repeat (first | refine blk_drewN ?_ _ | refine blk_drew ?_ | refine blk_alloc ?_ _)); refine blk_put (cs := #[.string ((rd_T39 l0_3 x26_1).f0), .int .i64 0, .bool false, .int .i64 0, .int .i64 0, .int .i64 0]) ?_ 1 _ rfl; (with_reducible repeat (first | refine blk_drewN ?_ _ | refine blk_drew ?_ | refine blk_alloc ?_ _)); refine blk_put (cs := #[.string (⟨#[]⟩ : ByteArray), .int .i64 0, .bool false, .int .i64 0, .int .i64 0, .int .i64 0]) ?_ 0 _ rfl; (with_reducible repeat (first | refine blk_drewN ?_ _ | refine blk_drew ?_ | refine blk_alloc ?_ _)); exact BK111.out) hb); have n2_ := Aside0.mk (below_step (by repeat (first | (with_reducible first | exact HB.out | apply below_alloc | apply pw_below_drewN | apply below_drew1 | refine below_set ?_ GE107.out | refine below_set ?_ GE111.out) | exact HB.out)) hb); clear BK107; clear BK111; clear HB; have BK107 := n0_; have BK111 := n1_; have HB := n2_; clear n0_ n1_ n2_; (try clear hb); (try clear hb2); (try clear hk); (try clear hi)))
                    go_ret
                    exact ⟨by first | rfl | (simp [errW_none, errW_some] <;> rfl) | (simp [*, errW_none, errW_some] <;> rfl), by repeat (first | (with_reducible first | exact HB.out | apply below_alloc | apply pw_below_drewN | apply below_drew1 | refine below_set ?_ GE107.out | refine below_set ?_ GE111.out) | exact HB.out)⟩
                · rw [if_neg c17] at H
                  exact absurd H (by simp)
              · rw [if_neg c16] at H
                exact absurd H (by simp)
            · rw [if_neg c15] at H
              have c15b0 : decide (x26_1 < (l0_3.length : Int)) = false := decide_eq_false c15
              clear c15
              have H' := Aside0.mk H
              clear H
              have hcz28_0 : wr.cell? ⟨gb107, 0, none⟩ = some (.string a0_0) := (blk_cell BK107.out 0).trans rfl
              have hcz28_1 : wr.cell? ⟨gb107, 1, none⟩ = some (.bool a0_1) := (blk_cell BK107.out 1).trans rfl
              have hcz28_2 : wr.cell? ⟨gb107, 2, none⟩ = some (.int .i64 a0_2) := (blk_cell BK107.out 2).trans rfl
              have hcz28_3 : wr.cell? ⟨gb107, 3, none⟩ = some (.slice A0_3 l0_3.length c0_3) := (blk_cell BK107.out 3).trans rfl
              have hfz28_0 := blk_frozen BK107.out 0
              have hfz28_1 := blk_frozen BK107.out 1
              have hfz28_2 := blk_frozen BK107.out 2
              have hfz28_3 := blk_frozen BK107.out 3
              go_wp2
              go_loopg [39] k1 (fun kq v39 w' => ∃ (x39_2 : Int), v39 = .int .i64 x39_2 ∧ Aside0 (names_Check.l1 kq l0_3 (l0_3.length : Int) x39_2 a0_0 a0_1 a0_2 l0_3 = some r) ∧ Aside0 (kq ≤ k1) ∧ Aside0 (w'.heap[gb107]? = some (.cells #[.string a0_0, .bool a0_1, .int .i64 a0_2, (.slice A0_3 l0_3.length c0_3)] 24 (0, 0))) ∧ Aside0 (Below w.heap.size w w'))
              case atStart => exact ⟨(0), (by first | rfl | (simp; done) | (simp [*]; done)), H', ⟨Nat.le_refl _⟩, ⟨by (with_reducible repeat (first | refine blk_drewN ?_ _ | refine blk_drew ?_ | refine blk_alloc ?_ _)); exact BK107.out⟩, ⟨by repeat (first | (with_reducible first | exact HB.out | apply below_alloc | apply pw_below_drewN | apply below_drew1 | refine below_set ?_ GE107.out) | exact HB.out)⟩⟩
              case round =>
                clear H'
                try clear c1
                try clear p1
                try clear q1
                try clear hx1
                try clear c2
                try clear p2
                try clear c3
                try clear c5
                try clear c6
                try clear c6b0
                try clear c6b1
                try clear p6
                try clear c11
                try clear p11
                try clear q11
                try clear hx11
                try clear c15
                try clear c15b0
                try clear c16
                try clear c16b0
                try clear c17
                try clear c17b0
                try clear c19
                try clear c19b0
                try clear c19b1
                try clear c21
                try clear c25
                try clear hcz10_0
                try clear hcz10_1
                try clear hcz10_2
                try clear hcz10_3
                try clear hcz12_0
                try clear hcz12_1
                try clear hcz12_2
                try clear hcz12_3
                try clear hcz14_0
                try clear hcz14_1
                try clear hcz14_2
                try clear hcz14_3
                try clear hcz22_0
                try clear hcz22_1
                try clear hcz22_2
                try clear hcz22_3
                try clear hcz22_4
                try clear hcz22_5
                try clear hcz26_0
                try clear hcz26_1
                try clear hcz26_2
                try clear hcz26_3
                try clear hcz26_4
                try clear hcz26_5
                try clear hcz28_0
                try clear hcz28_1
                try clear hcz28_2
                try clear hcz28_3
                try clear hcz8_0
                try clear hcz8_1
                try clear hcz8_2
                try clear hcz8_3
                try clear hfz10_0
                try clear hfz10_1
                try clear hfz10_2
                try clear hfz10_3
                try clear hfz12_0
                try clear hfz12_1
                try clear hfz12_2
                try clear hfz12_3
                try clear hfz14_0
                try clear hfz14_1
                try clear hfz14_2
                try clear hfz14_3
                try clear hfz22_0
                try clear hfz22_1
                try clear hfz22_2
                try clear hfz22_3
                try clear hfz22_4
                try clear hfz22_5
                try clear hfz26_0
                try clear hfz26_1
                try clear hfz26_2
                try clear hfz26_3
                try clear hfz26_4
                try clear hfz26_5
                try clear hfz28_0
                try clear hfz28_1
                try clear hfz28_2
                try clear hfz28_3
                try clear hfz8_0
                try clear hfz8_1
                try clear hfz8_2
                try clear hfz8_3
                try clear hx110_0
                try clear hx110_1
                try clear hx110_2
                try clear hx110_3
                try clear hx110_4
                try clear hx110_5
                try clear p110
                try clear p2
                try clear q110
                obtain ⟨x39_2, rfl, HA, HK2, BK107, HB⟩ := hrel
                cases gk with
                | zero => exact absurd HA.out (by simp [names_Check.l1])
                | succ k2 =>
                  have H := HA.out
                  clear HA
                  simp only [names_Check.l1] at H
                  by_cases c29 : x39_2 < (l0_3.length : Int)
                  · rw [if_pos c29] at H
                    have c29b0 : decide (x39_2 < (l0_3.length : Int)) = true := decide_eq_true c29
                    clear c29
                    by_cases c30 : 0 ≤ x39_2
                    · rw [if_pos c30] at H
                      have c30b0 : decide (0 ≤ x39_2) = true := decide_eq_true c30
                      clear c30
                      by_cases c31 : x39_2 < (l0_3.length : Int)
                      · rw [if_pos c31] at H
                        have c31b0 : decide (x39_2 < (l0_3.length : Int)) = true := decide_eq_true c31
                        clear c31
                        replace H := Option.bind_eq_some_iff.mp H
                        obtain ⟨t115, A320, H⟩ := H
                        replace H : (if t115 = x39_2 then (names_Check.l1 k2 l0_3 (l0_3.length : Int) (wrap64 (x39_2 + 1)) a0_0 a0_1 a0_2 l0_3) else (some 141)) = some r := H
                        have A32 := Aside0.mk A320
                        clear A320
                        by_cases c33 : t115 = x39_2
                        · rw [if_pos c33] at H
                          have c33b0 : (t115 == x39_2) = true := beq_iff_eq.mpr c33
                          have c33b1 : (t115 != x39_2) = false := bne_eq_false_iff_eq.mpr c33
                          clear c33
                          have H' := Aside0.mk H
                          clear H
                          have p113 : 0 ≤ (x39_2 : Int) := of_decide_eq_true (by first | (with_reducible assumption) | assumption)
                          have q113 : x39_2 < (l0_3.length : Int) := of_decide_eq_true (by first | (with_reducible assumption) | assumption)
                          obtain ⟨ad113, e113, hx113_0, hx113_1, hx113_2, hx113_3, hx113_4, hx113_5⟩ := at_T39 HR0_3.out x39_2 p113 q113
                          cases e113
                          replace hx113_0 := (HB.out.cell (World.block_lt_of_cell? w _ hx113_0)).trans hx113_0
                          replace hx113_1 := (HB.out.cell (World.block_lt_of_cell? w _ hx113_1)).trans hx113_1
                          replace hx113_2 := (HB.out.cell (World.block_lt_of_cell? w _ hx113_2)).trans hx113_2
                          replace hx113_3 := (HB.out.cell (World.block_lt_of_cell? w _ hx113_3)).trans hx113_3
                          replace hx113_4 := (HB.out.cell (World.block_lt_of_cell? w _ hx113_4)).trans hx113_4
                          replace hx113_5 := (HB.out.cell (World.block_lt_of_cell? w _ hx113_5)).trans hx113_5
                          replace p113 := eq_true p113
                          replace q113 := eq_true q113
                          go_wp2_with (first | ((with_reducible refine gate_dst (N := 7) rfl ?_); refine box_event ?hg (N := 7) ?hd (cs := #[.string (⟨#[]⟩ : ByteArray), .int .i64 0, .bool false, .int .i64 0, .int .i64 0, .int .i64 0]) (t := 39) ?hr ?_; (case hd => rfl); (case hg => rfl); (case hr => first | (go_simp; done) | (go_simp; rfl)); intro gb114 hg w34 hbox hb; have n0_ := Aside0.mk (blk_below (g := gb107) (o := .cells #[.string a0_0, .bool a0_1, .int .i64 a0_2, .slice (some ad113) l0_3.length c0_3] 24 (0, 0)) (by (with_reducible repeat (first | refine blk_drewN ?_ _ | refine blk_drew ?_ | refine blk_alloc ?_ _)); exact BK107.out) hb); have n1_ := Aside0.mk (below_step (by repeat (first | (with_reducible first | exact HB.out | apply below_alloc | apply pw_below_drewN | apply below_drew1 | refine below_set ?_ GE107.out) | exact HB.out)) hb); have n2_ := Aside0.mk (hbox); have n3_ := Aside0.mk ((by rw [hg]; exact (below_size (by repeat (first | (with_reducible first | exact HB.out | apply below_alloc | apply pw_below_drewN | apply below_drew1 | refine below_set ?_ GE107.out) | exact HB.out))) : w.heap.size ≤ gb114)); have n4_ := Aside0.mk ((by rw [hg]; exact (below_size (by repeat (first | (with_reducible first | exact HB.out | apply below_alloc | apply pw_below_drewN | apply below_drew1 | refine below_set ?_ GE107.out) | exact HB.out))) : w.heap.size ≤ gb114)); have n5_ := Aside0.mk ((by rw [hg]; exact Nat.ne_of_lt (blk_lt (g := gb107) (o := .cells #[.string a0_0, .bool a0_1, .int .i64 a0_2, .slice (some ad113) l0_3.length c0_3] 24 (0, 0)) (by (with_reducible repeat (first | refine blk_drewN ?_ _ | refine blk_drew ?_ | refine blk_alloc ?_ _)); exact BK107.out)) : gb107 ≠ gb114)); have n6_ := Aside0.mk ((by rw [hg]; exact Nat.ne_of_gt (blk_lt (g := gb107) (o := .cells #[.string a0_0, .bool a0_1, .int .i64 a0_2, .slice (some ad113) l0_3.length c0_3] 24 (0, 0)) (by (with_reducible repeat (first | refine blk_drewN ?_ _ | refine blk_drew ?_ | refine blk_alloc ?_ _)); exact BK107.out)) : gb114 ≠ gb107)); clear BK107; clear HB; have BK107 := n0_; have HB := n1_; have BK114 := n2_; have GW114 := n3_; have GE114 := n4_; have NB107_114 := n5_; have NB114_107 := n6_; clear n0_ n1_ n2_ n3_ n4_ n5_ n6_; clear hb hbox hg; have hnb35 := NB114_107.out; have hnc35 := NB107_114.out; have hcz36_0 : w34.cell? ⟨gb114, 0, none⟩ = some (.string (⟨#[]⟩ : ByteArray)) := (blk_cell BK114.out 0).trans rfl; have hcz36_1 : w34.cell? ⟨gb114, 1, none⟩ = some (.int .i64 0) := (blk_cell BK114.out 1).trans rfl; have hcz36_2 : w34.cell? ⟨gb114, 2, none⟩ = some (.bool false) := (blk_cell BK114.out 2).trans rfl; have hcz36_3 : w34.cell? ⟨gb114, 3, none⟩ = some (.int .i64 0) := (blk_cell BK114.out 3).trans rfl; have hcz36_4 : w34.cell? ⟨gb114, 4, none⟩ = some (.int .i64 0) := (blk_cell BK114.out 4).trans rfl; have hcz36_5 : w34.cell? ⟨gb114, 5, none⟩ = some (.int .i64 0) := (blk_cell BK114.out 5).trans rfl; have hfz36_0 := blk_frozen BK114.out 0; have hfz36_1 := blk_frozen BK114.out 1; have hfz36_2 := blk_frozen BK114.out 2; have hfz36_3 := blk_frozen BK114.out 3; have hfz36_4 := blk_frozen BK114.out 4; have hfz36_5 := blk_frozen BK114.out 5; have hcz37_0 : w34.cell? ⟨gb107, 0, none⟩ = some (.string a0_0) := (blk_cell BK107.out 0).trans rfl; have hcz37_1 : w34.cell? ⟨gb107, 1, none⟩ = some (.bool a0_1) := (blk_cell BK107.out 1).trans rfl; have hcz37_2 : w34.cell? ⟨gb107, 2, none⟩ = some (.int .i64 a0_2) := (blk_cell BK107.out 2).trans rfl; have hcz37_3 : w34.cell? ⟨gb107, 3, none⟩ = some (.slice (some ad113) l0_3.length c0_3) := (blk_cell BK107.out 3).trans rfl; have hfz37_0 := blk_frozen BK107.out 0; have hfz37_1 := blk_frozen BK107.out 1; have hfz37_2 := blk_frozen BK107.out 2; have hfz37_3 := blk_frozen BK107.out 3) | ((with_reducible refine gate_callee (f := 33) rfl ?_); refine goesL_ (some 48) rfl rfl Try.func33 (by kernel_rfl) rfl #[.slice (some ad113) l0_3.length c0_3, .string ((rd_T39 l0_3 x39_2).f0), .func (.func 34) #[] #[]] rfl (by (try simp only [List.map_toArray, List.map_cons, List.map_nil]); first | done | rfl | (simp only [List.length_drop, List.length_take]; rfl)) ?_; (with_reducible refine (names_at_api_Toxic.calls _ _ l0_3 ((rd_T39 l0_3 x39_2).f0)  t115 _ ?side1 ?side2 A32.out).mono ?_); (case side1 => exact Kd.C_below HR0_3.out (by repeat (first | (with_reducible first | exact HB.out | apply below_alloc | apply pw_below_drewN | apply below_drew1 | refine below_set ?_ GE107.out | refine below_set ?_ GE114.out) | exact HB.out))); (case side2 => exact HC0_3.out); rintro e w38 ⟨rfl, hb⟩; refine ⟨_, rfl, ?_⟩; have n0_ := Aside0.mk (blk_below (g := gb107) (o := .cells #[.string a0_0, .bool a0_1, .int .i64 a0_2, .slice (some ad113) l0_3.length c0_3] 24 (0, 0)) (by (with_reducible repeat (first | refine blk_drewN ?_ _ | refine blk_drew ?_ | refine blk_alloc ?_ _)); refine blk_far ?_ NB107_114.out _; (with_reducible repeat (first | refine blk_drewN ?_ _ | refine blk_drew ?_ | refine blk_alloc ?_ _)); refine blk_far ?_ NB107_114.out _; (with_reducible repeat (first | refine blk_drewN ?_ _ | refine blk_drew ?_ | refine blk_alloc ?_ _)); refine blk_far ?_ NB107_114.out _; (with_reducible repeat (first | refine blk_drewN ?_ _ | refine blk_drew ?_ | refine blk_alloc ?_ _)); refine blk_far ?_ NB107_114.out _; (with_reducible repeat (first | refine blk_drewN ?_ _ | refine blk_drew ?_ | refine blk_alloc ?_ _)); refine blk_far ?_ NB107_114.out _; (with_reducible repeat (first | refine blk_drewN ?_ _ | refine blk_drew ?_ | refine blk_alloc ?_ _)); refine blk_far ?_ NB107_114.out _; (with_reducible repeat (first | refine blk_drewN ?_ _ | refine blk_drew ?_ | refine blk_alloc ?_ _)); exact BK107.out) hb); have n1_ := Aside0.mk (blk_below (g := gb114) (o := .cells #[.string ((rd_T39 l0_3 x39_2).f0), .int .i64 ((rd_T39 l0_3 x39_2).f1), .bool ((rd_T39 l0_3 x39_2).f2), .int .i64 ((rd_T39 l0_3 x39_2).f3), .int .i64 ((rd_T39 l0_3 x39_2).f4), .int .i64 ((rd_T39 l0_3 x39_2).f5)] 39 (0, 0)) (by (with_reducible repeat (first | refine blk_drewN ?_ _ | refine blk_drew ?_ | refine blk_alloc ?_ _)); refine blk_put (cs := #[.string ((rd_T39 l0_3 x39_2).f0), .int .i64 ((rd_T39 l0_3 x39_2).f1), .bool ((rd_T39 l0_3 x39_2).f2), .int .i64 ((rd_T39 l0_3 x39_2).f3), .int .i64 ((rd_T39 l0_3 x39_2).f4), .int .i64 0]) ?_ 5 _ rfl; (with_reducible repeat (first | refine blk_drewN ?_ _ | refine blk_drew ?_ | refine blk_alloc ?_ _)); refine blk_put (cs := #[.string ((rd_T39 l0_3 x39_2).f0), .int .i64 ((rd_T39 l0_3 x39_2).f1), .bool ((rd_T39 l0_3 x39_2).f2), .int .i64 ((rd_T39 l0_3 x39_2).f3), .int .i64 0, .int .i64 0]) ?_ 4 _ rfl; (with_reducible repeat (first | refine blk_drewN ?_ _ | refine blk_drew ?_ | refine blk_alloc ?_ _)); refine blk_put (cs := #[.string ((rd_T39 l0_3 x39_2).f0), .int .i64 ((rd_T39 l0_3 x39_2).f1), .bool ((rd_T39 l0_3 x39_2).f2), .int .i64 0, .int .i64 0, .int .i64 0]) ?_ 3 _ rfl; (with_reducible repeat (first | refine blk_drewN ?_ _ | refine blk_drew ?_ | refine blk_alloc ?_ _)); refine blk_put (cs := #[.string ((rd_T39 l0_3 x39_2).f0), .int .i64 ((rd_T39 l0_3 x39_2).f1), .bool false, .int .i64 0, .int .i64 0, .int .i64 0]) ?_ 2 _ rfl; (with_reducible repeat (first | refine blk_drewN ?_ _ | refine blk_drew ?_ | refine blk_alloc ?_ _)); refine blk_put (cs := #[.string ((rd_T39 l0_3 x39_2).f0), .int .i64 0, .bool false, .int .i64 0, .int .i64 0, .int .i64 0]) ?_ 1 _ rfl; (with_reducible repeat (first | refine blk_drewN ?_ _ | refine blk_drew ?_ | refine blk_alloc ?_ _)); refine blk_put (cs := #[.string (⟨#[]⟩ : ByteArray), .int .i64 0, .bool false, .int .i64 0, .int .i64 0, .int .i64 0]) ?_ 0 _ rfl; (with_reducible repeat (first | refine blk_drewN ?_ _ | refine blk_drew ?_ | refine blk_alloc ?_ _)); exact BK114.out) hb); have n2_ := Aside0.mk (below_step (by repeat (first | (with_reducible first | exact HB.out | apply below_alloc | apply pw_below_drewN | apply below_drew1 | refine below_set ?_ GE107.out | refine below_set ?_ GE114.out) | exact HB.out)) hb); clear BK107; clear BK114; clear HB; have BK107 := n0_; have BK114 := n1_; have HB := n2_; clear n0_ n1_ n2_; (try clear hb); (try clear hb2); (try clear hk); (try clear hi)))
                          go_roundg k2
                          case measure => have := HK1.out; have := HK2.out; omega
                          case rel => exact ⟨(wrap64 (x39_2 + 1)), (by first | rfl | (simp; done) | (simp [*]; done)), H', ⟨by have := HK1.out; have := HK2.out; omega⟩, ⟨by (with_reducible repeat (first | refine blk_drewN ?_ _ | refine blk_drew ?_ | refine blk_alloc ?_ _)); exact BK107.out⟩, ⟨by repeat (first | (with_reducible first | exact HB.out | apply below_alloc | apply pw_below_drewN | apply below_drew1 | refine below_set ?_ GE107.out | refine below_set ?_ GE114.out) | exact HB.out)⟩⟩
                        · rw [if_neg c33] at H
                          have c33b0 : (t115 == x39_2) = false := beq_eq_false_iff_ne.mpr c33
                          have c33b1 : (t115 != x39_2) = true := bne_iff_ne.mpr c33
                          obtain rfl := Option.some.inj H
                          have p113 : 0 ≤ (x39_2 : Int) := of_decide_eq_true (by first | (with_reducible assumption) | assumption)
                          have q113 : x39_2 < (l0_3.length : Int) := of_decide_eq_true (by first | (with_reducible assumption) | assumption)
                          obtain ⟨ad113, e113, hx113_0, hx113_1, hx113_2, hx113_3, hx113_4, hx113_5⟩ := at_T39 HR0_3.out x39_2 p113 q113
                          cases e113
                          replace hx113_0 := (HB.out.cell (World.block_lt_of_cell? w _ hx113_0)).trans hx113_0
                          replace hx113_1 := (HB.out.cell (World.block_lt_of_cell? w _ hx113_1)).trans hx113_1
                          replace hx113_2 := (HB.out.cell (World.block_lt_of_cell? w _ hx113_2)).trans hx113_2
                          replace hx113_3 := (HB.out.cell (World.block_lt_of_cell? w _ hx113_3)).trans hx113_3
                          replace hx113_4 := (HB.out.cell (World.block_lt_of_cell? w _ hx113_4)).trans hx113_4
                          replace hx113_5 := (HB.out.cell (World.block_lt_of_cell? w _ hx113_5)).trans hx113_5
                          replace p113 := eq_true p113
                          replace q113 := eq_true q113
                          go_wp2_with (first | ((with_reducible refine gate_dst (N := 7) rfl ?_); refine box_event ?hg (N := 7) ?hd (cs := #[.string (⟨#[]⟩ : ByteArray), .int .i64 0, .bool false, .int .i64 0, .int .i64 0, .int .i64 0]) (t := 39) ?hr ?_; (case hd => rfl); (case hg => rfl); (case hr => first | (go_simp; done) | (go_simp; rfl)); intro gb114 hg w39 hbox hb; have n0_ := Aside0.mk (blk_below (g := gb107) (o := .cells #[.string a0_0, .bool a0_1, .int .i64 a0_2, .slice (some ad113) l0_3.length c0_3] 24 (0, 0)) (by (with_reducible repeat (first | refine blk_drewN ?_ _ | refine blk_drew ?_ | refine blk_alloc ?_ _)); exact BK107.out) hb); have n1_ := Aside0.mk (below_step (by repeat (first | (with_reducible first | exact HB.out | apply below_alloc | apply pw_below_drewN | apply below_drew1 | refine below_set ?_ GE107.out) | exact HB.out)) hb); have n2_ := Aside0.mk (hbox); have n3_ := Aside0.mk ((by rw [hg]; exact (below_size (by repeat (first | (with_reducible first | exact HB.out | apply below_alloc | apply pw_below_drewN | apply below_drew1 | refine below_set ?_ GE107.out) | exact HB.out))) : w.heap.size ≤ gb114)); have n4_ := Aside0.mk ((by rw [hg]; exact (below_size (by repeat (first | (with_reducible first | exact HB.out | apply below_alloc | apply pw_below_drewN | apply below_drew1 | refine below_set ?_ GE107.out) | exact HB.out))) : w.heap.size ≤ gb114)); have n5_ := Aside0.mk ((by rw [hg]; exact Nat.ne_of_lt (blk_lt (g := gb107) (o := .cells #[.string a0_0, .bool a0_1, .int .i64 a0_2, .slice (some ad113) l0_3.length c0_3] 24 (0, 0)) (by (with_reducible repeat (first | refine blk_drewN ?_ _ | refine blk_drew ?_ | refine blk_alloc ?_ _)); exact BK107.out)) : gb107 ≠ gb114)); have n6_ := Aside0.mk ((by rw [hg]; exact Nat.ne_of_gt (blk_lt (g := gb107) (o := .cells #[.string a0_0, .bool a0_1, .int .i64 a0_2, .slice (some ad113) l0_3.length c0_3] 24 (0, 0)) (by (with_reducible repeat (first | refine blk_drewN ?_ _ | refine blk_drew ?_ | refine blk_alloc ?_ _)); exact BK107.out)) : gb114 ≠ gb107)); clear BK107; clear HB; have BK107 := n0_; have HB := n1_; have BK114 := n2_; have GW114 := n3_; have GE114 := n4_; have NB107_114 := n5_; have NB114_107 := n6_; clear n0_ n1_ n2_ n3_ n4_ n5_ n6_; clear hb hbox hg; have hnb40 := NB114_107.out; have hnc40 := NB107_114.out; have hcz41_0 : w39.cell? ⟨gb114, 0, none⟩ = some (.string (⟨#[]⟩ : ByteArray)) := (blk_cell BK114.out 0).trans rfl; have hcz41_1 : w39.cell? ⟨gb114, 1, none⟩ = some (.int .i64 0) := (blk_cell BK114.out 1).trans rfl; have hcz41_2 : w39.cell? ⟨gb114, 2, none⟩ = some (.bool false) := (blk_cell BK114.out 2).trans rfl; have hcz41_3 : w39.cell? ⟨gb114, 3, none⟩ = some (.int .i64 0) := (blk_cell BK114.out 3).trans rfl; have hcz41_4 : w39.cell? ⟨gb114, 4, none⟩ = some (.int .i64 0) := (blk_cell BK114.out 4).trans rfl; have hcz41_5 : w39.cell? ⟨gb114, 5, none⟩ = some (.int .i64 0) := (blk_cell BK114.out 5).trans rfl; have hfz41_0 := blk_frozen BK114.out 0; have hfz41_1 := blk_frozen BK114.out 1; have hfz41_2 := blk_frozen BK114.out 2; have hfz41_3 := blk_frozen BK114.out 3; have hfz41_4 := blk_frozen BK114.out 4; have hfz41_5 := blk_frozen BK114.out 5; have hcz42_0 : w39.cell? ⟨gb107, 0, none⟩ = some (.string a0_0) := (blk_cell BK107.out 0).trans rfl; have hcz42_1 : w39.cell? ⟨gb107, 1, none⟩ = some (.bool a0_1) := (blk_cell BK107.out 1).trans rfl; have hcz42_2 : w39.cell? ⟨gb107, 2, none⟩ = some (.int .i64 a0_2) := (blk_cell BK107.out 2).trans rfl; have hcz42_3 : w39.cell? ⟨gb107, 3, none⟩ = some (.slice (some ad113) l0_3.length c0_3) := (blk_cell BK107.out 3).trans rfl; have hfz42_0 := blk_frozen BK107.out 0; have hfz42_1 := blk_frozen BK107.out 1; have hfz42_2 := blk_frozen BK107.out 2; have hfz42_3 := blk_frozen BK107.out 3) | ((with_reducible refine gate_callee (f := 33) rfl ?_); refine goesL_ (some 48) rfl rfl Try.func33 (by kernel_rfl) rfl #[.slice (some ad113) l0_3.length c0_3, .string ((rd_T39 l0_3 x39_2).f0), .func (.func 34) #[] #[]] rfl (by (try simp only [List.map_toArray, List.map_cons, List.map_nil]); first | done | rfl | (simp only [List.length_drop, List.length_take]; rfl)) ?_; (with_reducible refine (names_at_api_Toxic.calls _ _ l0_3 ((rd_T39 l0_3 x39_2).f0)  t115 _ ?side1 ?side2 A32.out).mono ?_); (case side1 => exact Kd.C_below HR0_3.out (by repeat (first | (with_reducible first | exact HB.out | apply below_alloc | apply pw_below_drewN | apply below_drew1 | refine below_set ?_ GE107.out | refine below_set ?_ GE114.out) | exact HB.out))); (case side2 => exact HC0_3.out); rintro e w43 ⟨rfl, hb⟩; refine ⟨_, rfl, ?_⟩; have n0_ := Aside0.mk (blk_below (g := gb107) (o := .cells #[.string a0_0, .bool a0_1, .int .i64 a0_2, .slice (some ad113) l0_3.length c0_3] 24 (0, 0)) (by (with_reducible repeat (first | refine blk_drewN ?_ _ | refine blk_drew ?_ | refine blk_alloc ?_ _)); refine blk_far ?_ NB107_114.out _; (with_reducible repeat (first | refine blk_drewN ?_ _ | refine blk_drew ?_ | refine blk_alloc ?_ _)); refine blk_far ?_ NB107_114.out _; (with_reducible repeat (first | refine blk_drewN ?_ _ | refine blk_drew ?_ | refine blk_alloc ?_ _)); refine blk_far ?_ NB107_114.out _; (with_reducible repeat (first | refine blk_drewN ?_ _ | refine blk_drew ?_ | refine blk_alloc ?_ _)); refine blk_far ?_ NB107_114.out _; (with_reducible repeat (first | refine blk_drewN ?_ _ | refine blk_drew ?_ | refine blk_alloc ?_ _)); refine blk_far ?_ NB107_114.out _; (with_reducible repeat (first | refine blk_drewN ?_ _ | refine blk_drew ?_ | refine blk_alloc ?_ _)); refine blk_far ?_ NB107_114.out _; (with_reducible repeat (first | refine blk_drewN ?_ _ | refine blk_drew ?_ | refine blk_alloc ?_ _)); exact BK107.out) hb); have n1_ := Aside0.mk (blk_below (g := gb114) (o := .cells #[.string ((rd_T39 l0_3 x39_2).f0), .int .i64 ((rd_T39 l0_3 x39_2).f1), .bool ((rd_T39 l0_3 x39_2).f2), .int .i64 ((rd_T39 l0_3 x39_2).f3), .int .i64 ((rd_T39 l0_3 x39_2).f4), .int .i64 ((rd_T39 l0_3 x39_2).f5)] 39 (0, 0)) (by (with_reducible repeat (first | refine blk_drewN ?_ _ | refine blk_drew ?_ | refine blk_alloc ?_ _)); refine blk_put (cs := #[.string ((rd_T39 l0_3 x39_2).f0), .int .i64 ((rd_T39 l0_3 x39_2).f1), .bool ((rd_T39 l0_3 x39_2).f2), .int .i64 ((rd_T39 l0_3 x39_2).f3), .int .i64 ((rd_T39 l0_3 x39_2).f4), .int .i64 0]) ?_ 5 _ rfl; (with_reducible repeat (first | refine blk_drewN ?_ _ | refine blk_drew ?_ | refine blk_alloc ?_ _)); refine blk_put (cs := #[.string ((rd_T39 l0_3 x39_2).f0), .int .i64 ((rd_T39 l0_3 x39_2).f1), .bool ((rd_T39 l0_3 x39_2).f2), .int .i64 ((rd_T39 l0_3 x39_2).f3), .int .i64 0, .int .i64 0]) ?_ 4 _ rfl; (with_reducible repeat (first | refine blk_drewN ?_ _ | refine blk_drew ?_ | refine blk_alloc ?_ _)); refine blk_put (cs := #[.string ((rd_T39 l0_3 x39_2).f0), .int .i64 ((rd_T39 l0_3 x39_2).f1), .bool ((rd_T39 l0_3 x39_2).f2), .int .i64 0, .int .i64 0, .int .i64 0]) ?_ 3 _ rfl; (with_reducible repeat (first | refine blk_drewN ?_ _ | refine blk_drew ?_ | refine blk_alloc ?_ _)); refine blk_put (cs := #[.string ((rd_T39 l0_3 x39_2).f0), .int .i64 ((rd_T39 l0_3 x39_2).f1), .bool false, .int .i64 0, .int .i64 0, .int .i64 0]) ?_ 2 _ rfl; (with_reducible repeat (first | refine blk_drewN ?_ _ | refine blk_drew ?_ | refine blk_alloc ?_ _)); refine blk_put (cs := #[.string ((rd_T39 l0_3 x39_2).f0), .int .i64 0, .bool false, .int .i64 0, .int .i64 0, .int .i64 0]) ?_ 1 _ rfl; (with_reducible repeat (first | refine blk_drewN ?_ _ | refine blk_drew ?_ | refine blk_alloc ?_ _)); refine blk_put (cs := #[.string (⟨#[]⟩ : ByteArray), .int .i64 0, .bool false, .int .i64 0, .int .i64 0, .int .i64 0]) ?_ 0 _ rfl; (with_reducible repeat (first | refine blk_drewN ?_ _ | refine blk_drew ?_ | refine blk_alloc ?_ _)); exact BK114.out) hb); have n2_ := Aside0.mk (below_step (by repeat (first | (with_reducible first | exact HB.out | apply below_alloc | apply pw_below_drewN | apply below_drew1 | refine below_set ?_ GE107.out | refine below_set ?_ GE114.out) | exact HB.out)) hb); clear BK107; clear BK114; clear HB; have BK107 := n0_; have BK114 := n1_; have HB := n2_; clear n0_ n1_ n2_; (try clear hb); (try clear hb2); (try clear hk); (try clear hi)))
                          go_ret
                          exact ⟨by first | rfl | (simp [errW_none, errW_some] <;> rfl) | (simp [*, errW_none, errW_some] <;> rfl), by repeat (first | (with_reducible first | exact HB.out | apply below_alloc | apply pw_below_drewN | apply below_drew1 | refine below_set ?_ GE107.out | refine below_set ?_ GE114.out) | exact HB.out)⟩
                      · rw [if_neg c31] at H
                        exact absurd H (by simp)
                    · rw [if_neg c30] at H
                      exact absurd H (by simp)
                  · rw [if_neg c29] at H
                    have c29b0 : decide (x39_2 < (l0_3.length : Int)) = false := decide_eq_false c29
                    clear c29
                    obtain rfl := Option.some.inj H
                    go_wp2
                    go_ret
                    exact ⟨by first | rfl | (simp [errW_none, errW_some] <;> rfl) | (simp [*, errW_none, errW_some] <;> rfl), by repeat (first | (with_reducible first | exact HB.out | apply below_alloc | apply pw_below_drewN | apply below_drew1 | refine below_set ?_ GE107.out) | exact HB.out)⟩
    · replace c5 := Bool.eq_false_iff.mpr c5
      subst c5
      have H1 : (some 144) = some r := by rw [if_neg (show ¬ (false = true) by decide)] at H; exact H
      clear H
      have H := H1
      clear H1
      obtain rfl := Option.some.inj H
      go_enter Try.func11, Try.ntmps11
      go_wp2_with (first | ((with_reducible refine gate_dst (N := 1) rfl ?_); refine box_event ?hg (N := 1) ?hd (cs := #[.string a0_0, .bool a0_1, .int .i64 a0_2, .slice A0_3 l0_3.length c0_3]) (t := 24) ?hr ?_; (case hd => rfl); (case hg => rfl); (case hr => first | (go_simp; done) | (go_simp; rfl)); intro gb107 hg w44 hbox hb; have n0_ := Aside0.mk (below_step (by repeat (first | (with_reducible first | exact HB.out | apply below_alloc | apply pw_below_drewN | apply below_drew1) | exact HB.out)) hb); have n1_ := Aside0.mk (hbox); have n2_ := Aside0.mk ((by rw [hg]; exact (below_size (by repeat (first | (with_reducible first | exact HB.out | apply below_alloc | apply pw_below_drewN | apply below_drew1) | exact HB.out))) : w.heap.size ≤ gb107)); have n3_ := Aside0.mk ((by rw [hg]; exact (below_size (by repeat (first | (with_reducible first | exact HB.out | apply below_alloc | apply pw_below_drewN | apply below_drew1) | exact HB.out))) : w.heap.size ≤ gb107)); clear HB; have HB := n0_; have BK107 := n1_; have GW107 := n2_; have GE107 := n3_; clear n0_ n1_ n2_ n3_; clear hb hbox hg; have hcz45_0 : w44.cell? ⟨gb107, 0, none⟩ = some (.string a0_0) := (blk_cell BK107.out 0).trans rfl; have hcz45_1 : w44.cell? ⟨gb107, 1, none⟩ = some (.bool a0_1) := (blk_cell BK107.out 1).trans rfl; have hcz45_2 : w44.cell? ⟨gb107, 2, none⟩ = some (.int .i64 a0_2) := (blk_cell BK107.out 2).trans rfl; have hcz45_3 : w44.cell? ⟨gb107, 3, none⟩ = some (.slice A0_3 l0_3.length c0_3) := (blk_cell BK107.out 3).trans rfl; have hfz45_0 := blk_frozen BK107.out 0; have hfz45_1 := blk_frozen BK107.out 1; have hfz45_2 := blk_frozen BK107.out 2; have hfz45_3 := blk_frozen BK107.out 3) | ((with_reducible refine gate_callee (f := 30) rfl ?_); refine goesL_ (some 11) rfl rfl Try.func30 (by kernel_rfl) rfl #[.string a0_0] rfl (by (try simp only [List.map_toArray, List.map_cons, List.map_nil]); first | done | rfl | (simp only [List.length_drop, List.length_take]; rfl)) ?_; (with_reducible refine (toxic_Name.calls a0_0 true _ A2.out).mono ?_); rintro e w46 ⟨rfl, hb⟩; refine ⟨_, rfl, ?_⟩; have n0_ := Aside0.mk (blk_below (g := gb107) (o := .cells #[.string a0_0, .bool a0_1, .int .i64 a0_2, .slice A0_3 l0_3.length c0_3] 24 (0, 0)) (by (with_reducible repeat (first | refine blk_drewN ?_ _ | refine blk_drew ?_ | refine blk_alloc ?_ _)); exact BK107.out) hb); have n1_ := Aside0.mk (below_step (by repeat (first | (with_reducible first | exact HB.out | apply below_alloc | apply pw_below_drewN | apply below_drew1 | refine below_set ?_ GE107.out) | exact HB.out)) hb); clear BK107; clear HB; have BK107 := n0_; have HB := n1_; clear n0_ n1_; (try clear hb); (try clear hb2); (try clear hk); (try clear hi); have hcz47_0 : w46.cell? ⟨gb107, 0, none⟩ = some (.string a0_0) := (blk_cell BK107.out 0).trans rfl; have hcz47_1 : w46.cell? ⟨gb107, 1, none⟩ = some (.bool a0_1) := (blk_cell BK107.out 1).trans rfl; have hcz47_2 : w46.cell? ⟨gb107, 2, none⟩ = some (.int .i64 a0_2) := (blk_cell BK107.out 2).trans rfl; have hcz47_3 : w46.cell? ⟨gb107, 3, none⟩ = some (.slice A0_3 l0_3.length c0_3) := (blk_cell BK107.out 3).trans rfl; have hfz47_0 := blk_frozen BK107.out 0; have hfz47_1 := blk_frozen BK107.out 1; have hfz47_2 := blk_frozen BK107.out 2; have hfz47_3 := blk_frozen BK107.out 3) | ((with_reducible refine gate_callee (f := 31) rfl ?_); refine goesL_ (some 16) rfl rfl Try.func31 (by kernel_rfl) rfl #[.int .i64 a0_2] rfl (by (try simp only [List.map_toArray, List.map_cons, List.map_nil]); first | done | rfl | (simp only [List.length_drop, List.length_take]; rfl)) ?_; (with_reducible refine (names_may.calls a0_2 false _ A4.out).mono ?_); rintro e w' ⟨rfl, ⟨nd, rfl⟩⟩; refine ⟨_, rfl, ?_⟩))
      go_ret
      exact ⟨by first | rfl | (simp [errW_none, errW_some] <;> rfl) | (simp [*, errW_none, errW_some] <;> rfl), by repeat (first | (with_reducible first | exact HB.out | apply below_alloc | apply pw_below_drewN | apply below_drew1 | refine below_set ?_ GE107.out) | exact HB.out)⟩
  · replace c3 := Bool.eq_false_iff.mpr c3
    subst c3
    have H1 : (some 140) = some r := by rw [if_neg (show ¬ (false = true) by decide)] at H; exact H
    clear H
    have H := H1
    clear H1
    obtain rfl := Option.some.inj H
    go_enter Try.func11, Try.ntmps11
    go_wp2_with (first | ((with_reducible refine gate_dst (N := 1) rfl ?_); refine box_event ?hg (N := 1) ?hd (cs := #[.string a0_0, .bool a0_1, .int .i64 a0_2, .slice A0_3 l0_3.length c0_3]) (t := 24) ?hr ?_; (case hd => rfl); (case hg => rfl); (case hr => first | (go_simp; done) | (go_simp; rfl)); intro gb107 hg w48 hbox hb; have n0_ := Aside0.mk (below_step (by repeat (first | (with_reducible first | exact HB.out | apply below_alloc | apply pw_below_drewN | apply below_drew1) | exact HB.out)) hb); have n1_ := Aside0.mk (hbox); have n2_ := Aside0.mk ((by rw [hg]; exact (below_size (by repeat (first | (with_reducible first | exact HB.out | apply below_alloc | apply pw_below_drewN | apply below_drew1) | exact HB.out))) : w.heap.size ≤ gb107)); have n3_ := Aside0.mk ((by rw [hg]; exact (below_size (by repeat (first | (with_reducible first | exact HB.out | apply below_alloc | apply pw_below_drewN | apply below_drew1) | exact HB.out))) : w.heap.size ≤ gb107)); clear HB; have HB := n0_; have BK107 := n1_; have GW107 := n2_; have GE107 := n3_; clear n0_ n1_ n2_ n3_; clear hb hbox hg; have hcz49_0 : w48.cell? ⟨gb107, 0, none⟩ = some (.string a0_0) := (blk_cell BK107.out 0).trans rfl; have hcz49_1 : w48.cell? ⟨gb107, 1, none⟩ = some (.bool a0_1) := (blk_cell BK107.out 1).trans rfl; have hcz49_2 : w48.cell? ⟨gb107, 2, none⟩ = some (.int .i64 a0_2) := (blk_cell BK107.out 2).trans rfl; have hcz49_3 : w48.cell? ⟨gb107, 3, none⟩ = some (.slice A0_3 l0_3.length c0_3) := (blk_cell BK107.out 3).trans rfl; have hfz49_0 := blk_frozen BK107.out 0; have hfz49_1 := blk_frozen BK107.out 1; have hfz49_2 := blk_frozen BK107.out 2; have hfz49_3 := blk_frozen BK107.out 3) | ((with_reducible refine gate_callee (f := 30) rfl ?_); refine goesL_ (some 11) rfl rfl Try.func30 (by kernel_rfl) rfl #[.string a0_0] rfl (by (try simp only [List.map_toArray, List.map_cons, List.map_nil]); first | done | rfl | (simp only [List.length_drop, List.length_take]; rfl)) ?_; (with_reducible refine (toxic_Name.calls a0_0 false _ A2.out).mono ?_); rintro e w50 ⟨rfl, hb⟩; refine ⟨_, rfl, ?_⟩; have n0_ := Aside0.mk (blk_below (g := gb107) (o := .cells #[.string a0_0, .bool a0_1, .int .i64 a0_2, .slice A0_3 l0_3.length c0_3] 24 (0, 0)) (by (with_reducible repeat (first | refine blk_drewN ?_ _ | refine blk_drew ?_ | refine blk_alloc ?_ _)); exact BK107.out) hb); have n1_ := Aside0.mk (below_step (by repeat (first | (with_reducible first | exact HB.out | apply below_alloc | apply pw_below_drewN | apply below_drew1 | refine below_set ?_ GE107.out) | exact HB.out)) hb); clear BK107; clear HB; have BK107 := n0_; have HB := n1_; clear n0_ n1_; (try clear hb); (try clear hb2); (try clear hk); (try clear hi)))
    go_ret
    exact ⟨by first | rfl | (simp [errW_none, errW_some] <;> rfl) | (simp [*, errW_none, errW_some] <;> rfl), by repeat (first | (with_reducible first | exact HB.out | apply below_alloc | apply pw_below_drewN | apply below_drew1 | refine below_set ?_ GE107.out) | exact HB.out)⟩
end Go.Proofs.Ytlglbpjccpdloaa.PNamA
namespace Go.Proofs.Ytlglbpjccpdloaa.PToxR
open Go.Proofs.Ytlglbpjccpdloaa.Ext Go.RowKit Go.Proofs.YtlglbpjccpdloaaW.PrintWords Go.Proofs.YtlglbpjccpdloaaW.PrintLast Go.Proofs.YtlglbpjccpdloaaW.PrintMore
attribute [local go_sem] max2_int min2_int max_two min_two max_three min_three max_four min_four   -- for this text's walks alone
set_option linter.unusedVariables false
set_option linter.unusedSimpArgs false
def errW : Option Int → Value
  | none => .nilIface
  | some c => .iface 0 (.int .i64 c)
theorem errW_none : errW none = .nilIface := rfl
theorem errW_some (c : Int) : errW (some c) = .iface 0 (.int .i64 c) := rfl
end Go.Proofs.Ytlglbpjccpdloaa.PToxR
namespace Go.Proofs.Ytlglbpjccpdloaa.PToxR
open Go.Proofs.Ytlglbpjccpdloaa.Ext Go.RowKit Go.Proofs.YtlglbpjccpdloaaW.PrintWords Go.Proofs.YtlglbpjccpdloaaW.PrintLast Go.Proofs.YtlglbpjccpdloaaW.PrintMore
attribute [local go_sem] max2_int min2_int max_two min_two max_three min_three max_four min_four   -- for this text's walks alone
set_option linter.unusedVariables false
set_option linter.unusedSimpArgs false
def chicaneref09_Name.l0 : Nat → ByteArray → Int → Option (Bool)
  | 0, _, _ => none
  | k + 1, x0, x3 => if x3 < (x0.size : Int) then (if 0 ≤ x3 then (if (bt x0 x3) ≥ 97 then (if (bt x0 x3) ≥ 48 then (if ((bt x0 x3) ≤ 122) then (chicaneref09_Name.l0 k x0 (wrap64 (x3 + 1))) else (if ((bt x0 x3) ≤ 57) then (chicaneref09_Name.l0 k x0 (wrap64 (x3 + 1))) else (if (bt x0 x3) = 95 then (chicaneref09_Name.l0 k x0 (wrap64 (x3 + 1))) else (if (bt x0 x3) = 45 then (chicaneref09_Name.l0 k x0 (wrap64 (x3 + 1))) else (some false))))) else (if ((bt x0 x3) ≤ 122) then (chicaneref09_Name.l0 k x0 (wrap64 (x3 + 1))) else (if (bt x0 x3) = 95 then (chicaneref09_Name.l0 k x0 (wrap64 (x3 + 1))) else (if (bt x0 x3) = 45 then (chicaneref09_Name.l0 k x0 (wrap64 (x3 + 1))) else (some false))))) else (if (bt x0 x3) ≥ 48 then (if ((bt x0 x3) ≤ 57) then (chicaneref09_Name.l0 k x0 (wrap64 (x3 + 1))) else (if (bt x0 x3) = 95 then (chicaneref09_Name.l0 k x0 (wrap64 (x3 + 1))) else (if (bt x0 x3) = 45 then (chicaneref09_Name.l0 k x0 (wrap64 (x3 + 1))) else (some false)))) else (if (bt x0 x3) = 95 then (chicaneref09_Name.l0 k x0 (wrap64 (x3 + 1))) else (if (bt x0 x3) = 45 then (chicaneref09_Name.l0 k x0 (wrap64 (x3 + 1))) else (some false))))) else (none)) else (if (x0.size : Int) > 0 then (some (decide ((x0.size : Int) ≤ 16))) else (some false))
def chicaneref09_Name.f (k : Nat) (a0 : ByteArray) : Option (Bool) := chicaneref09_Name.l0 k a0 0
theorem chicaneref09_Name.mono_l : ∀ k, (∀ y0 y1, LeO (chicaneref09_Name.l0 k y0 y1) (chicaneref09_Name.l0 (k + 1) y0 y1))
  | 0 => fun _ _ r h => by simp [chicaneref09_Name.l0] at h
  | k + 1 => by
    have ih0 := chicaneref09_Name.mono_l k
    · intro y0 y1
      unfold chicaneref09_Name.l0
      repeat' first
      | (with_reducible exact ih0 _ _)
      | (with_reducible exact LeO.refl _)
      | (with_reducible exact LeO.none _)
      | (with_reducible refine LeO.ite ?_ ?_)
      | (with_reducible refine LeO.bind ?_ (fun _ => ?_))
      | exact ih0 _ _
      | exact LeO.none _
      | refine LeO.ite ?_ ?_
      | refine LeO.bind ?_ (fun _ => ?_)
theorem chicaneref09_Name.mono : ∀ a0 k, LeO (chicaneref09_Name.f k a0) (chicaneref09_Name.f (k + 1) a0) := by
  intro a0 k
  have ih0 := chicaneref09_Name.mono_l k
  unfold chicaneref09_Name.f
  repeat' first
      | (with_reducible exact ih0 _ _)
      | (with_reducible exact LeO.refl _)
      | (with_reducible exact LeO.none _)
      | (with_reducible refine LeO.ite ?_ ?_)
      | (with_reducible refine LeO.bind ?_ (fun _ => ?_))
      | exact ih0 _ _
      | exact LeO.none _
      | refine LeO.ite ?_ ?_
      | refine LeO.bind ?_ (fun _ => ?_)
def chicaneref01_Top.f  : Option (Int) := some 1099511627776
def chicaneref01_Near.f (a0 : Int) : Option (Int) := if a0 < 0 then (some 0) else ((chicaneref01_Top.f).bind fun t101 => (if a0 > t101 then ((chicaneref01_Top.f).bind fun t102 => (some t102)) else (some a0)))
def chicaneref09_right.f (a0 : Int) : Option (Bool) := (chicaneref01_Near.f a0).bind fun t103 => (some (t103 == a0))
def chicaneref09_numbers.j0 : Nat → Bool → ByteArray → Int → Bool → Int → Int → Int → Option (Bool)
  | 0, _, _, _, _, _, _, _ => none
  | k + 1, x12, x105000, x105001, x105002, x105003, x105004, x105005 => if x12 = true then (some false) else (if x105001 = 1 then (some (decide (x105005 ≤ x105004))) else (if x105001 = 2 then (if x105005 ≥ 1 then (some (decide (x105005 ≤ 4096))) else (some false)) else (if x105001 = 3 then (if x105004 ≥ 1 then (some (decide (x105004 ≤ 4096))) else (some false)) else (if x105001 = 4 then (if x105004 > 0 then (some (x105005 == 0)) else (some false)) else (if x105001 = 5 then (if x105004 > 0 then (some (x105005 == 0)) else (some false)) else (some (x105005 == 0)))))))
def chicaneref09_numbers.f (k : Nat) (a0_0 : ByteArray) (a0_1 : Int) (a0_2 : Bool) (a0_3 : Int) (a0_4 : Int) (a0_5 : Int) : Option (Bool) := (chicaneref09_right.f a0_4).bind fun t105 => (if t105 = true then ((chicaneref09_right.f a0_5).bind fun t106 => (chicaneref09_numbers.j0 k (!t106) a0_0 a0_1 a0_2 a0_3 a0_4 a0_5)) else (chicaneref09_numbers.j0 k true a0_0 a0_1 a0_2 a0_3 a0_4 a0_5))
theorem chicaneref09_numbers.mono_l : ∀ k, (∀ y0 y1 y2 y3 y4 y5 y6, LeO (chicaneref09_numbers.j0 k y0 y1 y2 y3 y4 y5 y6) (chicaneref09_numbers.j0 (k + 1) y0 y1 y2 y3 y4 y5 y6))
  | 0 => fun _ _ _ _ _ _ _ r h => by simp [chicaneref09_numbers.j0] at h
  | k + 1 => by
    have ih0 := chicaneref09_numbers.mono_l k
    · intro y0 y1 y2 y3 y4 y5 y6
      unfold chicaneref09_numbers.j0
      repeat' first
      | (with_reducible exact ih0 _ _ _ _ _ _ _)
      | (with_reducible exact LeO.refl _)
      | (with_reducible exact LeO.none _)
      | (with_reducible refine LeO.ite ?_ ?_)
      | (with_reducible refine LeO.bind ?_ (fun _ => ?_))
      | exact ih0 _ _ _ _ _ _ _
      | exact LeO.none _
      | refine LeO.ite ?_ ?_
      | refine LeO.bind ?_ (fun _ => ?_)
theorem chicaneref09_numbers.mono : ∀ a0 a1 a2 a3 a4 a5 k, LeO (chicaneref09_numbers.f k a0 a1 a2 a3 a4 a5) (chicaneref09_numbers.f (k + 1) a0 a1 a2 a3 a4 a5) := by
  intro a0 a1 a2 a3 a4 a5 k
  have ih0 := chicaneref09_numbers.mono_l k
  unfold chicaneref09_numbers.f
  repeat' first
      | (with_reducible exact ih0 _ _ _ _ _ _ _)
      | (with_reducible exact LeO.refl _)
      | (with_reducible exact LeO.none _)
      | (with_reducible refine LeO.ite ?_ ?_)
      | (with_reducible refine LeO.bind ?_ (fun _ => ?_))
      | exact ih0 _ _ _ _ _ _ _
      | exact LeO.none _
      | refine LeO.ite ?_ ?_
      | refine LeO.bind ?_ (fun _ => ?_)
end Go.Proofs.Ytlglbpjccpdloaa.PToxR
namespace Go.Proofs.Ytlglbpjccpdloaa.PToxR
open Go.Proofs.Ytlglbpjccpdloaa.Ext Go.RowKit Go.Proofs.YtlglbpjccpdloaaW.PrintWords Go.Proofs.YtlglbpjccpdloaaW.PrintLast Go.Proofs.YtlglbpjccpdloaaW.PrintMore
attribute [local go_sem] max2_int min2_int max_two min_two max_three min_three max_four min_four   -- for this text's walks alone
set_option linter.unusedVariables false
set_option linter.unusedSimpArgs false
def chicaneref09_Check.j0 : Nat → Bool → ByteArray → Int → Bool → Int → Int → Int → Option (Int)
  | 0, _, _, _, _, _, _, _ => none
  | k + 1, x14, x108000, x108001, x108002, x108003, x108004, x108005 => if x14 = true then (some 91) else (if x108003 < 0 then (some 92) else (if x108003 > 100 then (some 92) else ((chicaneref09_numbers.f k x108000 x108001 x108002 x108003 x108004 x108005).bind fun t109 => (if t109 = true then (some 0) else (some 92)))))
def chicaneref09_Check.f (k : Nat) (a0_0 : ByteArray) (a0_1 : Int) (a0_2 : Bool) (a0_3 : Int) (a0_4 : Int) (a0_5 : Int) : Option (Int) := (chicaneref09_Name.f k a0_0).bind fun t108 => (if t108 = true then (if a0_1 < 1 then (chicaneref09_Check.j0 k true a0_0 a0_1 a0_2 a0_3 a0_4 a0_5) else (chicaneref09_Check.j0 k (decide (a0_1 > 7)) a0_0 a0_1 a0_2 a0_3 a0_4 a0_5)) else (some 90))
theorem chicaneref09_Check.mono_l : ∀ k, (∀ y0 y1 y2 y3 y4 y5 y6, LeO (chicaneref09_Check.j0 k y0 y1 y2 y3 y4 y5 y6) (chicaneref09_Check.j0 (k + 1) y0 y1 y2 y3 y4 y5 y6))
  | 0 => fun _ _ _ _ _ _ _ r h => by simp [chicaneref09_Check.j0] at h
  | k + 1 => by
    have ih0 := chicaneref09_Check.mono_l k
    · intro y0 y1 y2 y3 y4 y5 y6
      unfold chicaneref09_Check.j0
      repeat' first
      | (with_reducible exact ih0 _ _ _ _ _ _ _)
      | (with_reducible exact chicaneref09_Name.mono _ _)
      | (with_reducible exact chicaneref09_numbers.mono _ _ _ _ _ _ _)
      | (with_reducible exact LeO.refl _)
      | (with_reducible exact LeO.none _)
      | (with_reducible refine LeO.ite ?_ ?_)
      | (with_reducible refine LeO.bind ?_ (fun _ => ?_))
      | exact ih0 _ _ _ _ _ _ _
      | exact chicaneref09_Name.mono _ _
      | exact chicaneref09_numbers.mono _ _ _ _ _ _ _
      | exact LeO.none _
      | refine LeO.ite ?_ ?_
      | refine LeO.bind ?_ (fun _ => ?_)
theorem chicaneref09_Check.mono : ∀ a0 a1 a2 a3 a4 a5 k, LeO (chicaneref09_Check.f k a0 a1 a2 a3 a4 a5) (chicaneref09_Check.f (k + 1) a0 a1 a2 a3 a4 a5) := by
  intro a0 a1 a2 a3 a4 a5 k
  have ih0 := chicaneref09_Check.mono_l k
  unfold chicaneref09_Check.f
  repeat' first
      | (with_reducible exact ih0 _ _ _ _ _ _ _)
      | (with_reducible exact chicaneref09_Name.mono _ _)
      | (with_reducible exact chicaneref09_numbers.mono _ _ _ _ _ _ _)
      | (with_reducible exact LeO.refl _)
      | (with_reducible exact LeO.none _)
      | (with_reducible refine LeO.ite ?_ ?_)
      | (with_reducible refine LeO.bind ?_ (fun _ => ?_))
      | exact ih0 _ _ _ _ _ _ _
      | exact chicaneref09_Name.mono _ _
      | exact chicaneref09_numbers.mono _ _ _ _ _ _ _
      | exact LeO.none _
      | refine LeO.ite ?_ ?_
      | refine LeO.bind ?_ (fun _ => ?_)
def chicaneref09_Word.f (a0 : Int) : Option (ByteArray) := if a0 = 1 then (some (⟨#[108, 97, 116, 101, 110, 99, 121]⟩ : ByteArray)) else (if a0 = 2 then (some (⟨#[98, 97, 110, 100, 119, 105, 100, 116, 104]⟩ : ByteArray)) else (if a0 = 3 then (some (⟨#[115, 108, 105, 99, 101, 114]⟩ : ByteArray)) else (if a0 = 4 then (some (⟨#[116, 105, 109, 101, 111, 117, 116]⟩ : ByteArray)) else (if a0 = 5 then (some (⟨#[114, 101, 115, 101, 116, 95, 112, 101, 101, 114]⟩ : ByteArray)) else (if a0 = 6 then (some (⟨#[108, 105, 109, 105, 116, 95, 100, 97, 116, 97]⟩ : ByteArray)) else (if a0 = 7 then (some (⟨#[115, 108, 111, 119, 95, 99, 108, 111, 115, 101]⟩ : ByteArray)) else (some (⟨#[]⟩ : ByteArray))))))))
def chicaneref01_Text.l0 : Nat → Int → ByteArray → Option (ByteArray)
  | 0, _, _ => none
  | k + 1, x0, x3 => if x0 > 0 then (if 0 ≤ (Int.tmod x0 10) then (if (Int.tmod x0 10) ≤ (wrap64 ((Int.tmod x0 10) + 1)) then (if (wrap64 ((Int.tmod x0 10) + 1)) ≤ 10 then (if ((⟨#[48, 49, 50, 51, 52, 53, 54, 55, 56, 57]⟩ : ByteArray).extract ((Int.tmod x0 10) : Int).toNat ((wrap64 ((Int.tmod x0 10) + 1)) : Int).toNat).size + x3.size ≤ 9223372036854775807 then (chicaneref01_Text.l0 k (wrap64 (Int.tdiv x0 10)) (((⟨#[48, 49, 50, 51, 52, 53, 54, 55, 56, 57]⟩ : ByteArray).extract ((Int.tmod x0 10) : Int).toNat ((wrap64 ((Int.tmod x0 10) + 1)) : Int).toNat) ++ x3)) else (none)) else (none)) else (none)) else (none)) else (if x3.toList = ([] : List UInt8) then (if 0 ≤ (Int.tmod x0 10) then (if (Int.tmod x0 10) ≤ (wrap64 ((Int.tmod x0 10) + 1)) then (if (wrap64 ((Int.tmod x0 10) + 1)) ≤ 10 then (if ((⟨#[48, 49, 50, 51, 52, 53, 54, 55, 56, 57]⟩ : ByteArray).extract ((Int.tmod x0 10) : Int).toNat ((wrap64 ((Int.tmod x0 10) + 1)) : Int).toNat).size + x3.size ≤ 9223372036854775807 then (chicaneref01_Text.l0 k (wrap64 (Int.tdiv x0 10)) (((⟨#[48, 49, 50, 51, 52, 53, 54, 55, 56, 57]⟩ : ByteArray).extract ((Int.tmod x0 10) : Int).toNat ((wrap64 ((Int.tmod x0 10) + 1)) : Int).toNat) ++ x3)) else (none)) else (none)) else (none)) else (none)) else (some x3))
def chicaneref01_Text.f (k : Nat) (a0 : Int) : Option (ByteArray) := (chicaneref01_Near.f a0).bind fun t110 => (chicaneref01_Text.l0 k t110 (⟨#[]⟩ : ByteArray))
theorem chicaneref01_Text.mono_l : ∀ k, (∀ y0 y1, LeO (chicaneref01_Text.l0 k y0 y1) (chicaneref01_Text.l0 (k + 1) y0 y1))
  | 0 => fun _ _ r h => by simp [chicaneref01_Text.l0] at h
  | k + 1 => by
    have ih0 := chicaneref01_Text.mono_l k
    · intro y0 y1
      unfold chicaneref01_Text.l0
      repeat' first
      | (with_reducible exact ih0 _ _)
      | (with_reducible exact LeO.refl _)
      | (with_reducible exact LeO.none _)
      | (with_reducible refine LeO.ite ?_ ?_)
      | (with_reducible refine LeO.bind ?_ (fun _ => ?_))
      | exact ih0 _ _
      | exact LeO.none _
      | refine LeO.ite ?_ ?_
      | refine LeO.bind ?_ (fun _ => ?_)
theorem chicaneref01_Text.mono : ∀ a0 k, LeO (chicaneref01_Text.f k a0) (chicaneref01_Text.f (k + 1) a0) := by
  intro a0 k
  have ih0 := chicaneref01_Text.mono_l k
  unfold chicaneref01_Text.f
  repeat' first
      | (with_reducible exact ih0 _ _)
      | (with_reducible exact LeO.refl _)
      | (with_reducible exact LeO.none _)
      | (with_reducible refine LeO.ite ?_ ?_)
      | (with_reducible refine LeO.bind ?_ (fun _ => ?_))
      | exact ih0 _ _
      | exact LeO.none _
      | refine LeO.ite ?_ ?_
      | refine LeO.bind ?_ (fun _ => ?_)
end Go.Proofs.Ytlglbpjccpdloaa.PToxR
set_option linter.unusedVariables false
set_option linter.unusedSimpArgs false
set_option linter.unusedVariables false
set_option linter.unusedSimpArgs false
set_option linter.unusedVariables false
set_option linter.unusedSimpArgs false
set_option linter.unusedVariables false
set_option linter.unusedSimpArgs false
namespace Go.Proofs.Ytlglbpjccpdloaa.ToxRef
open Go.RowKit Go.Proofs.Ytlglbpjccpdloaa.Ext Go.Proofs.Ytlglbpjccpdloaa.Tox Go.Proofs.Ytlglbpjccpdloaa.PToxR Go.Proofs.YtlglbpjccpdloaaW.PrintWords Go.Proofs.YtlglbpjccpdloaaW.PrintLast
def wayR (up : Bool) : ByteArray := if up then ⟨#[32, 117, 112, 32]⟩ else ⟨#[32, 100, 111, 119, 110, 32]⟩
def blk : ByteArray := ⟨#[32]⟩
def refText (n : ByteArray) (k : Int) (up : Bool) (o a b : Int) : ByteArray :=
  if checkOf n k up o a b = 0 then
    if k ≤ 3 then n ++ blk ++ wordOf k ++ wayR up ++ tickText o ++ blk ++ tickText a ++ blk ++ tickText b
    else n ++ blk ++ wordOf k ++ wayR up ++ tickText o ++ blk ++ tickText a
  else ⟨#[]⟩
end Go.Proofs.Ytlglbpjccpdloaa.ToxRef
set_option linter.unusedVariables false
set_option linter.unusedSimpArgs false
namespace Go.Proofs.Ytlglbpjccpdloaa.ToxZ
open Go.RowKit Go.Proofs.Ytlglbpjccpdloaa.Tox Go.Proofs.Ytlglbpjccpdloaa.Ext Go.Proofs.Ytlglbpjccpdloaa.ToxRef Go.Proofs.YtlglbpjccpdloaaW.PrintWords Go.Proofs.YtlglbpjccpdloaaW.PrintLast
def chicaneref09_Text.f (a0_0 : ByteArray) (a0_1 : Int) (a0_2 : Bool) (a0_3 a0_4 a0_5 : Int) : Option ByteArray := if a0_0.size ≤ 9223372036854775807 then some (refText a0_0 a0_1 a0_2 a0_3 a0_4 a0_5) else none
def chicaneref09_Check.f (a0_0 : ByteArray) (a0_1 : Int) (a0_2 : Bool) (a0_3 a0_4 a0_5 : Int) : Option Int := if a0_0.size ≤ 9223372036854775807 then some (checkOf a0_0 a0_1 a0_2 a0_3 a0_4 a0_5) else none
def chicaneref09_Name.f (a0 : ByteArray) : Option Bool := if a0.size ≤ 9223372036854775807 then some (nameOk a0) else none
def chicaneref09_Word.f (a0 : Int) : Option ByteArray := some (wordOf a0)
end Go.Proofs.Ytlglbpjccpdloaa.ToxZ
namespace Go.Proofs.Ytlglbpjccpdloaa.PNamA
open Go.Proofs.Ytlglbpjccpdloaa.Ext Go.Proofs.Ytlglbpjccpdloaa.ToxZ Go.RowKit Go.Proofs.YtlglbpjccpdloaaW.PrintWords Go.Proofs.YtlglbpjccpdloaaW.PrintLast Go.Proofs.YtlglbpjccpdloaaW.PrintMore
attribute [local go_sem] max2_int min2_int max_two min_two max_three min_three max_four min_four   -- for this text's walks alone
set_option linter.unusedVariables false
set_option linter.unusedSimpArgs false
def chicaneref14_find.l0 : Nat → List (S39) → ByteArray → Int → Option (Int)
  | 0, _, _, _ => none
  | k + 1, x0, x1, x5 => if x5 < (x0.length : Int) then (if 0 ≤ x5 then (if ((rd_T39 x0 x5).f0).toList = x1.toList then (some x5) else (chicaneref14_find.l0 k x0 x1 (wrap64 (x5 + 1)))) else (none)) else (some (-1))
def chicaneref14_find.f (k : Nat) (l0 : List (S39)) (a1 : ByteArray) : Option (Int) := chicaneref14_find.l0 k l0 a1 0
theorem chicaneref14_find.mono_l : ∀ k, (∀ y0 y1 y2, LeO (chicaneref14_find.l0 k y0 y1 y2) (chicaneref14_find.l0 (k + 1) y0 y1 y2))
  | 0 => fun _ _ _ r h => by simp [chicaneref14_find.l0] at h
  | k + 1 => by
    have ih0 := chicaneref14_find.mono_l k
    · intro y0 y1 y2
      unfold chicaneref14_find.l0
      repeat' first
      | (with_reducible exact ih0 _ _ _)
      | (with_reducible exact LeO.refl _)
      | (with_reducible exact LeO.none _)
      | (with_reducible refine LeO.ite ?_ ?_)
      | (with_reducible refine LeO.bind ?_ (fun _ => ?_))
      | exact ih0 _ _ _
      | exact LeO.none _
      | refine LeO.ite ?_ ?_
      | refine LeO.bind ?_ (fun _ => ?_)
theorem chicaneref14_find.mono : ∀ a0 a1 k, LeO (chicaneref14_find.f k a0 a1) (chicaneref14_find.f (k + 1) a0 a1) := by
  intro a0 a1 k
  have ih0 := chicaneref14_find.mono_l k
  unfold chicaneref14_find.f
  repeat' first
      | (with_reducible exact ih0 _ _ _)
      | (with_reducible exact LeO.refl _)
      | (with_reducible exact LeO.none _)
      | (with_reducible refine LeO.ite ?_ ?_)
      | (with_reducible refine LeO.bind ?_ (fun _ => ?_))
      | exact ih0 _ _ _
      | exact LeO.none _
      | refine LeO.ite ?_ ?_
      | refine LeO.bind ?_ (fun _ => ?_)
mutual
def chicaneref14_Check.j0 : Nat → Bool → ByteArray → Bool → Int → List (S39) → Option (Int)
  | 0, _, _, _, _, _ => none
  | k + 1, x17, x168000, x168001, x168002, x168003 => if x17 = true then (some 144) else (if (x168003.length : Int) > 8 then (some 143) else (chicaneref14_Check.l0 k 0 x168000 x168001 x168002 x168003))
def chicaneref14_Check.l0 : Nat → Int → ByteArray → Bool → Int → List (S39) → Option (Int)
  | 0, _, _, _, _, _ => none
  | k + 1, x3, x168000, x168001, x168002, x168003 => if x3 < (x168003.length : Int) then (if 0 ≤ x3 then ((chicaneref09_Check.f ((rd_T39 x168003 x3).f0) ((rd_T39 x168003 x3).f1) ((rd_T39 x168003 x3).f2) ((rd_T39 x168003 x3).f3) ((rd_T39 x168003 x3).f4) ((rd_T39 x168003 x3).f5)).bind fun t170 => (if t170 = 0 then (chicaneref14_Check.l0 k (wrap64 (x3 + 1)) x168000 x168001 x168002 x168003) else (some t170))) else (none)) else (chicaneref14_Check.l1 k 0 x168000 x168001 x168002 x168003)
def chicaneref14_Check.l1 : Nat → Int → ByteArray → Bool → Int → List (S39) → Option (Int)
  | 0, _, _, _, _, _ => none
  | k + 1, x5, x168000, x168001, x168002, x168003 => if x5 < (x168003.length : Int) then (if 0 ≤ x5 then (if x5 ≤ (x168003.length : Int) then ((chicaneref14_find.f k (x168003.take (x5 : Int).toNat) ((rd_T39 x168003 x5).f0)).bind fun t176 => (if t176 ≥ 0 then (some 141) else (chicaneref14_Check.l1 k (wrap64 (x5 + 1)) x168000 x168001 x168002 x168003))) else (none)) else (none)) else (some 0)
end
def chicaneref14_Check.f (k : Nat) (a0_0 : ByteArray) (a0_1 : Bool) (a0_2 : Int) (l0_3 : List (S39)) : Option (Int) := (chicaneref09_Name.f a0_0).bind fun t168 => (if t168 = true then (if a0_2 < 1 then (chicaneref14_Check.j0 k true a0_0 a0_1 a0_2 l0_3) else (chicaneref14_Check.j0 k (decide (a0_2 > 16)) a0_0 a0_1 a0_2 l0_3)) else (some 140))
theorem chicaneref14_Check.mono_l : ∀ k, (∀ y0 y1 y2 y3 y4, LeO (chicaneref14_Check.j0 k y0 y1 y2 y3 y4) (chicaneref14_Check.j0 (k + 1) y0 y1 y2 y3 y4)) ∧ (∀ y0 y1 y2 y3 y4, LeO (chicaneref14_Check.l0 k y0 y1 y2 y3 y4) (chicaneref14_Check.l0 (k + 1) y0 y1 y2 y3 y4)) ∧ (∀ y0 y1 y2 y3 y4, LeO (chicaneref14_Check.l1 k y0 y1 y2 y3 y4) (chicaneref14_Check.l1 (k + 1) y0 y1 y2 y3 y4))
  | 0 => ⟨fun _ _ _ _ _ r h => by simp [chicaneref14_Check.j0] at h, fun _ _ _ _ _ r h => by simp [chicaneref14_Check.l0] at h, fun _ _ _ _ _ r h => by simp [chicaneref14_Check.l1] at h⟩
  | k + 1 => by
    obtain ⟨ih0, ih1, ih2⟩ := chicaneref14_Check.mono_l k
    refine ⟨?_, ?_, ?_⟩
    · intro y0 y1 y2 y3 y4
      unfold chicaneref14_Check.j0
      repeat' first
      | (with_reducible exact ih0 _ _ _ _ _)
      | (with_reducible exact ih1 _ _ _ _ _)
      | (with_reducible exact ih2 _ _ _ _ _)
      | (with_reducible exact chicaneref14_find.mono _ _ _)
      | (with_reducible exact LeO.refl _)
      | (with_reducible exact LeO.none _)
      | (with_reducible refine LeO.ite ?_ ?_)
      | (with_reducible refine LeO.bind ?_ (fun _ => ?_))
      | exact ih0 _ _ _ _ _
      | exact ih1 _ _ _ _ _
      | exact ih2 _ _ _ _ _
      | exact chicaneref14_find.mono _ _ _
      | exact LeO.none _
      | refine LeO.ite ?_ ?_
      | refine LeO.bind ?_ (fun _ => ?_)
    · intro y0 y1 y2 y3 y4
      unfold chicaneref14_Check.l0
      repeat' first
      | (with_reducible exact ih0 _ _ _ _ _)
      | (with_reducible exact ih1 _ _ _ _ _)
      | (with_reducible exact ih2 _ _ _ _ _)
      | (with_reducible exact chicaneref14_find.mono _ _ _)
      | (with_reducible exact LeO.refl _)
      | (with_reducible exact LeO.none _)
      | (with_reducible refine LeO.ite ?_ ?_)
      | (with_reducible refine LeO.bind ?_ (fun _ => ?_))
      | exact ih0 _ _ _ _ _
      | exact ih1 _ _ _ _ _
      | exact ih2 _ _ _ _ _
      | exact chicaneref14_find.mono _ _ _
      | exact LeO.none _
      | refine LeO.ite ?_ ?_
      | refine LeO.bind ?_ (fun _ => ?_)
    · intro y0 y1 y2 y3 y4
      unfold chicaneref14_Check.l1
      repeat' first
      | (with_reducible exact ih0 _ _ _ _ _)
      | (with_reducible exact ih1 _ _ _ _ _)
      | (with_reducible exact ih2 _ _ _ _ _)
      | (with_reducible exact chicaneref14_find.mono _ _ _)
      | (with_reducible exact LeO.refl _)
      | (with_reducible exact LeO.none _)
      | (with_reducible refine LeO.ite ?_ ?_)
      | (with_reducible refine LeO.bind ?_ (fun _ => ?_))
      | exact ih0 _ _ _ _ _
      | exact ih1 _ _ _ _ _
      | exact ih2 _ _ _ _ _
      | exact chicaneref14_find.mono _ _ _
      | exact LeO.none _
      | refine LeO.ite ?_ ?_
      | refine LeO.bind ?_ (fun _ => ?_)
theorem chicaneref14_Check.mono : ∀ a0 a1 a2 a3 k, LeO (chicaneref14_Check.f k a0 a1 a2 a3) (chicaneref14_Check.f (k + 1) a0 a1 a2 a3) := by
  intro a0 a1 a2 a3 k
  obtain ⟨ih0, ih1, ih2⟩ := chicaneref14_Check.mono_l k
  unfold chicaneref14_Check.f
  repeat' first
      | (with_reducible exact ih0 _ _ _ _ _)
      | (with_reducible exact ih1 _ _ _ _ _)
      | (with_reducible exact ih2 _ _ _ _ _)
      | (with_reducible exact chicaneref14_find.mono _ _ _)
      | (with_reducible exact LeO.refl _)
      | (with_reducible exact LeO.none _)
      | (with_reducible refine LeO.ite ?_ ?_)
      | (with_reducible refine LeO.bind ?_ (fun _ => ?_))
      | exact ih0 _ _ _ _ _
      | exact ih1 _ _ _ _ _
      | exact ih2 _ _ _ _ _
      | exact chicaneref14_find.mono _ _ _
      | exact LeO.none _
      | refine LeO.ite ?_ ?_
      | refine LeO.bind ?_ (fun _ => ?_)
def chicaneref01_Top.f  : Option (Int) := some 1099511627776
def chicaneref01_Near.f (a0 : Int) : Option (Int) := if a0 < 0 then (some 0) else ((chicaneref01_Top.f).bind fun t177 => (if a0 > t177 then ((chicaneref01_Top.f).bind fun t178 => (some t178)) else (some a0)))
end Go.Proofs.Ytlglbpjccpdloaa.PNamA
namespace Go.Proofs.Ytlglbpjccpdloaa.PNamA
open Go.Proofs.Ytlglbpjccpdloaa.Ext Go.Proofs.Ytlglbpjccpdloaa.ToxZ Go.RowKit Go.Proofs.YtlglbpjccpdloaaW.PrintWords Go.Proofs.YtlglbpjccpdloaaW.PrintLast Go.Proofs.YtlglbpjccpdloaaW.PrintMore
attribute [local go_sem] max2_int min2_int max_two min_two max_three min_three max_four min_four   -- for this text's walks alone
set_option linter.unusedVariables false
set_option linter.unusedSimpArgs false
def chicaneref01_Text.l0 : Nat → Int → ByteArray → Option (ByteArray)
  | 0, _, _ => none
  | k + 1, x0, x3 => if x0 > 0 then (if 0 ≤ (Int.tmod x0 10) then (if (Int.tmod x0 10) ≤ (wrap64 ((Int.tmod x0 10) + 1)) then (if (wrap64 ((Int.tmod x0 10) + 1)) ≤ 10 then (if ((⟨#[48, 49, 50, 51, 52, 53, 54, 55, 56, 57]⟩ : ByteArray).extract ((Int.tmod x0 10) : Int).toNat ((wrap64 ((Int.tmod x0 10) + 1)) : Int).toNat).size + x3.size ≤ 9223372036854775807 then (chicaneref01_Text.l0 k (wrap64 (Int.tdiv x0 10)) (((⟨#[48, 49, 50, 51, 52, 53, 54, 55, 56, 57]⟩ : ByteArray).extract ((Int.tmod x0 10) : Int).toNat ((wrap64 ((Int.tmod x0 10) + 1)) : Int).toNat) ++ x3)) else (none)) else (none)) else (none)) else (none)) else (if x3.toList = ([] : List UInt8) then (if 0 ≤ (Int.tmod x0 10) then (if (Int.tmod x0 10) ≤ (wrap64 ((Int.tmod x0 10) + 1)) then (if (wrap64 ((Int.tmod x0 10) + 1)) ≤ 10 then (if ((⟨#[48, 49, 50, 51, 52, 53, 54, 55, 56, 57]⟩ : ByteArray).extract ((Int.tmod x0 10) : Int).toNat ((wrap64 ((Int.tmod x0 10) + 1)) : Int).toNat).size + x3.size ≤ 9223372036854775807 then (chicaneref01_Text.l0 k (wrap64 (Int.tdiv x0 10)) (((⟨#[48, 49, 50, 51, 52, 53, 54, 55, 56, 57]⟩ : ByteArray).extract ((Int.tmod x0 10) : Int).toNat ((wrap64 ((Int.tmod x0 10) + 1)) : Int).toNat) ++ x3)) else (none)) else (none)) else (none)) else (none)) else (some x3))
def chicaneref01_Text.f (k : Nat) (a0 : Int) : Option (ByteArray) := (chicaneref01_Near.f a0).bind fun t179 => (chicaneref01_Text.l0 k t179 (⟨#[]⟩ : ByteArray))
theorem chicaneref01_Text.mono_l : ∀ k, (∀ y0 y1, LeO (chicaneref01_Text.l0 k y0 y1) (chicaneref01_Text.l0 (k + 1) y0 y1))
  | 0 => fun _ _ r h => by simp [chicaneref01_Text.l0] at h
  | k + 1 => by
    have ih0 := chicaneref01_Text.mono_l k
    · intro y0 y1
      unfold chicaneref01_Text.l0
      repeat' first
      | (with_reducible exact ih0 _ _)
      | (with_reducible exact LeO.refl _)
      | (with_reducible exact LeO.none _)
      | (with_reducible refine LeO.ite ?_ ?_)
      | (with_reducible refine LeO.bind ?_ (fun _ => ?_))
      | exact ih0 _ _
      | exact LeO.none _
      | refine LeO.ite ?_ ?_
      | refine LeO.bind ?_ (fun _ => ?_)
theorem chicaneref01_Text.mono : ∀ a0 k, LeO (chicaneref01_Text.f k a0) (chicaneref01_Text.f (k + 1) a0) := by
  intro a0 k
  have ih0 := chicaneref01_Text.mono_l k
  unfold chicaneref01_Text.f
  repeat' first
      | (with_reducible exact ih0 _ _)
      | (with_reducible exact LeO.refl _)
      | (with_reducible exact LeO.none _)
      | (with_reducible refine LeO.ite ?_ ?_)
      | (with_reducible refine LeO.bind ?_ (fun _ => ?_))
      | exact ih0 _ _
      | exact LeO.none _
      | refine LeO.ite ?_ ?_
      | refine LeO.bind ?_ (fun _ => ?_)
mutual
def chicaneref14_Lines.j0 : Nat → ByteArray → ByteArray → Bool → Int → List (S39) → Option (List ByteArray)
  | 0, _, _, _, _, _ => none
  | k + 1, x3, x181000, x181001, x181002, x181003 => if x181000.size + x3.size ≤ 9223372036854775807 then ((chicaneref01_Text.f k x181002).bind fun t182 => (if (x181000 ++ x3).size + t182.size ≤ 9223372036854775807 then (if ((x181000 ++ x3) ++ t182).size + 1 ≤ 9223372036854775807 then ((chicaneref01_Text.f k (x181003.length : Int)).bind fun t183 => (if (((x181000 ++ x3) ++ t182) ++ (⟨#[32]⟩ : ByteArray)).size + t183.size ≤ 9223372036854775807 then (chicaneref14_Lines.l0 k (([(((x181000 ++ x3) ++ t182) ++ (⟨#[32]⟩ : ByteArray)) ++ t183] : List ByteArray)) 0 x181000 x181001 x181002 x181003) else (none))) else (none)) else (none))) else (none)
def chicaneref14_Lines.l0 : Nat → List ByteArray → Int → ByteArray → Bool → Int → List (S39) → Option (List ByteArray)
  | 0, _, _, _, _, _, _ => none
  | k + 1, x4, x5, x181000, x181001, x181002, x181003 => if x5 < (x181003.length : Int) then (if 0 ≤ x5 then ((chicaneref09_Text.f ((rd_T39 x181003 x5).f0) ((rd_T39 x181003 x5).f1) ((rd_T39 x181003 x5).f2) ((rd_T39 x181003 x5).f3) ((rd_T39 x181003 x5).f4) ((rd_T39 x181003 x5).f5)).bind fun t188 => (if x4.length < 8796093022208 then (chicaneref14_Lines.l0 k (x4 ++ [t188]) (wrap64 (x5 + 1)) x181000 x181001 x181002 x181003) else (none))) else (none)) else (some x4)
end
def chicaneref14_Lines.f (k : Nat) (a0_0 : ByteArray) (a0_1 : Bool) (a0_2 : Int) (l0_3 : List (S39)) : Option (List ByteArray) := (chicaneref14_Check.f k a0_0 a0_1 a0_2 l0_3).bind fun t181 => (if t181 = 0 then (if a0_1 = true then (chicaneref14_Lines.j0 k (⟨#[32, 111, 110, 32]⟩ : ByteArray) a0_0 a0_1 a0_2 l0_3) else (chicaneref14_Lines.j0 k (⟨#[32, 111, 102, 102, 32]⟩ : ByteArray) a0_0 a0_1 a0_2 l0_3)) else (some ([] : List ByteArray)))
theorem chicaneref14_Lines.mono_l : ∀ k, (∀ y0 y1 y2 y3 y4, LeO (chicaneref14_Lines.j0 k y0 y1 y2 y3 y4) (chicaneref14_Lines.j0 (k + 1) y0 y1 y2 y3 y4)) ∧ (∀ y0 y1 y2 y3 y4 y5, LeO (chicaneref14_Lines.l0 k y0 y1 y2 y3 y4 y5) (chicaneref14_Lines.l0 (k + 1) y0 y1 y2 y3 y4 y5))
  | 0 => ⟨fun _ _ _ _ _ r h => by simp [chicaneref14_Lines.j0] at h, fun _ _ _ _ _ _ r h => by simp [chicaneref14_Lines.l0] at h⟩
  | k + 1 => by
    obtain ⟨ih0, ih1⟩ := chicaneref14_Lines.mono_l k
    refine ⟨?_, ?_⟩
    · intro y0 y1 y2 y3 y4
      unfold chicaneref14_Lines.j0
      repeat' first
      | (with_reducible exact ih0 _ _ _ _ _)
      | (with_reducible exact ih1 _ _ _ _ _ _)
      | (with_reducible exact chicaneref01_Text.mono _ _)
      | (with_reducible exact chicaneref14_Check.mono _ _ _ _ _)
      | (with_reducible exact LeO.refl _)
      | (with_reducible exact LeO.none _)
      | (with_reducible refine LeO.ite ?_ ?_)
      | (with_reducible refine LeO.bind ?_ (fun _ => ?_))
      | exact ih0 _ _ _ _ _
      | exact ih1 _ _ _ _ _ _
      | exact chicaneref01_Text.mono _ _
      | exact chicaneref14_Check.mono _ _ _ _ _
      | exact LeO.none _
      | refine LeO.ite ?_ ?_
      | refine LeO.bind ?_ (fun _ => ?_)
    · intro y0 y1 y2 y3 y4 y5
      unfold chicaneref14_Lines.l0
      repeat' first
      | (with_reducible exact ih0 _ _ _ _ _)
      | (with_reducible exact ih1 _ _ _ _ _ _)
      | (with_reducible exact chicaneref01_Text.mono _ _)
      | (with_reducible exact chicaneref14_Check.mono _ _ _ _ _)
      | (with_reducible exact LeO.refl _)
      | (with_reducible exact LeO.none _)
      | (with_reducible refine LeO.ite ?_ ?_)
      | (with_reducible refine LeO.bind ?_ (fun _ => ?_))
      | exact ih0 _ _ _ _ _
      | exact ih1 _ _ _ _ _ _
      | exact chicaneref01_Text.mono _ _
      | exact chicaneref14_Check.mono _ _ _ _ _
      | exact LeO.none _
      | refine LeO.ite ?_ ?_
      | refine LeO.bind ?_ (fun _ => ?_)
theorem chicaneref14_Lines.mono : ∀ a0 a1 a2 a3 k, LeO (chicaneref14_Lines.f k a0 a1 a2 a3) (chicaneref14_Lines.f (k + 1) a0 a1 a2 a3) := by
  intro a0 a1 a2 a3 k
  obtain ⟨ih0, ih1⟩ := chicaneref14_Lines.mono_l k
  unfold chicaneref14_Lines.f
  repeat' first
      | (with_reducible exact ih0 _ _ _ _ _)
      | (with_reducible exact ih1 _ _ _ _ _ _)
      | (with_reducible exact chicaneref01_Text.mono _ _)
      | (with_reducible exact chicaneref14_Check.mono _ _ _ _ _)
      | (with_reducible exact LeO.refl _)
      | (with_reducible exact LeO.none _)
      | (with_reducible refine LeO.ite ?_ ?_)
      | (with_reducible refine LeO.bind ?_ (fun _ => ?_))
      | exact ih0 _ _ _ _ _
      | exact ih1 _ _ _ _ _ _
      | exact chicaneref01_Text.mono _ _
      | exact chicaneref14_Check.mono _ _ _ _ _
      | exact LeO.none _
      | refine LeO.ite ?_ ?_
      | refine LeO.bind ?_ (fun _ => ?_)
end Go.Proofs.Ytlglbpjccpdloaa.PNamA
namespace Go.Proofs.Ytlglbpjccpdloaa.PNamA
open Go.Proofs.Ytlglbpjccpdloaa.Ext Go.Proofs.Ytlglbpjccpdloaa.ToxZ Go.RowKit Go.Proofs.YtlglbpjccpdloaaW.PrintWords Go.Proofs.YtlglbpjccpdloaaW.PrintLast Go.Proofs.YtlglbpjccpdloaaW.PrintMore
attribute [local go_sem] max2_int min2_int max_two min_two max_three min_three max_four min_four   -- for this text's walks alone
set_option linter.unusedVariables false
set_option linter.unusedSimpArgs false
def chicaneref14_Right.l0 : Nat → List (S24) → Int → Option (Bool)
  | 0, _, _ => none
  | k + 1, x0, x3 => if x3 < (x0.length : Int) then (if 0 ≤ x3 then ((chicaneref14_Check.f k ((rd_T24 x0 x3).f0) ((rd_T24 x0 x3).f1) ((rd_T24 x0 x3).f2) ((rd_T24 x0 x3).f3)).bind fun t249 => (if t249 = 0 then (if x3 > 0 then (if 0 ≤ (wrap64 (x3 - 1)) then (if (wrap64 (x3 - 1)) < (x0.length : Int) then (if ((Op.bytesLess (((rd_T24 x0 (wrap64 (x3 - 1))).f0).toList) (((rd_T24 x0 x3).f0).toList)) = true) then (chicaneref14_Right.l0 k x0 (wrap64 (x3 + 1))) else (some false)) else (none)) else (none)) else (chicaneref14_Right.l0 k x0 (wrap64 (x3 + 1)))) else (some false))) else (none)) else (some (decide ((x0.length : Int) ≤ 8)))
def chicaneref14_Right.f (k : Nat) (l0 : List (S24)) : Option (Bool) := chicaneref14_Right.l0 k l0 0
theorem chicaneref14_Right.mono_l : ∀ k, (∀ y0 y1, LeO (chicaneref14_Right.l0 k y0 y1) (chicaneref14_Right.l0 (k + 1) y0 y1))
  | 0 => fun _ _ r h => by simp [chicaneref14_Right.l0] at h
  | k + 1 => by
    have ih0 := chicaneref14_Right.mono_l k
    · intro y0 y1
      unfold chicaneref14_Right.l0
      repeat' first
      | (with_reducible exact ih0 _ _)
      | (with_reducible exact chicaneref14_Check.mono _ _ _ _ _)
      | (with_reducible exact LeO.refl _)
      | (with_reducible exact LeO.none _)
      | (with_reducible refine LeO.ite ?_ ?_)
      | (with_reducible refine LeO.bind ?_ (fun _ => ?_))
      | exact ih0 _ _
      | exact chicaneref14_Check.mono _ _ _ _ _
      | exact LeO.none _
      | refine LeO.ite ?_ ?_
      | refine LeO.bind ?_ (fun _ => ?_)
theorem chicaneref14_Right.mono : ∀ a0 k, LeO (chicaneref14_Right.f k a0) (chicaneref14_Right.f (k + 1) a0) := by
  intro a0 k
  have ih0 := chicaneref14_Right.mono_l k
  unfold chicaneref14_Right.f
  repeat' first
      | (with_reducible exact ih0 _ _)
      | (with_reducible exact chicaneref14_Check.mono _ _ _ _ _)
      | (with_reducible exact LeO.refl _)
      | (with_reducible exact LeO.none _)
      | (with_reducible refine LeO.ite ?_ ?_)
      | (with_reducible refine LeO.bind ?_ (fun _ => ?_))
      | exact ih0 _ _
      | exact chicaneref14_Check.mono _ _ _ _ _
      | exact LeO.none _
      | refine LeO.ite ?_ ?_
      | refine LeO.bind ?_ (fun _ => ?_)
end Go.Proofs.Ytlglbpjccpdloaa.PNamA
